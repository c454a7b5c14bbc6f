/- What scalar.SetUint returns: a new section with the field's bits changed; the old one where the field is absent. Conditions: the width is one of the document's; the section takes at most 2^20 bytes. -/
import Derived.Test.YtdnhbjcfhljcnaaSc7
import Derived.RangeFuncBox
import Derived.Laws.BitsAllLaws
set_option linter.unusedVariables false
set_option linter.unusedSimpArgs false
namespace Go.Proofs.Ytdnhbjcfhljcnaa
open Go.RowKit

/-- The bits from p on, changed to those of f. -/
def upd (g : Nat → Bool) (p n : Nat) (f : Nat → Bool) (t : Nat) : Bool := if p ≤ t ∧ t < p + n then f (t - p) else g t
/-- The section with a field changed to the bits of x. -/
def sL (xs : List Int) (n m x : Nat) : List Int := L (upd (fb xs) (n * m) n x.testBit) xs.length
theorem clone_is (A : Option Addr) (n c : Nat) (xs : List Int) (w : World) (hn : n ≤ 1048576) (h : Rd w A n xs) (h0 : A = none → n = 0) :
    Calls Try.prog 25 #[.slice A n c] w fun e w' => (∃ v, e = .returned v ∧ w'.ownsRow w.heap.size 5 1 v n (nums .u8 xs)) ∧ Below w.heap.size w w' := clone_any A n c xs w (by omega) h h0
theorem xor_fact (a b : Nat) (ha : a < 18446744073709551616) (hb : b < 18446744073709551616) : ∃ x : Nat, x < 18446744073709551616 ∧ Hid (x = a ^^^ b) ∧ bits .xor .u64 (a : Int) (b : Int) = (x : Int) :=
  ⟨a ^^^ b, Nat.xor_lt_two_pow (n := 64) ha hb, rfl, bits_xor_u64_nat a b ha hb⟩

theorem set_absent (n : Nat) (hn : Wd n) (i : Int) (A : Option Addr) (len cap : Nat) (d v : Nat) (hl : len ≤ 1048576) (hp : Pr len n i = false) (w : World) :
    Calls Try.prog 11 #[.slice A len cap, .int .i64 n, .int .i64 i, .int .u64 d, .int .u64 v] w fun e w' => e = .returned (.tuple #[.slice A len cap, .bool false]) ∧ w = w' := by
  have HP := Lib.hid hp
  clear hp
  go_enter Try.func11, Try.ntmps11
  go_wp2_with fail
  refine (present_is n hn i A len cap hl false HP.out _).mono ?_
  rintro e' w' ⟨rfl, rfl⟩
  go_wp2
  refine bodyPost_ret (v := .tuple #[.slice A len cap, .bool false]) (by simp [results, Try.results11, go_sem]) rfl ⟨rfl, rfl⟩
theorem bit_put (y r : Nat) (hy : y ≤ 255) (hr : r < 8) (b : Bool) : bits .or .u8 (bits .andNot .u8 (y : Int) (2 ^ r % 256)) ((nb b : Int) % 256 * 2 ^ r % 256) = ((U (fun t => if t = r then b else y.testBit t) 8 : Nat) : Int) := by
  have h1 : (2 : Nat) ^ r ≤ 2 ^ 7 := Nat.pow_le_pow_right (by omega) (by omega)
  have h0 : (0 : Int) < 2 ^ r := Int.pow_pos (by decide)
  have h2 : ((2 : Int) ^ r % 256) = ((2 ^ r : Nat) : Int) := by
    have : ((2 ^ r : Nat) : Int) = (2 : Int) ^ r := by simp
    omega
  have h3 : (nb b : Int) % 256 * 2 ^ r % 256 = ((nb b * 2 ^ r : Nat) : Int) := by
    have : ((2 ^ r : Nat) : Int) = (2 : Int) ^ r := by simp
    cases b <;> simp [nb] <;> omega
  have h4 : nb b * 2 ^ r < 2 ^ 8 := by cases b <;> simp [nb] <;> omega
  have h5 : y &&& (255 - 2 ^ r) < 2 ^ 8 := Nat.lt_of_le_of_lt Nat.and_le_left (by omega)
  rw [h2, h3, u8_andNot_nat y (2 ^ r) (by omega) (by omega), (bits_nat .u8 8 (by decide) wraps_u8 _ _ h5 h4).2]
  congr 1
  apply Nat.eq_of_testBit_eq
  intro k
  have h6 : 255 - 2 ^ r = 2 ^ 8 - (2 ^ r + 1) := by omega
  rw [Nat.testBit_or, Nat.testBit_and, h6, Nat.testBit_two_pow_sub_succ (by omega), testBit_U, Nat.testBit_two_pow]
  have h7 : (nb b * 2 ^ r).testBit k = (decide (r = k) && b) := by
    cases b
    · simp [nb]
    · simp [nb, Nat.testBit_two_pow]
  rw [h7]
  by_cases hk : k < 8
  · by_cases hkr : k = r
    · subst hkr; simp [hk]
    · have : ¬ r = k := fun h => hkr h.symm
      simp [hk, hkr, this]
  · have : ¬ r = k := by omega
    simp [hk, this]
theorem set_list (xs : List Int) (q : Nat) (z : Int) : nums .u8 (xs.set q z) = (nums .u8 xs).set q (.int .u8 z) := by simp [nums, List.map_set]
theorem sL_bit {xs : List Int} (hx : ∀ j, 0 ≤ xs.getD j 0 ∧ xs.getD j 0 ≤ 255) (m q r x y : Nat) (hq : m / 8 = q) (hr : m % 8 = r) (hy : xs.getD q 0 = y) :
    xs.set q ((U (fun t => if t = r then x.testBit 0 else y.testBit t) 8 : Nat) : Int) = sL xs 1 m x := by
  unfold sL
  have h := L_set (f := fb xs) (g := upd (fb xs) (1 * m) 1 x.testBit) (n := xs.length) (j := q) (v := ((U (fun t => if t = r then x.testBit 0 else y.testBit t) 8 : Nat) : Int))
    (fun t ht => by
      unfold upd
      rw [if_neg (by omega)])
    (by
      congr 1
      exact U_congr fun t ht => by
        unfold upd
        by_cases htr : t = r
        · rw [if_pos htr, if_pos (by omega), show 8 * q + t - 1 * m = 0 by omega]
        · rw [if_neg htr, if_neg (by omega)]
          unfold fb
          rw [show (8 * q + t) / 8 = q by omega, show (8 * q + t) % 8 = t by omega, hy, Int.toNat_natCast])
  rw [L_fb hx] at h
  exact h
set_option maxHeartbeats 1000000 in
theorem set_bit (m : Nat) (A : Option Addr) (len cap : Nat) (xs : List Int) (d v : Nat) (hd : d < 18446744073709551616) (hv : v < 18446744073709551616) (hl : len ≤ 1048576) (hp : Pr len 1 m = true) (hm : m < 8 * len) (w : World) (hR : Rd w A len xs) (hA : A = none → len = 0) :
    Calls Try.prog 11 #[.slice A len cap, .int .i64 1, .int .i64 m, .int .u64 d, .int .u64 v] w fun e w' => (∃ r, e = .returned (.tuple #[r, .bool true]) ∧ w'.ownsRow w.heap.size 5 1 r len (nums .u8 (sL xs 1 m (v ^^^ d)))) ∧ Below w.heap.size w w' := by
  have HP := Lib.hid hp
  clear hp
  obtain ⟨x, hx, hxx, hxor⟩ := xor_fact v d hv hd
  have hRx := hR.2.2
  have hRl := hR.1
  obtain ⟨y, hy⟩ : ∃ y : Nat, Hid (xs.getD (m / 8) 0 = y) := ⟨(xs.getD (m / 8) 0).toNat, by show _ = _; have := hRx (m / 8); omega⟩
  have hy1 : y ≤ 255 := by have := hRx (m / 8); rw [hy.out] at this; omega
  obtain ⟨q, hq⟩ : ∃ q : Nat, Hid (m / 8 = q) := ⟨_, rfl⟩
  obtain ⟨r, hrr⟩ : ∃ r : Nat, Hid (m % 8 = r) := ⟨_, rfl⟩
  have hq1 : (m : Int) / 8 = q := by rw [← hq.out]; omega
  have hr1 : (m : Int) % 8 = r := by rw [← hrr.out]; omega
  have hq0 : q < len := by rw [← hq.out]; omega
  have hqi : (q : Int) < len := by omega
  have hqz : (0 : Int) ≤ q := by omega
  have hr8 : r < 8 := by rw [← hrr.out]; omega
  have hm0 : (0 : Int) ≤ m := Int.natCast_nonneg m
  rw [hq.out] at hy
  obtain ⟨g, hg⟩ : ∃ g : Bool, Hid (x.testBit 0 = g) := ⟨_, rfl⟩
  have HL : Hid (U x.testBit 1 = nb g) := by show _ = _; simp [U, nb, ← hg.out]
  obtain ⟨ng, hng⟩ : ∃ ng, Hid (nb g = ng) := ⟨_, rfl⟩
  rw [hng.out] at HL
  have HR := Lib.hid hR
  clear hR
  go_enter Try.func11, Try.ntmps11
  go_wp2_with fail
  refine (present_is 1 (by simp [Wd]) m A len cap hl true HP.out _).mono ?_
  rintro e' w' ⟨rfl, rfl⟩
  go_wp2_with fail
  refine (clone_is A len cap xs _ hl HR.out hA).mono ?_
  rintro e' w1 ⟨⟨v1, rfl, hown⟩, hb1⟩
  go_wp2_with fail
  refine (low_is 1 (by simp [Wd]) x hx ng HL.out _).mono ?_
  rintro e' w2 ⟨rfl, hb2⟩
  have hown2 := own_below hown hb2
  have hbb := hb1.trans (hb2.mono hb1.size)
  clear hown hb1 hb2
  obtain ⟨k, rfl⟩ : ∃ k, len = k + 1 := ⟨len - 1, by omega⟩
  obtain ⟨g1, cap1, rfl⟩ := ownsRow_succ hown2
  have hcell : w2.cell? ⟨g1, q, none⟩ = some (.int .u8 y) := by
    rw [hown2.cellAt q (by omega), ← hy.out]
    have hl : q < xs.length := by omega
    simp [nums, List.getD_eq_getElem?_getD, List.getElem?_eq_getElem hl]
  have hfr := hown2.frozenAt q
  have HO := Lib.hid hown2
  clear hown2
  go_wp2
  have hs := HO.out.stored q (.int .u8 (bits .or .u8 (bits .andNot .u8 (y : Int) (2 ^ r % 256)) ((ng : Int) % 256 * 2 ^ r % 256)))
  refine bodyPost_ret (v := .tuple #[.slice (some ⟨g1, 0, none⟩) (k + 1) cap1, .bool true]) (by simp [results, Try.results11, go_sem]) rfl ?_
  have hgb := own_base HO.out g1 rfl
  refine ⟨⟨_, rfl, ?_⟩, hbb.grown hs.2 (by have := hbb.size; omega) (fun k hk => by cases hk; exact hgb)⟩
  have h2 := hs.1
  rw [← hng.out, bit_put y r hy1 hr8 g, ← set_list, ← hg.out, sL_bit hRx m q r x y hq.out hrr.out hy.out] at h2
  rw [← hng.out, bit_put y r hy1 hr8 g, ← hg.out, ← hxx.out]
  exact h2
end Go.Proofs.Ytdnhbjcfhljcnaa
