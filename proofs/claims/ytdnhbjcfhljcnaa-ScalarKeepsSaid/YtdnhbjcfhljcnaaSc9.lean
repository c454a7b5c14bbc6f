/- What scalar.SetUint returns of fields of whole bytes, and of every field. Conditions: the width is one of the document's; the section takes at most 2^20 bytes. -/
import Derived.Test.YtdnhbjcfhljcnaaSc8
set_option linter.unusedVariables false
set_option linter.unusedSimpArgs false
namespace Go.Proofs.Ytdnhbjcfhljcnaa
open Go.RowKit

/-- The section in the middle of the loop. -/
def mL (xs : List Int) (p k x : Nat) : List Int := L (upd (fb xs) (8 * p) (8 * k) x.testBit) xs.length
theorem mL_zero {xs : List Int} (hx : ∀ j, 0 ≤ xs.getD j 0 ∧ xs.getD j 0 ≤ 255) (p x : Nat) : mL xs p 0 x = xs := by
  unfold mL
  rw [show L (upd (fb xs) (8 * p) (8 * 0) x.testBit) xs.length = L (fb xs) xs.length from L_congr fun t ht => by unfold upd; rw [if_neg (by omega)], L_fb hx]
theorem mL_succ (xs : List Int) (p k x l n : Nat) (hl : U x.testBit n = l) (hk : 8 * k + 8 ≤ n) : (mL xs p k x).set (p + k) ((l / 2 ^ (8 * k) % 256 : Nat) : Int) = mL xs p (k + 1) x := by
  unfold mL
  apply L_set
  · intro t ht
    unfold upd
    by_cases h : 8 * p ≤ t ∧ t < 8 * p + 8 * k
    · rw [if_pos h, if_pos (by omega)]
    · rw [if_neg h, if_neg (by omega)]
  · congr 1
    have e : l / 2 ^ (8 * k) % 2 ^ 8 = byteOf (upd (fb xs) (8 * p) (8 * (k + 1)) x.testBit) (p + k) := by
      apply Nat.eq_of_testBit_eq
      intro t
      rw [Nat.testBit_mod_two_pow, ← Nat.shiftRight_eq_div_pow, Nat.testBit_shiftRight, ← hl, testBit_U, byteOf, testBit_U]
      by_cases ht : t < 8
      · unfold upd
        rw [if_pos (by omega), show 8 * (p + k) + t - 8 * p = 8 * k + t by omega]
        have : 8 * k + t < n := by omega
        simp [ht, this]
      · simp [ht]
    exact e
theorem mL_length (xs : List Int) (p k x : Nat) : (mL xs p k x).length = xs.length := L_length _ _

set_option maxHeartbeats 2000000 in
theorem set_wide (s : Nat) (hs : s = 1 ∨ s = 2 ∨ s = 4 ∨ s = 8) (m : Nat) (A : Option Addr) (len cap : Nat) (xs : List Int) (d v : Nat) (hd : d < 18446744073709551616) (hv : v < 18446744073709551616) (hl : len ≤ 1048576) (hp : Pr len (8 * s) m = true) (hm : s * m + s ≤ len) (w : World) (hR : Rd w A len xs) (hA : A = none → len = 0) (n : Nat) (hn : n = 8 * s) :
    Calls Try.prog 11 #[.slice A len cap, .int .i64 n, .int .i64 m, .int .u64 d, .int .u64 v] w fun e w' => (∃ r, e = .returned (.tuple #[r, .bool true]) ∧ w'.ownsRow w.heap.size 5 1 r len (nums .u8 (sL xs n m (v ^^^ d)))) ∧ Below w.heap.size w w' := by
  have hWd : Wd n := by rcases hs with rfl | rfl | rfl | rfl <;> simp [Wd, hn]
  rw [← hn] at hp
  have HP := Lib.hid hp
  have HN := Lib.hid hn
  obtain ⟨x, hx, hxx, hxor⟩ := xor_fact v d hv hd
  have hRx := hR.2.2
  have hRl := hR.1
  have hs8 : s ≤ 8 := by omega
  have hs1 : 1 ≤ s := by omega
  have hn8 : 8 ≤ n := by omega
  have hn64 : n ≤ 64 := by omega
  have hnd : (n : Int) / 8 = s := by omega
  have hn0 : (0 : Int) ≤ n := Int.natCast_nonneg _
  have hnl : ¬ (n : Int) < 8 := by omega
  obtain ⟨p, hpp⟩ : ∃ p, Hid (s * m = p) := ⟨_, rfl⟩
  rw [hpp.out] at hm
  have hsm : (s : Int) * (m : Int) = p := by rw [← hpp.out]; simp
  have hp0 : (0 : Int) ≤ p := Int.natCast_nonneg _
  obtain ⟨ld, hld⟩ : ∃ ld, Hid (U x.testBit n = ld) := ⟨_, rfl⟩
  have hld0 : (0 : Int) ≤ ld := Int.natCast_nonneg _
  have HR := Lib.hid hR
  have HRl := Lib.hid hRl
  clear hR hs hp hn hRl
  go_enter Try.func11, Try.ntmps11
  go_wp2_with fail
  refine (present_is n hWd m A len cap hl true HP.out _).mono ?_
  rintro e' w' ⟨rfl, rfl⟩
  go_wp2_with fail
  refine (clone_is A len cap xs _ hl HR.out hA).mono ?_
  rintro e' w1 ⟨⟨v1, rfl, hown⟩, hb1⟩
  go_wp2_with fail
  refine (low_is n hWd x hx ld hld.out _).mono ?_
  rintro e' w2 ⟨rfl, hb2⟩
  have hown2 := own_below hown hb2
  have hbb := hb1.trans (hb2.mono hb1.size)
  clear hown hb1 hb2
  obtain ⟨len', rfl⟩ : ∃ k, len = k + 1 := ⟨len - 1, by omega⟩
  obtain ⟨g1, cap1, rfl⟩ := ownsRow_succ hown2
  have hgb := own_base hown2 g1 rfl
  have HO := Lib.hid hown2
  clear hown2
  go_wp2_with fail
  go_loopw [14, 54] (fun a kk wr => ∃ k : Nat, k ≤ s ∧ kk = .int .i64 k ∧ Hid (wr.ownsRow w.heap.size 5 1 (.slice (some ⟨g1, 0, none⟩) (len' + 1) cap1) (len' + 1) (nums .u8 (mL xs p k x))) ∧ Below w.heap.size w wr) (fun _ kk _ => s - (intOf kk).toNat)
  case atStart => exact ⟨0, Nat.zero_le _, rfl, by rw [mL_zero hRx]; exact HO, hbb⟩
  case round =>
    obtain ⟨k, hk, rfl, HOk, hB⟩ := hrel
    clear HO
    have hk0 : (0 : Int) ≤ k := Int.natCast_nonneg _
    by_cases hks : k < s
    · have hksi : (k : Int) < s := by omega
      have hpk : (p : Int) + (k : Int) = ((p + k : Nat) : Int) := by omega
      have hq0 : (0 : Int) ≤ ((p + k : Nat) : Int) := by omega
      have hq1 : ((p + k : Nat) : Int) < ((len' + 1 : Nat) : Int) := by omega
      obtain ⟨q, hq⟩ : ∃ q, Hid (p + k = q) := ⟨_, rfl⟩
      rw [hq.out] at hpk hq0 hq1
      have hqn : q < len' + 1 := by omega
      obtain ⟨y, hcell⟩ : ∃ y, wr.cell? ⟨g1, q, none⟩ = some (.int .u8 y) := by
        rw [HOk.out.cellAt q (by omega)]
        have hl : q < (mL xs p k x).length := by rw [mL_length, HRl.out]; omega
        exact ⟨_, by simp [nums, List.getElem?_eq_getElem hl]; rfl⟩
      have hfr := HOk.out.frozenAt q
      have hst := HOk.out.stored q (.int .u8 ((ld : Int) / 2 ^ (8 * k) % 256))
      have HS := Lib.hid hst
      have e1 : ((ld : Int) / 2 ^ (8 * k) % 256) = ((ld / 2 ^ (8 * k) % 256 : Nat) : Int) := by simp
      have e2 := mL_succ xs p k x ld n hld.out (by have := HN.out; omega)
      rw [hq.out, ← e1] at e2
      have HE := Lib.hid e2
      clear hst e1 e2
      go_wp2
      go_roundw
      case rel =>
        refine ⟨k + 1, by omega, by go_num, ?_, hB.grown HS.out.2 (by have := hB.size; omega) (fun j hj => by cases hj; exact hgb)⟩
        have h2 := HS.out.1
        rw [← set_list, HE.out] at h2
        exact h2
      case measure => simp [intOf]; omega
    · obtain rfl : k = s := by omega
      have hksi : ¬ (k : Int) < k := by omega
      go_wp2
      refine bodyPost_ret (v := .tuple #[.slice (some ⟨g1, 0, none⟩) (len' + 1) cap1, .bool true]) (by simp [results, Try.results11, go_sem]) rfl ?_
      refine ⟨⟨_, rfl, ?_⟩, hB⟩
      have h2 := HOk.out
      have e : mL xs p k x = sL xs n m (v ^^^ d) := by
        have h3 := HN.out
        unfold mL sL
        rw [← hxx.out, ← hpp.out, ← h3, h3, Nat.mul_assoc]
      rw [e] at h2
      exact h2
end Go.Proofs.Ytdnhbjcfhljcnaa
