/- What scalar.Uint and its reference return: the bits of the field, each turned where the default has a bit. Conditions: the width is one of the document's; the section takes at most 2^20 bytes. -/
import Derived.Test.YtdnhbjcfhljcnaaSc2
set_option linter.unusedVariables false
set_option linter.unusedSimpArgs false
namespace Go.Proofs.Ytdnhbjcfhljcnaa
open Go.RowKit

theorem U_split (g : Nat → Bool) (a : Nat) : ∀ r, U g (a + r) = U g a + 2 ^ a * U (fun t => g (a + t)) r
  | 0 => by simp [U]
  | r + 1 => by
    rw [← Nat.add_assoc, U_succ, U_split g a r, U_succ]
    split
    · rw [Nat.mul_add, Nat.pow_add]; omega
    · simp
/-- The value of a field. -/
def uV (xs : List Int) (n : Nat) (i : Int) (d : Nat) : Nat := U (fun k => (Pr xs.length n i && fb xs (n * i.toNat + k)) ^^ d.testBit k) n
theorem low_is (n : Nat) (hn : Wd n) (v : Nat) (hv : v < 18446744073709551616) (z : Nat) (hz : U v.testBit n = z) (w : World) :
    Calls Try.prog 26 #[.int .u64 v, .int .i64 n] w fun e w' => e = .returned (.int .u64 z) ∧ Below w.heap.size w w' := by
  subst hz
  rw [← mod_U]
  exact (low_any n hn v hv w).mono fun _ _ ⟨a, b⟩ => ⟨a, by subst b; exact Below.refl _ _⟩
theorem present_is (n : Nat) (hn : Wd n) (i : Int) (A : Option Addr) (len cap : Nat) (hl : len ≤ 1048576) (b : Bool) (hb : Pr len n i = b) (w : World) :
    Calls Try.prog 24 #[.slice A len cap, .int .i64 n, .int .i64 i] w fun e w' => e = .returned (.bool b) ∧ w = w' := by
  subst hb; exact present_any n hn i A len cap (by omega) w
theorem pr_nat {len n : Nat} {i : Int} (hn : Wd n) (h : Pr len n i = true) : ∃ m : Nat, i = m ∧ n * m + n ≤ 8 * len := by
  simp only [Pr, Bool.and_eq_true, decide_eq_true_eq] at h
  obtain ⟨h0, h1⟩ := h
  refine ⟨i.toNat, by omega, ?_⟩
  rcases hn with rfl | rfl | rfl | rfl | rfl <;> omega

theorem uint_absent (n : Nat) (hn : Wd n) (i : Int) (A : Option Addr) (len cap : Nat) (d : Nat) (hd : d < 18446744073709551616) (hl : len ≤ 1048576) (hp : Pr len n i = false) (w : World) :
    Calls Try.prog 13 #[.slice A len cap, .int .i64 n, .int .i64 i, .int .u64 d] w fun e w' => e = .returned (.int .u64 (U d.testBit n : Nat)) ∧ Below w.heap.size w w' := by
  obtain ⟨z, hz⟩ : ∃ z, Hid (U d.testBit n = z) := ⟨U d.testBit n, rfl⟩
  rw [hz.out]
  have HP := Lib.hid hp
  clear hp
  go_enter Try.func13, Try.ntmps13
  go_wp2_with fail
  refine (present_is n hn i A len cap hl false HP.out _).mono ?_
  rintro e' w' ⟨rfl, rfl⟩
  go_wp2_with fail
  refine (low_is n hn d hd z hz.out _).mono ?_
  rintro e' w' ⟨rfl, hb⟩
  go_wp2
  go_ret
  exact ⟨rfl, hb⟩
theorem uint_bit (m : Nat) (b off len cap : Nat) (d : Nat) (xs : List Int) (hd : d < 18446744073709551616) (hl : len ≤ 1048576) (hp : Pr len 1 m = true) (hm : m < 8 * len) (w : World) (hb : b < w.heap.size) (hx : ∀ j, 0 ≤ xs.getD j 0 ∧ xs.getD j 0 ≤ 255)
    (hc : ∀ j, j < len → w.cell? ⟨b, off + j, none⟩ = some (.int .u8 (xs.getD j 0))) :
    Calls Try.prog 13 #[.slice (some ⟨b, off, none⟩) len cap, .int .i64 1, .int .i64 m, .int .u64 d] w fun e w' => e = .returned (.int .u64 (nb (fb xs m ^^ d.testBit 0) : Nat)) ∧ Below w.heap.size w w' := by
  have HP := Lib.hid hp
  have h1 := hc (m / 8) (by omega)
  have hx' := hx (m / 8)
  obtain ⟨y, hy⟩ : ∃ y : Nat, Hid (xs.getD (m / 8) 0 = y) := ⟨(xs.getD (m / 8) 0).toNat, by show _ = _; omega⟩
  rw [hy.out] at h1 hx'
  obtain ⟨_, hy1⟩ := hx'
  have hF : Hid (fb xs m = y.testBit (m % 8)) := by show _ = _; unfold fb; rw [hy.out, Int.toNat_natCast]
  obtain ⟨q, hq⟩ : ∃ q : Nat, Hid (m / 8 = q) := ⟨_, rfl⟩
  obtain ⟨r, hrr⟩ : ∃ r : Nat, Hid (m % 8 = r) := ⟨_, rfl⟩
  rw [hq.out] at h1
  rw [hrr.out] at hF
  have hq1 : (m : Int) / 8 = q := by rw [← hq.out]; omega
  have hr1 : (m : Int) % 8 = r := by rw [← hrr.out]; omega
  have hq0 : q < len := by rw [← hq.out]; omega
  have hqi : (q : Int) < len := by omega
  have hqz : (0 : Int) ≤ q := by omega
  have hr8 : r < 8 := by rw [← hrr.out]; omega
  have hm0 : (0 : Int) ≤ m := Int.natCast_nonneg m
  have hw1 : IntKind.i64.wrap (q : Int) = q := IntWalk.i64_in _ (by omega)
  obtain ⟨f, hf⟩ : ∃ f : Bool, Hid (fb xs m = f) := ⟨_, rfl⟩
  rw [hf.out] at hF ⊢
  obtain ⟨g, hg⟩ : ∃ g : Bool, Hid (d.testBit 0 = g) := ⟨_, rfl⟩
  rw [hg.out]
  have HL : Hid (U d.testBit 1 = nb g) := by show _ = _; simp [U, nb, ← hg.out]
  have h2 : bits .and .u8 ((y : Int) / 2 ^ r) 1 = (nb f : Int) := by
    have e1 : (y : Int) / 2 ^ r = ((y / 2 ^ r : Nat) : Int) := by simp
    have e2 : y / 2 ^ r ≤ y := Nat.div_le_self _ _
    have e6 : y / 2 ^ r ≤ 255 := by omega
    have e7 : ((y / 2 ^ r : Nat) : Int) < 2 ^ 8 := by omega
    have e3 := bits_mask .u8 8 (by decide) wraps_u8 1 (by decide) ((y / 2 ^ r : Nat) : Int) (Int.natCast_nonneg _) e7
    have e4 : ((y / 2 ^ r : Nat) : Int) % 2 = ((y / 2 ^ r % 2 : Nat) : Int) := by omega
    rw [e1]
    refine e3.trans ((show _ = _ from e4).trans ?_)
    have e5 := hF.out
    rw [Nat.testBit_eq_decide_div_mod_eq] at e5
    subst e5
    by_cases h : y / 2 ^ r % 2 = 1
    · simp [nb, h]
    · simp [nb, h]; omega
  have h3 : bits .xor .u64 (nb f : Int) (nb g : Int) = (nb (f ^^ g) : Int) := by
    rw [bits_xor_u64_nat _ _ (by cases f <;> decide) (by cases g <;> decide)]
    cases f <;> cases g <;> rfl
  have h4 : (nb f : Int) ≤ 1 := by cases f <;> decide
  have h5 : (0 : Int) ≤ nb f := by omega
  obtain ⟨nf, hnf⟩ : ∃ nf, Hid (nb f = nf) := ⟨_, rfl⟩
  obtain ⟨ng, hng⟩ : ∃ ng, Hid (nb g = ng) := ⟨_, rfl⟩
  obtain ⟨z, hz⟩ : ∃ z, Hid (nb (f ^^ g) = z) := ⟨_, rfl⟩
  rw [hnf.out] at h2 h3 h4 h5
  rw [hng.out] at h3 HL
  rw [hz.out] at h3 ⊢
  clear hc hx hp
  have E : Hid (bits .xor .u64 (IntKind.u64.wrap (bits .and .u8 ((y : Int) / 2 ^ min (IntKind.u64.wrap ((m : Int).tmod 8)).toNat 8) 1)) (ng : Int) = z) := by
    show _ = _
    have t1 : (m : Int).tmod 8 = r := by rw [Int.tmod_eq_emod_of_nonneg (by omega), hr1]
    have t2 : IntKind.u64.wrap (r : Int) = r := by rw [IntKind.wrap_u64]; omega
    have t3 : min (r : Int).toNat 8 = r := by omega
    have t4 : IntKind.u64.wrap (nf : Int) = nf := by rw [IntKind.wrap_u64]; omega
    rw [t1, t2, t3, h2, t4, h3]
  clear h2 h3
  all_goals
    go_enter Try.func13, Try.ntmps13
    go_wp2_with fail
    refine (present_is 1 (by simp [Wd]) m (some ⟨b, off, none⟩) len cap hl true HP.out _).mono ?_
    rintro e' w' ⟨rfl, rfl⟩
    go_wp2_with fail
    refine wp_region_kept (by kernel_rfl) (by kernel_rfl) (fun C h1 h2 => ?_)
    repeat (
      first
        | (with_reducible refine quiet_not ?_ ?_
           · rfl)
        | (with_reducible apply quiet_do
           · rfl
           · intro W hW
             first
               | (go_simp; go_at_call 26; exact calls_kept (h1 _ hW) h2 (low_is 1 (by simp [Wd]) d hd ng HL.out _))
               | (obtain ⟨hc, hf⟩ := bcell (h1 _ hW); go_simp; first | exact rfl | exact ⟨rfl, rfl⟩))
      simp only [Act.put, List.setIfInBounds_toArray, List.set_cons_zero, List.set_cons_succ])
    with_reducible refine wpQuiet_nil ?_
    intro w2 hw_
    have hb2 := h1 _ hw_
    clear h1 h2 hw_
    go_wp2
    go_ret
    exact ⟨by simp [E.out], hb2⟩
end Go.Proofs.Ytdnhbjcfhljcnaa
