/- Bits of numbers and of byte lists, in plain Lean. No condition. -/
import Derived.Test.YtdnhbjcfhljcnaaBytes
set_option linter.unusedVariables false
set_option linter.unusedSimpArgs false
namespace Go.Proofs.Ytdnhbjcfhljcnaa
open Go.RowKit

/-- The number of the first n bits of f. -/
def U (f : Nat → Bool) : Nat → Nat
  | 0 => 0
  | n + 1 => U f n + if f n then 2 ^ n else 0
theorem U_lt (f : Nat → Bool) : ∀ n, U f n < 2 ^ n
  | 0 => by simp [U]
  | n + 1 => by
    have := U_lt f n
    simp only [U, Nat.pow_succ]
    split <;> omega
theorem testBit_U (f : Nat → Bool) : ∀ n k, (U f n).testBit k = (decide (k < n) && f k)
  | 0, k => by simp [U]
  | n + 1, k => by
    have hlt := U_lt f n
    have ih := testBit_U f n k
    simp only [U]
    by_cases hk : k < n
    · have h1 : k < n + 1 := by omega
      split
      · rw [Nat.add_comm, Nat.testBit_two_pow_add_gt hk, ih]; simp [hk, h1]
      · rw [Nat.add_zero, ih]; simp [hk, h1]
    · by_cases hkn : k = n
      · subst hkn
        split
        · rename_i h; rw [Nat.add_comm, Nat.testBit_two_pow_add_eq, ih]; simp [h]
        · rename_i h; rw [Nat.add_zero, ih]; simp [h]
      · have h1 : ¬ k < n + 1 := by omega
        have hp : 2 ^ n + 2 ^ n ≤ 2 ^ k := by
          have := Nat.pow_le_pow_right (n := 2) (by omega) (show n + 1 ≤ k by omega)
          rw [Nat.pow_succ] at this; omega
        rw [Nat.testBit_lt_two_pow (by split <;> omega)]
        simp [h1]
theorem eq_U {x n : Nat} (h : x < 2 ^ n) : x = U x.testBit n := by
  apply Nat.eq_of_testBit_eq
  intro k
  rw [testBit_U]
  by_cases hk : k < n
  · simp [hk]
  · have : x < 2 ^ k := Nat.lt_of_lt_of_le h (Nat.pow_le_pow_right (by omega) (by omega))
    simp [hk, Nat.testBit_lt_two_pow this]
theorem U_congr {f g : Nat → Bool} {n : Nat} (h : ∀ k, k < n → f k = g k) : U f n = U g n := by
  induction n with
  | zero => rfl
  | succ n ih => simp only [U]; rw [ih (fun k hk => h k (by omega)), h n (by omega)]
theorem U_inj {f g : Nat → Bool} {n : Nat} (h : U f n = U g n) (k : Nat) (hk : k < n) : f k = g k := by
  have := congrArg (fun x => x.testBit k) h
  simpa [testBit_U, hk] using this
theorem mod_U (x n : Nat) : x % 2 ^ n = U x.testBit n := by
  apply Nat.eq_of_testBit_eq
  intro k
  rw [testBit_U, Nat.testBit_mod_two_pow]
/-- One bit more. -/
theorem U_add {f g : Nat → Bool} {n p : Nat} (hp : p < n) (h0 : f p = false) (h1 : g p = true) (h : ∀ k, k ≠ p → g k = f k) : U g n = U f n + 2 ^ p := by
  induction n with
  | zero => omega
  | succ n ih =>
    simp only [U]
    by_cases hpn : p = n
    · subst hpn
      rw [h0, h1, U_congr (fun k hk => h k (by omega))]
      simp
    · rw [ih (by omega), h n (by omega)]
      omega
theorem U_succ (f : Nat → Bool) (n : Nat) : U f (n + 1) = U f n + if f n then 2 ^ n else 0 := rfl
theorem xor_U (f g : Nat → Bool) (n : Nat) : U f n ^^^ U g n = U (fun k => f k ^^ g k) n := by
  apply Nat.eq_of_testBit_eq
  intro k
  rw [Nat.testBit_xor, testBit_U, testBit_U, testBit_U]
  by_cases hk : k < n <;> simp [hk]

/-- A bit of a byte list. -/
def fb (xs : List Int) (m : Nat) : Bool := (xs.getD (m / 8) 0).toNat.testBit (m % 8)
/-- The byte list of n bytes with the bits g. -/
def byteOf (g : Nat → Bool) (j : Nat) : Nat := U (fun t => g (8 * j + t)) 8
def L (g : Nat → Bool) (n : Nat) : List Int := (List.range n).map fun j => (byteOf g j : Int)
theorem byteOf_lt (g : Nat → Bool) (j : Nat) : byteOf g j < 256 := U_lt _ 8
theorem L_length (g : Nat → Bool) (n : Nat) : (L g n).length = n := by simp [L]
theorem L_getD (g : Nat → Bool) (n j : Nat) (h : j < n) : (L g n).getD j 0 = (byteOf g j : Int) := by
  simp [L, List.getD_eq_getElem?_getD, List.getElem?_map, List.getElem?_range h]
theorem L_range (g : Nat → Bool) (n j : Nat) : 0 ≤ (L g n).getD j 0 ∧ (L g n).getD j 0 ≤ 255 := by
  by_cases h : j < n
  · rw [L_getD g n j h]; have := byteOf_lt g j; omega
  · have : (L g n).getD j 0 = 0 := by simp [L, List.getD_eq_getElem?_getD, List.getElem?_eq_none, h]
    omega
theorem fb_L (g : Nat → Bool) (n m : Nat) (h : m < 8 * n) : fb (L g n) m = g m := by
  unfold fb
  rw [L_getD g n _ (by omega), Int.toNat_natCast, byteOf, testBit_U, show 8 * (m / 8) + m % 8 = m by omega]
  simp; omega
theorem L_congr {f g : Nat → Bool} {n : Nat} (h : ∀ m, m < 8 * n → f m = g m) : L f n = L g n := by
  unfold L
  apply List.map_congr_left
  intro j hj
  have : j < n := by simpa using hj
  rw [byteOf, byteOf, U_congr fun k hk => h _ (by omega)]
theorem byteOf_fb {xs : List Int} {j : Nat} (h : 0 ≤ xs.getD j 0 ∧ xs.getD j 0 ≤ 255) : (byteOf (fb xs) j : Int) = xs.getD j 0 := by
  have h1 : (xs.getD j 0).toNat < 2 ^ 8 := by omega
  have h2 := eq_U h1
  have h3 : byteOf (fb xs) j = U (xs.getD j 0).toNat.testBit 8 := U_congr fun k hk => by
    unfold fb
    rw [show (8 * j + k) / 8 = j by omega, show (8 * j + k) % 8 = k by omega]
  rw [h3, ← h2]
  omega
theorem L_fb {xs : List Int} (h : ∀ j, 0 ≤ xs.getD j 0 ∧ xs.getD j 0 ≤ 255) : L (fb xs) xs.length = xs := by
  apply List.ext_getElem
  · simp [L]
  · intro j h1 h2
    have hj : j < xs.length := h2
    have e1 := L_getD (fb xs) xs.length j hj
    rw [byteOf_fb (h j)] at e1
    simpa [List.getD_eq_getElem?_getD, List.getElem?_eq_getElem h1, List.getElem?_eq_getElem h2] using e1
theorem L_set {f g : Nat → Bool} {n j : Nat} {v : Int} (h : ∀ m, m / 8 ≠ j → g m = f m) (hv : v = (byteOf g j : Int)) : (L f n).set j v = L g n := by
  apply List.ext_getElem
  · simp [L]
  · intro i h1 h2
    have hi : i < n := by simpa [L] using h2
    rw [List.getElem_set]
    by_cases hji : j = i
    · subst hji
      simp [L, hv]
    · rw [if_neg hji]
      simp only [L, List.getElem_map, List.getElem_range]
      rw [byteOf, byteOf, U_congr fun k hk => (h (8 * i + k) (by omega)).symm]
theorem fb_of_nil_eq {xs ys : List Int} (hx : ∀ j, 0 ≤ xs.getD j 0 ∧ xs.getD j 0 ≤ 255) (hy : ∀ j, 0 ≤ ys.getD j 0 ∧ ys.getD j 0 ≤ 255) (hl : xs.length = ys.length) (h : ∀ m, m < 8 * xs.length → fb xs m = fb ys m) : xs = ys := by
  rw [← L_fb hx, ← L_fb hy, ← hl]
  exact L_congr h
end Go.Proofs.Ytdnhbjcfhljcnaa
