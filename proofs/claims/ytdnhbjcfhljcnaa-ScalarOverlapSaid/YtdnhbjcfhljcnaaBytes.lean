/- Byte slices as lists of numbers: a slice that is read, and one that the call itself made. No condition. -/
import Derived.Test.YtdnhbjcfhljcnaaKeep
import Derived.Laws.AppendOwn
import Derived.Laws.OwnMore
import Derived.Maps.AppendAt
set_option linter.unusedVariables false
set_option linter.unusedSimpArgs false
namespace Go.Proofs.Ytdnhbjcfhljcnaa
open Go.RowKit

/-- The slice of address A and length n reads as the bytes xs. -/
def Rd (w : World) (A : Option Addr) (n : Nat) (xs : List Int) : Prop :=
  xs.length = n ∧ (n = 0 ∨ ∃ b off, A = some ⟨b, off, none⟩ ∧ b < w.heap.size ∧ ∀ j, j < n → w.cell? ⟨b, off + j, none⟩ = some (.int .u8 (xs.getD j 0))) ∧ ∀ j, 0 ≤ xs.getD j 0 ∧ xs.getD j 0 ≤ 255
theorem Rd.below {w w1 : World} {A : Option Addr} {n : Nat} {xs : List Int} (h : Rd w A n xs) (hb : Below w.heap.size w w1) : Rd w1 A n xs := by
  obtain ⟨h1, h2, h3⟩ := h
  refine ⟨h1, ?_, h3⟩
  rcases h2 with h2 | ⟨b, off, rfl, hlt, hc⟩
  · exact .inl h2
  · exact .inr ⟨b, off, rfl, Nat.lt_of_lt_of_le hlt hb.size, fun j hj => (hb.cell (p := ⟨b, off + j, none⟩) hlt).trans (hc j hj)⟩
theorem Rd.keep {w W w1 : World} {A : Option Addr} {n : Nat} {xs : List Int} (h : Rd w A n xs) (hb : Below w.heap.size w w1) : Rd w1 A n xs := h.below hb
/-- Its first m bytes. -/
theorem Rd.take {w : World} {A : Option Addr} {n : Nat} {xs : List Int} (h : Rd w A n xs) (m : Nat) (hm : m ≤ n) : Rd w A m (xs.take m) := by
  obtain ⟨h1, h2, h3⟩ := h
  have e : ∀ j, j < m → (xs.take m).getD j 0 = xs.getD j 0 := fun j hj => by simp [List.getElem?_take, hj]
  refine ⟨by simp; omega, ?_, fun j => ?_⟩
  · rcases h2 with h2 | ⟨b, off, rfl, hlt, hc⟩
    · exact .inl (by omega)
    · exact .inr ⟨b, off, rfl, hlt, fun j hj => by rw [e j hj]; exact hc j (by omega)⟩
  · by_cases hj : j < m
    · rw [e j hj]; exact h3 j
    · have : (xs.take m).getD j 0 = 0 := by simp [List.getElem?_take, hj]
      omega
def nums (k : IntKind) (xs : List Int) : List Value := xs.map fun x => .int k x
theorem nums_length (k : IntKind) (xs : List Int) : (nums k xs).length = xs.length := by simp [nums]
theorem nums_append (k : IntKind) (xs ys : List Int) : nums k (xs ++ ys) = nums k xs ++ nums k ys := by simp [nums]
theorem nums_oneCell (k : IntKind) (xs : List Int) : ∀ u ∈ nums k xs, u.oneCell' = true := by
  intro u hu
  obtain ⟨x, _, rfl⟩ := List.mem_map.1 hu
  rfl
/-- What the call owns reads as what it owns. -/
theorem own_rd {w : World} {base n : Nat} {e : TypeId} {v : Value} {xs : List Int} (h : w.ownsRow base e 1 v n (nums .u8 xs)) (hx : ∀ j, 0 ≤ xs.getD j 0 ∧ xs.getD j 0 ≤ 255) : ∃ A c, v = .slice A n c ∧ Rd w A n xs := by
  have hl : xs.length = n := by have := h.1; simpa [nums] using this
  rcases h.2 with ⟨rfl, rfl⟩ | ⟨g, cap, cur, rfl, _, hh, _, _, _, _⟩
  · exact ⟨none, 0, rfl, hl, .inl rfl, hx⟩
  · refine ⟨_, cap, rfl, hl, .inr ⟨g, 0, rfl, (Array.getElem?_eq_some_iff.1 hh).1, fun j hj => ?_⟩, hx⟩
    have hc := h.cells (g := g) rfl j (.int .u8 (xs.getD j 0)) (by simp [nums, List.getElem?_eq_getElem (show j < xs.length by omega), List.getD_eq_getElem?_getD])
    simpa [Addr.add_lit] using hc
/-- A slice that is read, as the source of an append. -/
theorem Rd.news {w : World} {b off n : Nat} {xs : List Int} (hl : xs.length = n) (hc : ∀ j, j < n → w.cell? ⟨b, off + j, none⟩ = some (.int .u8 (xs.getD j 0))) : ∀ j u, (nums .u8 xs)[j]? = some u → w.cell? ((⟨b, off, none⟩ : Addr).add j) = some u := by
  intro j u hj
  have hlt : j < xs.length := by
    have := (List.getElem?_eq_some_iff.1 hj).1
    simpa [nums] using this
  rw [Addr.add_lit, hc j (by omega)]
  have e : (nums .u8 xs)[j]? = some (.int .u8 (xs.getD j 0)) := by simp [nums, List.getElem?_eq_getElem hlt, List.getD_eq_getElem?_getD]
  rw [e] at hj
  exact hj
theorem below_own {w W W1 : World} {B : Nat} {row : Option Nat} (h : Below B w W) (hB : B ≤ W.heap.size) (hg : W.grownBy W1 row) (hr : ∀ k, row = some k → B ≤ k) : Below B w W1 := h.grown hg hB hr
theorem own_base {w : World} {base : Nat} {e : TypeId} {size n : Nat} {v : Value} {xs : List Value} (h : w.ownsRow base e size v n xs) (k : Nat) (hk : v.ownBlock = some k) : base ≤ k := by
  rcases h.2 with ⟨rfl, _⟩ | ⟨g, cap, cur, rfl, hb, _⟩
  · simp [Value.ownBlock] at hk
  · have : g = k := by simpa [Value.ownBlock] using hk
    omega
theorem own_below {w w1 : World} {base : Nat} {e : TypeId} {size n : Nat} {v : Value} {xs : List Value} (h : w.ownsRow base e size v n xs) (hb : Below w.heap.size w w1) : w1.ownsRow base e size v n xs :=
  h.kept (row := none) ⟨hb.os, hb.tape, hb.output, hb.size, fun i hi _ => hb.block i hi⟩ (by cases v.ownBlock <;> simp)
theorem below_drewN {B : Nat} {w W : World} (h : Below B w W) (n : Nat) : Below B w (W.drewN n) := ⟨h.os, h.tape, h.output, h.size, h.block⟩
theorem take_succ_eq {xs ys : List Int} {k : Nat} (hx : k < xs.length) (hy : k < ys.length) (h : xs.take k = ys.take k) (e : xs.getD k 0 = ys.getD k 0) : xs.take (k + 1) = ys.take (k + 1) := by
  rw [List.take_succ_eq_append_getElem hx, List.take_succ_eq_append_getElem hy, h]
  simp [List.getD_eq_getElem?_getD, List.getElem?_eq_getElem hx, List.getElem?_eq_getElem hy] at e
  rw [e]
theorem ne_of_at {xs ys : List Int} {k : Nat} (e : ¬ xs.getD k 0 = ys.getD k 0) : ¬ xs = ys := fun h => e (by rw [h])
end Go.Proofs.Ytdnhbjcfhljcnaa
