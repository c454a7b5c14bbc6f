/- What capnpref06.Trim returns is what listsize.Trim returns. Conditions: the element size code is 0 to 5, the count 0 to 2^32, the bytes lie in the slice. -/
import Derived.Test.YtmbecfiajkalcaaDoorLs6
set_option linter.unusedVariables false
set_option linter.unusedSimpArgs false
namespace Go.Proofs.YtmbecfiajkalcaaDoor
open Go.RowKit

theorem getD_of_lt {xs : List Int} {j : Nat} (h : j < xs.length) : xs[j] = xs.getD j 0 := by simp [List.getD_eq_getElem?_getD, List.getElem?_eq_getElem h]
theorem rL_eq (e c : Int) (h0 : 0 ≤ e) (h5 : e ≤ 5) (hc0 : 0 ≤ c) (xs : List Int) (m : Nat) (hm : (m : Int) = bytesOf e c) (hmx : m ≤ xs.length) : rL e c xs m = trimL e c xs := by
  have hk : (bytesOf e c).toNat = m := by omega
  unfold trimL
  rw [hk]
  by_cases h : e = 1 ∧ 0 < c % 8
  · rw [if_pos h]
    obtain ⟨rfl, h8⟩ := h
    have hm' : 8 * (m : Int) < c + 8 := by simp [bytesOf, bitsOf] at hm; omega
    have hm'' : c ≤ 8 * (m : Int) := by simp [bytesOf, bitsOf] at hm; omega
    apply List.ext_getElem
    · simp [rL]; omega
    · intro j h1 h2
      have hj : j < m := by simpa [rL] using h1
      rw [List.getElem_set]
      by_cases hl : m - 1 = j
      · rw [if_pos hl]
        simp only [rL, List.getElem_map, List.getElem_range]
        have hjm : 8 * (j : Int) + 8 = 8 * (m : Int) := by omega
        rw [show rT 1 c xs j = xs.getD j 0 % 2 ^ (c - 8 * j).toNat from if_pos ⟨rfl, by omega⟩, hl, show (c - 8 * (j : Int)).toNat = (c % 8).toNat by omega]
      · rw [if_neg hl]
        simp only [rL, List.getElem_map, List.getElem_range, List.getElem_take]
        rw [show rT 1 c xs j = xs.getD j 0 from if_neg (fun h => by have := h.2; omega), getD_of_lt]
  · rw [if_neg h]
    apply List.ext_getElem
    · simp [rL]; omega
    · intro j h1 h2
      have hj : j < m := by simpa [rL] using h1
      simp only [rL, List.getElem_map, List.getElem_range, List.getElem_take]
      rw [getD_of_lt (show j < xs.length by omega)]
      by_cases he : e = 1
      · subst he
        have : ¬ 0 < c % 8 := fun h8 => h ⟨rfl, h8⟩
        have hm' : 8 * (m : Int) = c := by simp [bytesOf, bitsOf] at hm; omega
        exact if_neg (fun h => by have := h.2; omega)
      · exact if_neg (fun h => he h.1)
set_option maxHeartbeats 1000000 in
theorem rtrim_zero (e c : Int) (h0 : 0 ≤ e) (h5 : e ≤ 5) (hc0 : 0 ≤ c) (hc1 : c ≤ 4294967296) (A : Option Addr) (n cap : Nat) (w : World) (hm : bytesOf e c = 0) :
    Calls Tryd.prog 17 #[.int .i64 e, .int .i64 c, .slice A n cap] w fun e' w' => e' = .returned (.slice none 0 0) ∧ Below w.heap.size w w' := by
  have HM := Lib.hid hm
  clear hm
  go_enter Tryd.func17, Tryd.ntmps17
  go_wp2_with fail
  go_loop [7, 8] (fun v i => v = .slice none 0 0 ∧ i = .int .i64 0) (fun _ _ => 0)
  case atStart => exact ⟨rfl, rfl⟩
  case round =>
    obtain ⟨rfl, rfl⟩ := hrel
    go_wp2_with fail
    refine (rbytes_any e c h0 (by omega) hc0 hc1 _).mono ?_
    rintro e' w' ⟨rfl, rfl⟩
    rw [HM.out]
    go_wp2
    go_ret
    exact ⟨rfl, Below.refl _ _⟩
/-- capnpref06.Trim. -/
theorem rtrim_any (e c : Int) (h0 : 0 ≤ e) (h5 : e ≤ 5) (hc0 : 0 ≤ c) (hc1 : c ≤ 4294967296) (A : Option Addr) (n cap : Nat) (xs : List Int) (w : World) (hn : n ≤ 140737488355328) (hR : Rd w A n xs)
    (k : Nat) (hk : (k : Int) = bytesOf e c) (hkn : k ≤ n) :
    Calls Tryd.prog 17 #[.int .i64 e, .int .i64 c, .slice A n cap] w fun e' w' => (∃ v, e' = .returned v ∧ w'.ownsRow w.heap.size 5 1 v k (nums .u8 (trimL e c xs))) ∧ Below w.heap.size w w' := by
  obtain ⟨hl, hr, hx⟩ := hR
  have hE := rL_eq e c h0 h5 hc0 xs k hk (by omega)
  by_cases hk0 : k = 0
  · subst hk0
    rw [← hE]
    exact (rtrim_zero e c h0 h5 hc0 hc1 A n cap w hk.symm).mono fun _ _ ⟨a, b⟩ => ⟨⟨_, a, by simp [nums, rL], .inl ⟨rfl, rfl⟩⟩, b⟩
  · rcases hr with hr | ⟨b, off, rfl, hb, hc⟩
    · omega
    rw [← hE]
    by_cases he : e = 1
    · subst he
      exact rtrim_bits c hc0 hc1 b off n cap xs w hn hb hx hc k hk hkn
    · exact rtrim_other e c h0 h5 he hc0 hc1 b off n cap xs w hn hb hc k hk hkn
end Go.Proofs.YtmbecfiajkalcaaDoor
