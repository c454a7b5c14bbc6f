/- What listsize.Trim returns: a new slice with the bytes of the elements, the bits behind the last one cleared. Conditions: the element size code is 0 to 5, the count 0 to 2^32, the bytes lie in the slice; the table lies as the program's text lays it. -/
import Derived.Test.YtmbecfiajkalcaaDoorLs4
import Derived.RangeFuncBox
set_option linter.unusedVariables false
set_option linter.unusedSimpArgs false
namespace Go.Proofs.YtmbecfiajkalcaaDoor
open Go.RowKit

/-- The bytes of the elements. -/
def trimL (e c : Int) (xs : List Int) : List Int :=
  if e = 1 ∧ 0 < c % 8 then (xs.take (bytesOf e c).toNat).set ((bytesOf e c).toNat - 1) (xs.getD ((bytesOf e c).toNat - 1) 0 % 2 ^ (c % 8).toNat) else xs.take (bytesOf e c).toNat
theorem bytesOf_nonneg (e c : Int) (h0 : 0 ≤ e) (h7 : e ≤ 7) (hc : 0 ≤ c) : 0 ≤ bytesOf e c := by
  rcases cases8 h0 h7 with rfl | rfl | rfl | rfl | rfl | rfl | rfl | rfl <;> simp [bytesOf, bitsOf] <;> omega

set_option maxHeartbeats 1000000 in
theorem trim_plain (e c : Int) (h0 : 0 ≤ e) (h5 : e ≤ 5) (hc0 : 0 ≤ c) (hc1 : c ≤ 4294967296) (A : Option Addr) (n cap : Nat) (xs : List Int) (w : World) (ht : Tab w) (hn : n ≤ 140737488355328) (hA : A = none → n = 0) (hcap : n ≤ cap) (hR : Rd w A n xs)
    (k : Nat) (hk : (k : Int) = bytesOf e c) (hkn : k ≤ n) (hne : ¬ (e = 1 ∧ 0 < c % 8)) :
    Calls Tryd.prog 16 #[.int .i64 e, .int .i64 c, .slice A n cap] w fun e' w' => (∃ v, e' = .returned v ∧ w'.ownsRow w.heap.size 5 1 v k (nums .u8 (xs.take k))) ∧ Below w.heap.size w w' := by
  have HK := Lib.hid hk
  clear hk
  have hRk := hR.take k hkn
  have hAk : A = none → k = 0 := fun h => by have := hA h; omega
  go_enter Tryd.func16, Tryd.ntmps16
  go_wp2_with fail
  refine (bytes_any e c h0 (by omega) hc0 hc1 _ ht).mono ?_
  rintro e' w' ⟨rfl, rfl⟩
  rw [← HK.out]
  go_wp2_with fail
  refine (clone_any A k cap (xs.take k) w (by omega) hRk hAk).mono ?_
  rintro e' w1 ⟨⟨v, rfl, hown⟩, hb1⟩
  by_cases he : e = 1
  · have hc8 : c % 8 = 0 := by omega
    go_wp2
    go_ret
    exact ⟨⟨v, rfl, hown⟩, hb1⟩
  · have he' : (e == 1) = false := by simp [he]
    go_wp2
    go_ret
    exact ⟨⟨v, rfl, hown⟩, hb1⟩
set_option maxHeartbeats 2000000 in
theorem trim_bits (c r : Int) (hr0 : 1 ≤ r) (hr1 : r ≤ 7) (hc0 : 0 ≤ c) (hc1 : c ≤ 4294967296) (hcr : c % 8 = r) (A : Option Addr) (n cap : Nat) (xs : List Int) (w : World) (ht : Tab w) (hn : n ≤ 140737488355328) (hA : A = none → n = 0) (hcap : n ≤ cap) (hR : Rd w A n xs)
    (k : Nat) (hk : (k : Int) = bytesOf 1 c) (hkn : k ≤ n) :
    Calls Tryd.prog 16 #[.int .i64 1, .int .i64 c, .slice A n cap] w fun e' w' => (∃ v, e' = .returned v ∧ w'.ownsRow w.heap.size 5 1 v k (nums .u8 ((xs.take k).set (k - 1) (xs.getD (k - 1) 0 % 2 ^ r.toNat)))) ∧ Below w.heap.size w w' := by
  have hk0 : 0 < k := by simp [bytesOf, bitsOf] at hk; omega
  have HK := Lib.hid hk
  clear hk
  have hRk := hR.take k hkn
  have hAk : A = none → k = 0 := fun h => by have := hA h; omega
  go_enter Tryd.func16, Tryd.ntmps16
  go_wp2_with fail
  refine (bytes_any 1 c (by omega) (by omega) hc0 hc1 _ ht).mono ?_
  rintro e' w' ⟨rfl, rfl⟩
  rw [← HK.out]
  go_wp2_with fail
  refine (clone_any A k cap (xs.take k) w (by omega) hRk hAk).mono ?_
  rintro e' w1 ⟨⟨v, rfl, hown⟩, hb1⟩
  obtain ⟨m, rfl⟩ : ∃ m, k = m + 1 := ⟨k - 1, by omega⟩
  obtain ⟨g, cap1, rfl⟩ := ownsRow_succ hown
  obtain ⟨x, hx⟩ : ∃ x, Hid (xs.getD m 0 = x) := ⟨_, rfl⟩
  have hxb := hR.2.2 m
  rw [hx.out] at hxb
  obtain ⟨hx0, hx1⟩ := hxb
  have hcell : w1.cell? ⟨g, m, none⟩ = some (.int .u8 x) := by
    rw [hown.cellAt m (by omega), ← hx.out]
    have hl : m < xs.length := by have := hR.1; omega
    simp [nums, List.getElem?_take, List.getD_eq_getElem?_getD, List.getElem?_eq_getElem hl]
  have hfr := hown.frozenAt m
  have hm0 : (0 : Int) ≤ (m : Int) := Int.natCast_nonneg _
  have hst := hown.stored m (.int .u8 (x % 2 ^ r.toNat))
  have HST := Lib.hid hst
  have hgb := own_base hown g rfl
  clear hst hR hRk hown
  have e1 : ((m + 1 : Nat) : Int) = (m : Int) + 1 := by omega
  have m1 : bits .and .u8 x 1 = x % 2 := bits_mask .u8 8 (by decide) wraps_u8 1 (by decide) x hx0 (by omega)
  have m2 : bits .and .u8 x 3 = x % 4 := bits_mask .u8 8 (by decide) wraps_u8 2 (by decide) x hx0 (by omega)
  have m7 : bits .and .u8 x 127 = x % 128 := bits_mask .u8 8 (by decide) wraps_u8 7 (by decide) x hx0 (by omega)
  rcases (by omega : r = 1 ∨ r = 2 ∨ r = 3 ∨ r = 4 ∨ r = 5 ∨ r = 6 ∨ r = 7) with rfl | rfl | rfl | rfl | rfl | rfl | rfl
  all_goals
    go_wp2
    go_ret
    have hs := HST.out
    have hxm : xs.getD (m + 1 - 1) 0 = x := hx.out
    refine ⟨⟨_, rfl, ?_⟩, hb1.trans (((Below.refl _ _).grown hs.2 hb1.size (fun k hk => by cases hk; exact hgb)))⟩
    rw [hxm]
    have h2 := hs.1
    simpa [nums, List.map_set] using h2
/-- listsize.Trim. -/
theorem trim_any (e c : Int) (h0 : 0 ≤ e) (h5 : e ≤ 5) (hc0 : 0 ≤ c) (hc1 : c ≤ 4294967296) (A : Option Addr) (n cap : Nat) (xs : List Int) (w : World) (ht : Tab w) (hn : n ≤ 140737488355328) (hA : A = none → n = 0) (hcap : n ≤ cap) (hR : Rd w A n xs)
    (k : Nat) (hk : (k : Int) = bytesOf e c) (hkn : k ≤ n) :
    Calls Tryd.prog 16 #[.int .i64 e, .int .i64 c, .slice A n cap] w fun e' w' => (∃ v, e' = .returned v ∧ w'.ownsRow w.heap.size 5 1 v k (nums .u8 (trimL e c xs))) ∧ Below w.heap.size w w' := by
  have hk' : (bytesOf e c).toNat = k := by omega
  by_cases h : e = 1 ∧ 0 < c % 8
  · obtain ⟨rfl, h8⟩ := h
    have := trim_bits c (c % 8) (by omega) (by omega) hc0 hc1 rfl A n cap xs w ht hn hA hcap hR k hk hkn
    rw [show trimL 1 c xs = (xs.take k).set (k - 1) (xs.getD (k - 1) 0 % 2 ^ (c % 8).toNat) by unfold trimL; rw [if_pos ⟨rfl, h8⟩, hk']]
    exact this
  · rw [show trimL e c xs = xs.take k by unfold trimL; rw [if_neg h, hk']]
    exact trim_plain e c h0 h5 hc0 hc1 A n cap xs w ht hn hA hcap hR k hk hkn h
end Go.Proofs.YtmbecfiajkalcaaDoor
