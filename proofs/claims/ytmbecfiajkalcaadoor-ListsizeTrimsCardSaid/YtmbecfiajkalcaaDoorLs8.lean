/- The law package's own examples hold (awake). Condition: the table lies as the program's text lays it. -/
import Derived.Test.YtmbecfiajkalcaaDoorLs7
set_option linter.unusedVariables false
set_option linter.unusedSimpArgs false
namespace Go.Proofs.YtmbecfiajkalcaaDoor
open Go.RowKit

theorem words_is (e c r : Int) (h0 : 0 ≤ e) (h7 : e ≤ 7) (hc0 : 0 ≤ c) (hc1 : c ≤ 4294967296) (h : wordsOf e c = r) (w : World) (ht : Tab w) : Calls Tryd.prog 11 #[.int .i64 e, .int .i64 c] w fun e' w' => e' = .returned (.int .i64 r) ∧ w = w' := by
  subst h; exact words_any e c h0 h7 hc0 hc1 w ht
theorem bytes_is (e c r : Int) (h0 : 0 ≤ e) (h7 : e ≤ 7) (hc0 : 0 ≤ c) (hc1 : c ≤ 4294967296) (h : bytesOf e c = r) (w : World) (ht : Tab w) : Calls Tryd.prog 13 #[.int .i64 e, .int .i64 c] w fun e' w' => e' = .returned (.int .i64 r) ∧ w = w' := by
  subst h; exact bytes_any e c h0 h7 hc0 hc1 w ht
theorem bits_is (e r : Int) (h0 : 0 ≤ e) (h7 : e ≤ 7) (h : bitsOf e = r) (w : World) (ht : Tab w) : Calls Tryd.prog 9 #[.int .i64 e] w fun e' w' => e' = .returned (.int .i64 r) ∧ w = w' := by
  subst h; exact bits_any e h0 h7 w ht

set_option maxHeartbeats 2000000 in
theorem awake_any (w : World) (ht : Tab w) : Calls Tryd.prog 7 #[] w fun e w' => e = .returned (.bool true) ∧ Below w.heap.size w w' := by
  have HT := Lib.hid ht
  clear ht
  go_enter Tryd.func7, Tryd.ntmps7
  go_wp2_with fail
  refine (words_is 1 9 1 (by decide) (by decide) (by decide) (by decide) (by decide) _ HT.out).mono ?_
  rintro e w' ⟨rfl, rfl⟩
  go_wp2_with fail
  refine (bytes_is 1 9 2 (by decide) (by decide) (by decide) (by decide) (by decide) _ HT.out).mono ?_
  rintro e w' ⟨rfl, rfl⟩
  go_wp2_with fail
  refine (words_is 1 65 2 (by decide) (by decide) (by decide) (by decide) (by decide) _ HT.out).mono ?_
  rintro e w' ⟨rfl, rfl⟩
  go_wp2_with fail
  refine (words_is 0 1000 0 (by decide) (by decide) (by decide) (by decide) (by decide) _ HT.out).mono ?_
  rintro e w' ⟨rfl, rfl⟩
  go_wp2_with fail
  refine (words_is 3 5 2 (by decide) (by decide) (by decide) (by decide) (by decide) _ HT.out).mono ?_
  rintro e w' ⟨rfl, rfl⟩
  go_wp2_with fail
  refine (bytes_is 3 5 10 (by decide) (by decide) (by decide) (by decide) (by decide) _ HT.out).mono ?_
  rintro e w' ⟨rfl, rfl⟩
  go_wp2_with fail
  refine (words_is 6 7 7 (by decide) (by decide) (by decide) (by decide) (by decide) _ HT.out).mono ?_
  rintro e w' ⟨rfl, rfl⟩
  go_wp2_with fail
  refine (words_is 7 7 8 (by decide) (by decide) (by decide) (by decide) (by decide) _ HT.out).mono ?_
  rintro e w' ⟨rfl, rfl⟩
  go_wp2_with fail
  refine (bits_is 4 32 (by decide) (by decide) (by decide) _ HT.out).mono ?_
  rintro e w' ⟨rfl, rfl⟩
  go_wp2_with fail
  refine (bits_is 7 0 (by decide) (by decide) (by decide) _ HT.out).mono ?_
  rintro e w' ⟨rfl, rfl⟩
  go_wp2_with fail
  have hR1 : Rd (w.alloc (Obj.cells #[Value.int IntKind.u8 255, Value.int IntKind.u8 255, Value.int IntKind.u8 255] 5)) (some ⟨w.heap.size, 0, none⟩) 3 [255, 255, 255] := by
    refine ⟨rfl, .inr ⟨w.heap.size, 0, rfl, by simp, fun j hj => ?_⟩, fun j => ?_⟩
    · match j, hj with
      | 0, _ => simp [go_sem]
      | 1, _ => simp [go_sem]
      | 2, _ => simp [go_sem]
    · match j with
      | 0 => decide
      | 1 => decide
      | 2 => decide
      | j + 3 => simp
  have B1 : Below w.heap.size w (w.alloc (Obj.cells #[Value.int IntKind.u8 255, Value.int IntKind.u8 255, Value.int IntKind.u8 255] 5)) := (Below.refl _ w).alloc (Nat.le_refl _) _
  have HR1 := Lib.hid hR1
  clear hR1
  refine (trim_any 1 9 (by decide) (by decide) (by decide) (by decide) _ 3 3 [255, 255, 255] _ (HT.out.below B1) (by decide) (fun h => by cases h) (by decide) HR1.out 2 (by decide) (by decide)).mono ?_
  rintro e w1 ⟨⟨v, rfl, hown⟩, hb1⟩
  rw [show trimL 1 9 [255, 255, 255] = [255, 1] by decide] at hown
  obtain ⟨A, c, rfl, hR2⟩ := own_rd hown (fun j => by
    match j with
    | 0 => decide
    | 1 => decide
    | j + 2 => simp)
  have HR2 := Lib.hid hR2
  clear hR2 hown
  have z1 := hb1.size
  simp at z1
  go_wp2_with fail
  have hR3 : Rd (w1.alloc (Obj.cells #[Value.int IntKind.u8 255, Value.int IntKind.u8 1] 5)) (some ⟨w1.heap.size, 0, none⟩) 2 [255, 1] := by
    refine ⟨rfl, .inr ⟨w1.heap.size, 0, rfl, by simp, fun j hj => ?_⟩, fun j => ?_⟩
    · match j, hj with
      | 0, _ => simp [go_sem]
      | 1, _ => simp [go_sem]
    · match j with
      | 0 => decide
      | 1 => decide
      | j + 2 => simp
  have HR3 := Lib.hid hR3
  clear hR3
  refine (same_any _ _ 2 2 _ _ [255, 1] [255, 1] _ (by decide) (HR2.out.below ((Below.refl _ _).alloc (Nat.le_refl _) _)) HR3.out).mono ?_
  rintro e w2 ⟨rfl, hb2⟩
  go_wp2
  go_ret
  refine ⟨rfl, ?_⟩
  repeat (refine Below.alloc ?_ (by first | omega | (simp; done) | (simp; omega)) _)
  refine below_step ?_ (by first | omega | (simp; done) | (simp; omega)) hb2
  repeat (refine Below.alloc ?_ (by first | omega | (simp; done) | (simp; omega)) _)
  refine below_step ?_ (by first | omega | (simp; done) | (simp; omega)) hb1
  repeat (first | exact Below.refl _ _ | refine Below.alloc ?_ (by first | omega | (simp; done) | (simp; omega)) _)
end Go.Proofs.YtmbecfiajkalcaaDoor
