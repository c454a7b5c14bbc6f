/- What budget.Used, budget.Enter, .. return, and that the law package's own examples hold (awake). No condition. -/
import Derived.Test.YtmbecfiajkalcaaBud1
import Derived.Outline
set_option linter.unusedVariables false
set_option linter.unusedSimpArgs false
namespace Go.Proofs.Ytmbecfiajkalcaa
open Go.RowKit

theorem used_any (d m o k : Int) (w : World) :
    Calls Try.prog 14 #[.agg #[.int .i64 d, .int .i64 m, .int .i64 o], .agg #[.int .i64 k]] w fun e w' => e = .returned (.int .i64 (wrap64 (mx0 m - k))) ∧ Below w.heap.size w w' := by
  go_enter Try.func14, Try.ntmps14
  go_wp2_with fail
  refine wp_region_kept (by kernel_rfl) (by kernel_rfl) (fun C h1 h2 => ?_)
  repeat (
    first
      | (refine quiet_not (by rfl) ?_)
      | (apply quiet_do
         · rfl
         · intro W hW
           first
             | (go_simp; go_at_call 12; exact calls_kept (h1 _ hW) h2 (start_any d m o _))
             | (obtain ⟨hc, hf⟩ := bcell (h1 _ hW); go_simp; first | exact rfl | exact ⟨rfl, rfl⟩))
    simp only [Act.put, List.setIfInBounds_toArray, List.set_cons_zero, List.set_cons_succ])
  refine wpQuiet_nil ?_
  intro w2 hw_
  have hb := h1 _ hw_
  clear h1 h2 hw_
  go_wp2
  go_ret
  refine ⟨by simp [IntWalk.i64_left], ?_⟩
  exact below_step (((Below.refl _ _).alloc (by simp) _).alloc (by simp) _) (by simp; omega) hb
theorem used_is (d m o k r : Int) (w : World) (h : wrap64 (mx0 m - k) = r) :
    Calls Try.prog 14 #[.agg #[.int .i64 d, .int .i64 m, .int .i64 o], .agg #[.int .i64 k]] w fun e w' => e = .returned (.int .i64 r) ∧ Below w.heap.size w w' := by
  subst h
  exact used_any d m o k w
theorem enter_is (d m o depth r : Int) (w : World) (h : entE d depth = r) :
    Calls Try.prog 10 #[.agg #[.int .i64 d, .int .i64 m, .int .i64 o], .int .i64 depth] w fun e w' => e = .returned (.int .i64 r) ∧ Below w.heap.size w w' := by
  subst h
  exact enter_any d m o depth w
theorem awake_any (w : World) : Calls Try.prog 7 #[] w fun e w' => e = .returned (.bool true) ∧ Below w.heap.size w w' := by
  go_enter Try.func7, Try.ntmps7
  go_wp2_with fail
  refine (start_is 2 5 0 5 _ (by decide)).mono ?_
  rintro e w1 ⟨rfl, hb1⟩
  obtain ⟨hc1, hf1⟩ := bcell hb1
  have z1 := hb1.size
  try simp at z1
  have zw_1 : w.heap.size < w1.heap.size := by omega
  have yw_1 : w.heap.size ≤ w1.heap.size := by omega
  go_wp2_with fail
  refine (charge_is 5 3 2 0 _ (by simp [chM, wrap64]) (by simp [chE])).mono ?_
  rintro e w2 ⟨rfl, hb2⟩
  obtain ⟨hc2, hf2⟩ := bcell hb2
  have z2 := hb2.size
  try simp at z2
  have zw_2 : w.heap.size < w2.heap.size := by omega
  have yw_2 : w.heap.size ≤ w2.heap.size := by omega
  have yw1_2 : w1.heap.size ≤ w2.heap.size := by omega
  go_wp2_with fail
  refine (charge_is 2 2 0 0 _ (by simp [chM, wrap64]) (by simp [chE])).mono ?_
  rintro e w3 ⟨rfl, hb3⟩
  obtain ⟨hc3, hf3⟩ := bcell hb3
  have z3 := hb3.size
  try simp at z3
  have zw_3 : w.heap.size < w3.heap.size := by omega
  have yw_3 : w.heap.size ≤ w3.heap.size := by omega
  have zw1_3 : w1.heap.size < w3.heap.size := by omega
  have yw1_3 : w1.heap.size ≤ w3.heap.size := by omega
  have zw2_3 : w2.heap.size < w3.heap.size := by omega
  have yw2_3 : w2.heap.size ≤ w3.heap.size := by omega
  go_wp2_with fail
  refine (charge_is 0 1 0 8 _ (by simp [chM, wrap64]) (by simp [chE])).mono ?_
  rintro e w4 ⟨rfl, hb4⟩
  obtain ⟨hc4, hf4⟩ := bcell hb4
  have z4 := hb4.size
  try simp at z4
  have zw_4 : w.heap.size < w4.heap.size := by omega
  have yw_4 : w.heap.size ≤ w4.heap.size := by omega
  have zw1_4 : w1.heap.size < w4.heap.size := by omega
  have yw1_4 : w1.heap.size ≤ w4.heap.size := by omega
  have zw2_4 : w2.heap.size < w4.heap.size := by omega
  have yw2_4 : w2.heap.size ≤ w4.heap.size := by omega
  have zw3_4 : w3.heap.size < w4.heap.size := by omega
  have yw3_4 : w3.heap.size ≤ w4.heap.size := by omega
  go_wp2_with fail
  refine (charge_is 0 0 0 0 _ (by simp [chM, wrap64]) (by simp [chE])).mono ?_
  rintro e w5 ⟨rfl, hb5⟩
  obtain ⟨hc5, hf5⟩ := bcell hb5
  have z5 := hb5.size
  try simp at z5
  have zw_5 : w.heap.size < w5.heap.size := by omega
  have yw_5 : w.heap.size ≤ w5.heap.size := by omega
  have zw1_5 : w1.heap.size < w5.heap.size := by omega
  have yw1_5 : w1.heap.size ≤ w5.heap.size := by omega
  have zw2_5 : w2.heap.size < w5.heap.size := by omega
  have yw2_5 : w2.heap.size ≤ w5.heap.size := by omega
  have zw3_5 : w3.heap.size < w5.heap.size := by omega
  have yw3_5 : w3.heap.size ≤ w5.heap.size := by omega
  have zw4_5 : w4.heap.size < w5.heap.size := by omega
  have yw4_5 : w4.heap.size ≤ w5.heap.size := by omega
  go_wp2_with fail
  refine (used_is 2 5 0 0 5 _ (by simp [mx0, wrap64])).mono ?_
  rintro e w6 ⟨rfl, hb6⟩
  obtain ⟨hc6, hf6⟩ := bcell hb6
  have z6 := hb6.size
  try simp at z6
  have zw_6 : w.heap.size < w6.heap.size := by omega
  have yw_6 : w.heap.size ≤ w6.heap.size := by omega
  have zw1_6 : w1.heap.size < w6.heap.size := by omega
  have yw1_6 : w1.heap.size ≤ w6.heap.size := by omega
  have zw2_6 : w2.heap.size < w6.heap.size := by omega
  have yw2_6 : w2.heap.size ≤ w6.heap.size := by omega
  have zw3_6 : w3.heap.size < w6.heap.size := by omega
  have yw3_6 : w3.heap.size ≤ w6.heap.size := by omega
  have zw4_6 : w4.heap.size < w6.heap.size := by omega
  have yw4_6 : w4.heap.size ≤ w6.heap.size := by omega
  have zw5_6 : w5.heap.size < w6.heap.size := by omega
  have yw5_6 : w5.heap.size ≤ w6.heap.size := by omega
  go_wp2_with fail
  refine (used_is 2 5 0 2 3 _ (by simp [mx0, wrap64])).mono ?_
  rintro e w7 ⟨rfl, hb7⟩
  obtain ⟨hc7, hf7⟩ := bcell hb7
  have z7 := hb7.size
  try simp at z7
  have v7 : w6.heap.size ≤ w7.heap.size := z7
  have zw_7 : w.heap.size < w7.heap.size := by omega
  have yw_7 : w.heap.size ≤ w7.heap.size := by omega
  have zw1_7 : w1.heap.size < w7.heap.size := by omega
  have yw1_7 : w1.heap.size ≤ w7.heap.size := by omega
  have zw2_7 : w2.heap.size < w7.heap.size := by omega
  have yw2_7 : w2.heap.size ≤ w7.heap.size := by omega
  have zw3_7 : w3.heap.size < w7.heap.size := by omega
  have yw3_7 : w3.heap.size ≤ w7.heap.size := by omega
  have zw4_7 : w4.heap.size < w7.heap.size := by omega
  have yw4_7 : w4.heap.size ≤ w7.heap.size := by omega
  have zw5_7 : w5.heap.size < w7.heap.size := by omega
  have yw5_7 : w5.heap.size ≤ w7.heap.size := by omega
  go_wp2_with fail
  refine (enter_is 2 5 0 2 0 _ (by simp [entE])).mono ?_
  rintro e w8 ⟨rfl, hb8⟩
  obtain ⟨hc8, hf8⟩ := bcell hb8
  have z8 := hb8.size
  try simp at z8
  have zw_8 : w.heap.size < w8.heap.size := by omega
  have yw_8 : w.heap.size ≤ w8.heap.size := by omega
  have zw1_8 : w1.heap.size < w8.heap.size := by omega
  have yw1_8 : w1.heap.size ≤ w8.heap.size := by omega
  have zw2_8 : w2.heap.size < w8.heap.size := by omega
  have yw2_8 : w2.heap.size ≤ w8.heap.size := by omega
  have zw3_8 : w3.heap.size < w8.heap.size := by omega
  have yw3_8 : w3.heap.size ≤ w8.heap.size := by omega
  have zw4_8 : w4.heap.size < w8.heap.size := by omega
  have yw4_8 : w4.heap.size ≤ w8.heap.size := by omega
  have zw5_8 : w5.heap.size < w8.heap.size := by omega
  have yw5_8 : w5.heap.size ≤ w8.heap.size := by omega
  go_wp2_with fail
  refine (enter_is 2 5 0 3 7 _ (by simp [entE])).mono ?_
  rintro e w9 ⟨rfl, hb9⟩
  obtain ⟨hc9, hf9⟩ := bcell hb9
  have z9 := hb9.size
  try simp at z9
  have zw_9 : w.heap.size < w9.heap.size := by omega
  have yw_9 : w.heap.size ≤ w9.heap.size := by omega
  have zw1_9 : w1.heap.size < w9.heap.size := by omega
  have yw1_9 : w1.heap.size ≤ w9.heap.size := by omega
  have zw2_9 : w2.heap.size < w9.heap.size := by omega
  have yw2_9 : w2.heap.size ≤ w9.heap.size := by omega
  have zw3_9 : w3.heap.size < w9.heap.size := by omega
  have yw3_9 : w3.heap.size ≤ w9.heap.size := by omega
  have zw4_9 : w4.heap.size < w9.heap.size := by omega
  have yw4_9 : w4.heap.size ≤ w9.heap.size := by omega
  have zw5_9 : w5.heap.size < w9.heap.size := by omega
  have yw5_9 : w5.heap.size ≤ w9.heap.size := by omega
  go_wp2_with fail
  refine (start_is 0 (-7) 0 0 _ (by decide)).mono ?_
  rintro e w10 ⟨rfl, hb10⟩
  obtain ⟨hc10, hf10⟩ := bcell hb10
  have z10 := hb10.size
  try simp at z10
  go_wp2
  go_ret
  refine ⟨rfl, ?_⟩
  repeat (refine Below.alloc ?_ (by first | omega | (simp; done) | (simp; omega)) _)
  refine below_step ?_ (by first | omega | (simp; done) | (simp; omega)) hb10
  repeat (refine Below.alloc ?_ (by first | omega | (simp; done) | (simp; omega)) _)
  refine below_step ?_ (by first | omega | (simp; done) | (simp; omega)) hb9
  repeat (refine Below.alloc ?_ (by first | omega | (simp; done) | (simp; omega)) _)
  refine below_step ?_ (by first | omega | (simp; done) | (simp; omega)) hb8
  repeat (refine Below.alloc ?_ (by first | omega | (simp; done) | (simp; omega)) _)
  refine below_step ?_ (by first | omega | (simp; done) | (simp; omega)) hb7
  repeat (refine Below.alloc ?_ (by first | omega | (simp; done) | (simp; omega)) _)
  refine below_step ?_ (by first | omega | (simp; done) | (simp; omega)) hb6
  repeat (refine Below.alloc ?_ (by first | omega | (simp; done) | (simp; omega)) _)
  refine below_step ?_ (by first | omega | (simp; done) | (simp; omega)) hb5
  repeat (refine Below.alloc ?_ (by first | omega | (simp; done) | (simp; omega)) _)
  refine below_step ?_ (by first | omega | (simp; done) | (simp; omega)) hb4
  repeat (refine Below.alloc ?_ (by first | omega | (simp; done) | (simp; omega)) _)
  refine below_step ?_ (by first | omega | (simp; done) | (simp; omega)) hb3
  repeat (refine Below.alloc ?_ (by first | omega | (simp; done) | (simp; omega)) _)
  refine below_step ?_ (by first | omega | (simp; done) | (simp; omega)) hb2
  repeat (refine Below.alloc ?_ (by first | omega | (simp; done) | (simp; omega)) _)
  refine below_step ?_ (by first | omega | (simp; done) | (simp; omega)) hb1
  repeat (first | exact Below.refl _ _ | refine Below.alloc ?_ (by first | omega | (simp; done) | (simp; omega)) _)
end Go.Proofs.Ytmbecfiajkalcaa
