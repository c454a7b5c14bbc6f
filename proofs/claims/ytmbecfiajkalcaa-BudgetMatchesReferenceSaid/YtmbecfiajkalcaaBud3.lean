/- BudgetMatchesReference's walk: for all limits, meters, depths and costs the law returns true. No condition beyond each number's being of its kind. -/
import Derived.Test.YtmbecfiajkalcaaBud2
set_option linter.unusedVariables false
set_option linter.unusedSimpArgs false
namespace Go.Proofs.Ytmbecfiajkalcaa
open Go.RowKit

set_option maxHeartbeats 4000000 in
theorem matches_walk (d m o k depth cost : Int) (h0 : 0 ≤ cost) (h1 : cost ≤ 4294967295) (w : World) :
    Calls Try.prog 3 #[.agg #[.int .i64 d, .int .i64 m, .int .i64 o], .agg #[.int .i64 k], .int .i64 depth, .int .u32 cost] w fun e w' => e = .returned (.bool true) ∧ Below w.heap.size w w' := by
  go_enter Try.func3, Try.ntmps3
  go_wp2_with fail
  refine (awake_any _).mono ?_
  rintro e w1 ⟨rfl, hb1⟩
  obtain ⟨hc1, hf1⟩ := bcell hb1
  have z1 := hb1.size
  try simp at z1
  have za0_1 : w.heap.size < w1.heap.size := by omega
  have ya0_1 : w.heap.size ≤ w1.heap.size := by omega
  have za1_1 : w.heap.size + 1 < w1.heap.size := by omega
  have ya1_1 : w.heap.size + 1 ≤ w1.heap.size := by omega
  go_wp2_with fail
  refine (charge_any k cost _).mono ?_
  rintro e w2 ⟨rfl, hb2⟩
  obtain ⟨hc2, hf2⟩ := bcell hb2
  have z2 := hb2.size
  try simp at z2
  have y12 : w1.heap.size ≤ w2.heap.size := hb2.size
  have za0_2 : w.heap.size < w2.heap.size := by omega
  have ya0_2 : w.heap.size ≤ w2.heap.size := by omega
  have za1_2 : w.heap.size + 1 < w2.heap.size := by omega
  have ya1_2 : w.heap.size + 1 ≤ w2.heap.size := by omega
  go_wp2_with fail
  refine (rcharge_any k cost _).mono ?_
  rintro e w3 ⟨rfl, hb3⟩
  obtain ⟨hc3, hf3⟩ := bcell hb3
  have z3 := hb3.size
  try simp at z3
  have za0_3 : w.heap.size < w3.heap.size := by omega
  have ya0_3 : w.heap.size ≤ w3.heap.size := by omega
  have za1_3 : w.heap.size + 1 < w3.heap.size := by omega
  have ya1_3 : w.heap.size + 1 ≤ w3.heap.size := by omega
  have za2_3 : w1.heap.size < w3.heap.size := by omega
  have ya2_3 : w1.heap.size ≤ w3.heap.size := by omega
  have za3_3 : w2.heap.size < w3.heap.size := by omega
  have ya3_3 : w2.heap.size ≤ w3.heap.size := by omega
  go_wp2_with fail
  refine wp_region_kept (by kernel_rfl) (by kernel_rfl) (fun C h1 h2 => ?_)
  repeat (
    first
      | (with_reducible refine quiet_not ?_ ?_
         · rfl)
      | (with_reducible apply quiet_do
         · rfl
         · intro W hW
           first
             | (go_simp; go_at_call 10; exact calls_kept (h1 _ hW) h2 (enter_any d m o depth _))
             | (go_simp; go_at_call 11; exact calls_kept (h1 _ hW) h2 (renter_any d m o depth _))
             | (go_simp; go_at_call 12; exact calls_kept (h1 _ hW) h2 (start_any d m o _))
             | (go_simp; go_at_call 13; exact calls_kept (h1 _ hW) h2 (rstart_any d m o _))
             | (obtain ⟨hc, hf⟩ := bcell (h1 _ hW); go_simp; first | exact rfl | exact ⟨rfl, rfl⟩))
    simp only [Act.put, List.setIfInBounds_toArray, List.set_cons_zero, List.set_cons_succ])
  with_reducible refine wpQuiet_nil ?_
  intro w4 hw_
  have hb4 := h1 _ hw_
  clear h1 h2 hw_
  obtain ⟨hc4, hf4⟩ := bcell hb4
  have z4 := hb4.size
  simp at z4
  have za0_4 : w.heap.size < w4.heap.size := by omega
  have ya0_4 : w.heap.size ≤ w4.heap.size := by omega
  have za1_4 : w.heap.size + 1 < w4.heap.size := by omega
  have ya1_4 : w.heap.size + 1 ≤ w4.heap.size := by omega
  have za2_4 : w1.heap.size < w4.heap.size := by omega
  have ya2_4 : w1.heap.size ≤ w4.heap.size := by omega
  have za3_4 : w2.heap.size < w4.heap.size := by omega
  have ya3_4 : w2.heap.size ≤ w4.heap.size := by omega
  have za4_4 : w3.heap.size < w4.heap.size := by omega
  have ya4_4 : w3.heap.size ≤ w4.heap.size := by omega
  go_wp2
  by_cases c1 : k < 0
  · have d1 : decide (k < 0) = true := by simp [c1]
    refine wp_region_kept (by kernel_rfl) (by kernel_rfl) (fun C h1 h2 => ?_)
    repeat (
      first
        | (with_reducible refine quiet_not ?_ ?_
           · rfl)
        | (with_reducible apply quiet_do
           · rfl
           · intro W hW
             first
               | (go_simp; go_at_call 14; exact calls_kept (h1 _ hW) h2 (used_any d m o k _))
               | (go_simp; go_at_call 13; exact calls_kept (h1 _ hW) h2 (rstart_any d m o _))
               | (obtain ⟨hc, hf⟩ := bcell (h1 _ hW); go_simp; first | exact rfl | exact ⟨rfl, rfl⟩))
      simp only [Act.put, List.setIfInBounds_toArray, List.set_cons_zero, List.set_cons_succ])
    with_reducible refine wpQuiet_nil ?_
    intro w5 hw_
    have hb5 := h1 _ hw_
    clear h1 h2 hw_
    go_wp2
    go_ret
    refine ⟨by simp [IntWalk.i64_left], ?_⟩
    repeat (refine Below.alloc ?_ (by first | omega | (simp; done) | (simp; omega)) _)
    refine below_step ?_ (by first | omega | (simp; done) | (simp; omega)) hb5
    repeat (refine Below.alloc ?_ (by first | omega | (simp; done) | (simp; omega)) _)
    refine below_step ?_ (by first | omega | (simp; done) | (simp; omega)) hb4
    repeat (refine Below.alloc ?_ (by first | omega | (simp; done) | (simp; omega)) _)
    refine below_step ?_ (by first | omega | (simp; done) | (simp; omega)) hb3
    repeat (refine Below.alloc ?_ (by first | omega | (simp; done) | (simp; omega)) _)
    refine below_step ?_ (by first | omega | (simp; done) | (simp; omega)) hb2
    repeat (refine Below.alloc ?_ (by first | omega | (simp; done) | (simp; omega)) _)
    refine below_step ?_ (by first | omega | (simp; done) | (simp; omega)) hb1
    repeat (first | exact Below.refl _ _ | refine Below.alloc ?_ (by first | omega | (simp; done) | (simp; omega)) _)
  have d1 : decide (k < 0) = false := by simp; omega
  by_cases c2 : 1152921504606846976 < k
  · have d2 : decide (1152921504606846976 < k) = true := by simp [c2]
    refine wp_region_kept (by kernel_rfl) (by kernel_rfl) (fun C h1 h2 => ?_)
    repeat (
      first
        | (with_reducible refine quiet_not ?_ ?_
           · rfl)
        | (with_reducible apply quiet_do
           · rfl
           · intro W hW
             first
               | (go_simp; go_at_call 14; exact calls_kept (h1 _ hW) h2 (used_any d m o k _))
               | (go_simp; go_at_call 13; exact calls_kept (h1 _ hW) h2 (rstart_any d m o _))
               | (obtain ⟨hc, hf⟩ := bcell (h1 _ hW); go_simp; first | exact rfl | exact ⟨rfl, rfl⟩))
      simp only [Act.put, List.setIfInBounds_toArray, List.set_cons_zero, List.set_cons_succ])
    with_reducible refine wpQuiet_nil ?_
    intro w5 hw_
    have hb5 := h1 _ hw_
    clear h1 h2 hw_
    go_wp2
    go_ret
    refine ⟨by simp [IntWalk.i64_left], ?_⟩
    repeat (refine Below.alloc ?_ (by first | omega | (simp; done) | (simp; omega)) _)
    refine below_step ?_ (by first | omega | (simp; done) | (simp; omega)) hb5
    repeat (refine Below.alloc ?_ (by first | omega | (simp; done) | (simp; omega)) _)
    refine below_step ?_ (by first | omega | (simp; done) | (simp; omega)) hb4
    repeat (refine Below.alloc ?_ (by first | omega | (simp; done) | (simp; omega)) _)
    refine below_step ?_ (by first | omega | (simp; done) | (simp; omega)) hb3
    repeat (refine Below.alloc ?_ (by first | omega | (simp; done) | (simp; omega)) _)
    refine below_step ?_ (by first | omega | (simp; done) | (simp; omega)) hb2
    repeat (refine Below.alloc ?_ (by first | omega | (simp; done) | (simp; omega)) _)
    refine below_step ?_ (by first | omega | (simp; done) | (simp; omega)) hb1
    repeat (first | exact Below.refl _ _ | refine Below.alloc ?_ (by first | omega | (simp; done) | (simp; omega)) _)
  · have d2 : decide (1152921504606846976 < k) = false := by simp; omega
    refine wp_region_kept (by kernel_rfl) (by kernel_rfl) (fun C h1 h2 => ?_)
    repeat (
      first
        | (with_reducible refine quiet_not ?_ ?_
           · rfl)
        | (with_reducible apply quiet_do
           · rfl
           · intro W hW
             first
               | (go_simp; go_at_call 14; exact calls_kept (h1 _ hW) h2 (used_any d m o k _))
               | (go_simp; go_at_call 13; exact calls_kept (h1 _ hW) h2 (rstart_any d m o _))
               | (obtain ⟨hc, hf⟩ := bcell (h1 _ hW); go_simp; first | exact rfl | exact ⟨rfl, rfl⟩))
      simp only [Act.put, List.setIfInBounds_toArray, List.set_cons_zero, List.set_cons_succ])
    with_reducible refine wpQuiet_nil ?_
    intro w5 hw_
    have hb5 := h1 _ hw_
    clear h1 h2 hw_
    go_wp2
    go_ret
    refine ⟨by simp [IntWalk.i64_left], ?_⟩
    repeat (refine Below.alloc ?_ (by first | omega | (simp; done) | (simp; omega)) _)
    refine below_step ?_ (by first | omega | (simp; done) | (simp; omega)) hb5
    repeat (refine Below.alloc ?_ (by first | omega | (simp; done) | (simp; omega)) _)
    refine below_step ?_ (by first | omega | (simp; done) | (simp; omega)) hb4
    repeat (refine Below.alloc ?_ (by first | omega | (simp; done) | (simp; omega)) _)
    refine below_step ?_ (by first | omega | (simp; done) | (simp; omega)) hb3
    repeat (refine Below.alloc ?_ (by first | omega | (simp; done) | (simp; omega)) _)
    refine below_step ?_ (by first | omega | (simp; done) | (simp; omega)) hb2
    repeat (refine Below.alloc ?_ (by first | omega | (simp; done) | (simp; omega)) _)
    refine below_step ?_ (by first | omega | (simp; done) | (simp; omega)) hb1
    repeat (first | exact Below.refl _ _ | refine Below.alloc ?_ (by first | omega | (simp; done) | (simp; omega)) _)
end Go.Proofs.Ytmbecfiajkalcaa
