/- BudgetSplits' walk: charging two costs one after the other is charging their sum. No condition beyond each number's being of its kind. -/
import Derived.Test.YtmbecfiajkalcaaBud4
import Derived.Outline
set_option linter.unusedVariables false
set_option linter.unusedSimpArgs false
namespace Go.Proofs.Ytmbecfiajkalcaa
open Go.RowKit

theorem mx0_nonneg (m : Int) : 0 ≤ mx0 m := by unfold mx0; split <;> omega
theorem mx0_le {m : Int} (h : m ≤ 9223372036854775807) : mx0 m ≤ 9223372036854775807 := by unfold mx0; split <;> omega
set_option maxHeartbeats 4000000 in
theorem splits_a (d m o a b : Int) (hm : m ≤ 9223372036854775807) (ha : 0 ≤ a) (ha' : a ≤ 4294967295) (hb : 0 ≤ b) (hb' : b ≤ 4294967295) (s : Int) (hs : 0 ≤ s) (hs' : s ≤ 9223372036854775807) (HS : Hid (mx0 m = s)) (h1 : s < a) (w : World) :
    Calls Try.prog 6 #[.agg #[.int .i64 d, .int .i64 m, .int .i64 o], .int .u32 a, .int .u32 b] w fun e w' => e = .returned (.bool true) ∧ Below w.heap.size w w' := by
  go_enter Try.func6, Try.ntmps6
  go_wp2_with fail
  refine (awake_any _).mono ?_
  rintro e w1 ⟨rfl, hb1⟩
  obtain ⟨hc1, hf1⟩ := bcell hb1
  have z1 := hb1.size
  try simp at z1
  have za0_1 : w.heap.size < w1.heap.size := by omega
  have ya0_1 : w.heap.size ≤ w1.heap.size := by omega
  go_wp2_with fail
  refine (start_is d m o s _ HS.out).mono ?_
  rintro e w2 ⟨rfl, hb2⟩
  obtain ⟨hc2, hf2⟩ := bcell hb2
  have z2 := hb2.size
  try simp at z2
  have za0_2 : w.heap.size < w2.heap.size := by omega
  have ya0_2 : w.heap.size ≤ w2.heap.size := by omega
  have ya1_2 : w1.heap.size ≤ w2.heap.size := by omega
  go_wp2_with fail
  refine (charge_no s a _ h1).mono ?_
  rintro e w3 ⟨rfl, hb3⟩
  obtain ⟨hc3, hf3⟩ := bcell hb3
  have z3 := hb3.size
  try simp at z3
  have za0_3 : w.heap.size < w3.heap.size := by omega
  have ya0_3 : w.heap.size ≤ w3.heap.size := by omega
  have ya1_3 : w1.heap.size ≤ w3.heap.size := by omega
  have za2_3 : w2.heap.size < w3.heap.size := by omega
  have ya2_3 : w2.heap.size ≤ w3.heap.size := by omega
  go_wp2_with fail
  refine (charge_any s b _).mono ?_
  rintro e w4 ⟨rfl, hb4⟩
  obtain ⟨hc4, hf4⟩ := bcell hb4
  have z4 := hb4.size
  try simp at z4
  have za0_4 : w.heap.size < w4.heap.size := by omega
  have ya0_4 : w.heap.size ≤ w4.heap.size := by omega
  have ya1_4 : w1.heap.size ≤ w4.heap.size := by omega
  have za2_4 : w2.heap.size < w4.heap.size := by omega
  have ya2_4 : w2.heap.size ≤ w4.heap.size := by omega
  have za3_4 : w3.heap.size < w4.heap.size := by omega
  have ya3_4 : w3.heap.size ≤ w4.heap.size := by omega
  go_wp2_with fail
  refine (charge_no s (a + b) _ (by omega)).mono ?_
  rintro e w5 ⟨rfl, hb5⟩
  obtain ⟨hc5, hf5⟩ := bcell hb5
  have z5 := hb5.size
  try simp at z5
  have za0_5 : w.heap.size < w5.heap.size := by omega
  have ya0_5 : w.heap.size ≤ w5.heap.size := by omega
  have ya1_5 : w1.heap.size ≤ w5.heap.size := by omega
  have za2_5 : w2.heap.size < w5.heap.size := by omega
  have ya2_5 : w2.heap.size ≤ w5.heap.size := by omega
  have za3_5 : w3.heap.size < w5.heap.size := by omega
  have ya3_5 : w3.heap.size ≤ w5.heap.size := by omega
  have za4_5 : w4.heap.size < w5.heap.size := by omega
  have ya4_5 : w4.heap.size ≤ w5.heap.size := by omega
  go_wp2
  go_ret
  refine ⟨rfl, ?_⟩
  repeat (refine Below.alloc ?_ (by first | omega | (simp; done) | (simp; omega)) _)
  refine below_step ?_ (by first | omega | (simp; done) | (simp; omega)) hb5
  repeat (refine Below.alloc ?_ (by first | omega | (simp; done) | (simp; omega)) _)
  refine below_step ?_ (by first | omega | (simp; done) | (simp; omega)) hb4
  repeat (refine Below.alloc ?_ (by first | omega | (simp; done) | (simp; omega)) _)
  refine below_step ?_ (by first | omega | (simp; done) | (simp; omega)) hb3
  repeat (refine Below.alloc ?_ (by first | omega | (simp; done) | (simp; omega)) _)
  refine below_step ?_ (by first | omega | (simp; done) | (simp; omega)) hb2
  repeat (refine Below.alloc ?_ (by first | omega | (simp; done) | (simp; omega)) _)
  refine below_step ?_ (by first | omega | (simp; done) | (simp; omega)) hb1
  repeat (first | exact Below.refl _ _ | refine Below.alloc ?_ (by first | omega | (simp; done) | (simp; omega)) _)
set_option maxHeartbeats 4000000 in
theorem splits_b (d m o a b : Int) (hm : m ≤ 9223372036854775807) (ha : 0 ≤ a) (ha' : a ≤ 4294967295) (hb : 0 ≤ b) (hb' : b ≤ 4294967295) (s : Int) (hs : 0 ≤ s) (hs' : s ≤ 9223372036854775807) (HS : Hid (mx0 m = s)) (h1 : ¬ s < a) (h2 : s - a < b) (w : World) :
    Calls Try.prog 6 #[.agg #[.int .i64 d, .int .i64 m, .int .i64 o], .int .u32 a, .int .u32 b] w fun e w' => e = .returned (.bool true) ∧ Below w.heap.size w w' := by
  go_enter Try.func6, Try.ntmps6
  go_wp2_with fail
  refine (awake_any _).mono ?_
  rintro e w1 ⟨rfl, hb1⟩
  obtain ⟨hc1, hf1⟩ := bcell hb1
  have z1 := hb1.size
  try simp at z1
  have za0_1 : w.heap.size < w1.heap.size := by omega
  have ya0_1 : w.heap.size ≤ w1.heap.size := by omega
  go_wp2_with fail
  refine (start_is d m o s _ HS.out).mono ?_
  rintro e w2 ⟨rfl, hb2⟩
  obtain ⟨hc2, hf2⟩ := bcell hb2
  have z2 := hb2.size
  try simp at z2
  have za0_2 : w.heap.size < w2.heap.size := by omega
  have ya0_2 : w.heap.size ≤ w2.heap.size := by omega
  have ya1_2 : w1.heap.size ≤ w2.heap.size := by omega
  go_wp2_with fail
  refine (charge_yes s a (s - a) _ (by omega) ha (by omega) rfl).mono ?_
  rintro e w3 ⟨rfl, hb3⟩
  obtain ⟨hc3, hf3⟩ := bcell hb3
  have z3 := hb3.size
  try simp at z3
  have za0_3 : w.heap.size < w3.heap.size := by omega
  have ya0_3 : w.heap.size ≤ w3.heap.size := by omega
  have ya1_3 : w1.heap.size ≤ w3.heap.size := by omega
  have za2_3 : w2.heap.size < w3.heap.size := by omega
  have ya2_3 : w2.heap.size ≤ w3.heap.size := by omega
  go_wp2_with fail
  refine (charge_no (s - a) b _ (by omega)).mono ?_
  rintro e w4 ⟨rfl, hb4⟩
  obtain ⟨hc4, hf4⟩ := bcell hb4
  have z4 := hb4.size
  try simp at z4
  have za0_4 : w.heap.size < w4.heap.size := by omega
  have ya0_4 : w.heap.size ≤ w4.heap.size := by omega
  have ya1_4 : w1.heap.size ≤ w4.heap.size := by omega
  have za2_4 : w2.heap.size < w4.heap.size := by omega
  have ya2_4 : w2.heap.size ≤ w4.heap.size := by omega
  have za3_4 : w3.heap.size < w4.heap.size := by omega
  have ya3_4 : w3.heap.size ≤ w4.heap.size := by omega
  go_wp2_with fail
  refine (charge_no s (a + b) _ (by omega)).mono ?_
  rintro e w5 ⟨rfl, hb5⟩
  obtain ⟨hc5, hf5⟩ := bcell hb5
  have z5 := hb5.size
  try simp at z5
  have za0_5 : w.heap.size < w5.heap.size := by omega
  have ya0_5 : w.heap.size ≤ w5.heap.size := by omega
  have ya1_5 : w1.heap.size ≤ w5.heap.size := by omega
  have za2_5 : w2.heap.size < w5.heap.size := by omega
  have ya2_5 : w2.heap.size ≤ w5.heap.size := by omega
  have za3_5 : w3.heap.size < w5.heap.size := by omega
  have ya3_5 : w3.heap.size ≤ w5.heap.size := by omega
  have za4_5 : w4.heap.size < w5.heap.size := by omega
  have ya4_5 : w4.heap.size ≤ w5.heap.size := by omega
  go_wp2
  go_ret
  refine ⟨rfl, ?_⟩
  repeat (refine Below.alloc ?_ (by first | omega | (simp; done) | (simp; omega)) _)
  refine below_step ?_ (by first | omega | (simp; done) | (simp; omega)) hb5
  repeat (refine Below.alloc ?_ (by first | omega | (simp; done) | (simp; omega)) _)
  refine below_step ?_ (by first | omega | (simp; done) | (simp; omega)) hb4
  repeat (refine Below.alloc ?_ (by first | omega | (simp; done) | (simp; omega)) _)
  refine below_step ?_ (by first | omega | (simp; done) | (simp; omega)) hb3
  repeat (refine Below.alloc ?_ (by first | omega | (simp; done) | (simp; omega)) _)
  refine below_step ?_ (by first | omega | (simp; done) | (simp; omega)) hb2
  repeat (refine Below.alloc ?_ (by first | omega | (simp; done) | (simp; omega)) _)
  refine below_step ?_ (by first | omega | (simp; done) | (simp; omega)) hb1
  repeat (first | exact Below.refl _ _ | refine Below.alloc ?_ (by first | omega | (simp; done) | (simp; omega)) _)
set_option maxHeartbeats 4000000 in
theorem splits_c (d m o a b : Int) (hm : m ≤ 9223372036854775807) (ha : 0 ≤ a) (ha' : a ≤ 4294967295) (hb : 0 ≤ b) (hb' : b ≤ 4294967295) (s : Int) (hs : 0 ≤ s) (hs' : s ≤ 9223372036854775807) (HS : Hid (mx0 m = s)) (h1 : ¬ s < a) (h2 : ¬ s - a < b) (w : World) :
    Calls Try.prog 6 #[.agg #[.int .i64 d, .int .i64 m, .int .i64 o], .int .u32 a, .int .u32 b] w fun e w' => e = .returned (.bool true) ∧ Below w.heap.size w w' := by
  go_enter Try.func6, Try.ntmps6
  go_wp2_with fail
  refine (awake_any _).mono ?_
  rintro e w1 ⟨rfl, hb1⟩
  obtain ⟨hc1, hf1⟩ := bcell hb1
  have z1 := hb1.size
  try simp at z1
  have za0_1 : w.heap.size < w1.heap.size := by omega
  have ya0_1 : w.heap.size ≤ w1.heap.size := by omega
  go_wp2_with fail
  refine (start_is d m o s _ HS.out).mono ?_
  rintro e w2 ⟨rfl, hb2⟩
  obtain ⟨hc2, hf2⟩ := bcell hb2
  have z2 := hb2.size
  try simp at z2
  have za0_2 : w.heap.size < w2.heap.size := by omega
  have ya0_2 : w.heap.size ≤ w2.heap.size := by omega
  have ya1_2 : w1.heap.size ≤ w2.heap.size := by omega
  go_wp2_with fail
  refine (charge_yes s a (s - a) _ (by omega) ha (by omega) rfl).mono ?_
  rintro e w3 ⟨rfl, hb3⟩
  obtain ⟨hc3, hf3⟩ := bcell hb3
  have z3 := hb3.size
  try simp at z3
  have za0_3 : w.heap.size < w3.heap.size := by omega
  have ya0_3 : w.heap.size ≤ w3.heap.size := by omega
  have ya1_3 : w1.heap.size ≤ w3.heap.size := by omega
  have za2_3 : w2.heap.size < w3.heap.size := by omega
  have ya2_3 : w2.heap.size ≤ w3.heap.size := by omega
  go_wp2_with fail
  refine (charge_yes (s - a) b (s - a - b) _ (by omega) hb (by omega) rfl).mono ?_
  rintro e w4 ⟨rfl, hb4⟩
  obtain ⟨hc4, hf4⟩ := bcell hb4
  have z4 := hb4.size
  try simp at z4
  have za0_4 : w.heap.size < w4.heap.size := by omega
  have ya0_4 : w.heap.size ≤ w4.heap.size := by omega
  have ya1_4 : w1.heap.size ≤ w4.heap.size := by omega
  have za2_4 : w2.heap.size < w4.heap.size := by omega
  have ya2_4 : w2.heap.size ≤ w4.heap.size := by omega
  have za3_4 : w3.heap.size < w4.heap.size := by omega
  have ya3_4 : w3.heap.size ≤ w4.heap.size := by omega
  go_wp2_with fail
  refine (charge_yes s (a + b) (s - a - b) _ (by omega) (by omega) (by omega) (by omega)).mono ?_
  rintro e w5 ⟨rfl, hb5⟩
  obtain ⟨hc5, hf5⟩ := bcell hb5
  have z5 := hb5.size
  try simp at z5
  have za0_5 : w.heap.size < w5.heap.size := by omega
  have ya0_5 : w.heap.size ≤ w5.heap.size := by omega
  have ya1_5 : w1.heap.size ≤ w5.heap.size := by omega
  have za2_5 : w2.heap.size < w5.heap.size := by omega
  have ya2_5 : w2.heap.size ≤ w5.heap.size := by omega
  have za3_5 : w3.heap.size < w5.heap.size := by omega
  have ya3_5 : w3.heap.size ≤ w5.heap.size := by omega
  have za4_5 : w4.heap.size < w5.heap.size := by omega
  have ya4_5 : w4.heap.size ≤ w5.heap.size := by omega
  go_wp2_with fail
  refine (used_is d m o (s - a - b) (a + b) _ (by rw [HS.out, IntWalk.wrap64_in _ (by omega)]; omega)).mono ?_
  rintro e w6 ⟨rfl, hb6⟩
  obtain ⟨hc6, hf6⟩ := bcell hb6
  have z6 := hb6.size
  try simp at z6
  go_wp2
  go_ret
  refine ⟨rfl, ?_⟩
  repeat (refine Below.alloc ?_ (by first | omega | (simp; done) | (simp; omega)) _)
  refine below_step ?_ (by first | omega | (simp; done) | (simp; omega)) hb6
  repeat (refine Below.alloc ?_ (by first | omega | (simp; done) | (simp; omega)) _)
  refine below_step ?_ (by first | omega | (simp; done) | (simp; omega)) hb5
  repeat (refine Below.alloc ?_ (by first | omega | (simp; done) | (simp; omega)) _)
  refine below_step ?_ (by first | omega | (simp; done) | (simp; omega)) hb4
  repeat (refine Below.alloc ?_ (by first | omega | (simp; done) | (simp; omega)) _)
  refine below_step ?_ (by first | omega | (simp; done) | (simp; omega)) hb3
  repeat (refine Below.alloc ?_ (by first | omega | (simp; done) | (simp; omega)) _)
  refine below_step ?_ (by first | omega | (simp; done) | (simp; omega)) hb2
  repeat (refine Below.alloc ?_ (by first | omega | (simp; done) | (simp; omega)) _)
  refine below_step ?_ (by first | omega | (simp; done) | (simp; omega)) hb1
  repeat (first | exact Below.refl _ _ | refine Below.alloc ?_ (by first | omega | (simp; done) | (simp; omega)) _)
theorem splits_walk (d m o a b : Int) (hm : m ≤ 9223372036854775807) (ha : 0 ≤ a) (ha' : a ≤ 4294967295) (hb : 0 ≤ b) (hb' : b ≤ 4294967295) (w : World) :
    Calls Try.prog 6 #[.agg #[.int .i64 d, .int .i64 m, .int .i64 o], .int .u32 a, .int .u32 b] w fun e w' => e = .returned (.bool true) ∧ Below w.heap.size w w' := by
  by_cases h1 : mx0 m < a
  · exact splits_a d m o a b hm ha ha' hb hb' _ (mx0_nonneg m) (mx0_le hm) rfl h1 w
  · by_cases h2 : mx0 m - a < b
    · exact splits_b d m o a b hm ha ha' hb hb' _ (mx0_nonneg m) (mx0_le hm) rfl h1 h2 w
    · exact splits_c d m o a b hm ha ha' hb hb' _ (mx0_nonneg m) (mx0_le hm) rfl h1 h2 w
end Go.Proofs.Ytmbecfiajkalcaa
