/- BudgetOrder's walk: two charges lead to one meter in either order. No condition beyond each number's being of its kind. -/
import Derived.Test.YtmbecfiajkalcaaBud2
import Derived.Outline
set_option linter.unusedVariables false
set_option linter.unusedSimpArgs false
namespace Go.Proofs.Ytmbecfiajkalcaa
open Go.RowKit

theorem chM_yes {m c : Int} (h : ¬ m < c) (h0 : 0 ≤ c) (h1 : m ≤ 9223372036854775807) : chM m c = m - c := by
  unfold chM
  rw [if_neg h, IntWalk.wrap64_in _ (by omega)]
theorem chM_no {m c : Int} (h : m < c) : chM m c = m := if_pos h
theorem chE_yes {m c : Int} (h : ¬ m < c) : chE m c = 0 := if_neg h
theorem chE_no {m c : Int} (h : m < c) : chE m c = 8 := if_pos h
theorem charge_yes (m c m' : Int) (w : World) (h : ¬ m < c) (h0 : 0 ≤ c) (h1 : m ≤ 9223372036854775807) (e : m - c = m') :
    Calls Try.prog 8 #[.agg #[.int .i64 m], .int .i64 c] w fun e w' => e = .returned (.tuple #[.agg #[.int .i64 m'], .int .i64 0]) ∧ Below w.heap.size w w' :=
  charge_is m c m' 0 w ((chM_yes h h0 h1).trans e) (chE_yes h)
theorem charge_no (m c : Int) (w : World) (h : m < c) :
    Calls Try.prog 8 #[.agg #[.int .i64 m], .int .i64 c] w fun e w' => e = .returned (.tuple #[.agg #[.int .i64 m], .int .i64 8]) ∧ Below w.heap.size w w' :=
  charge_is m c m 8 w (chM_no h) (chE_no h)
theorem mx0_of {m : Int} (h : 0 ≤ m) : mx0 m = m := if_neg (by omega)
set_option maxHeartbeats 4000000 in
theorem order_c (words a b more : Int) (h0 : 0 ≤ words) (h0' : words ≤ 4294967295) (ha : 0 ≤ a) (ha' : a ≤ 4294967295) (hb : 0 ≤ b) (hb' : b ≤ 4294967295) (hm : 0 ≤ more) (hm' : more ≤ 65535) (h1 : ¬ words < a) (h2 : ¬ words - a < b) (w : World) :
    Calls Try.prog 5 #[.int .u32 words, .int .u32 a, .int .u32 b, .int .u16 more] w fun e w' => e = .returned (.bool true) ∧ Below w.heap.size w w' := by
  go_enter Try.func5, Try.ntmps5
  go_wp2_with fail
  refine (awake_any _).mono ?_
  rintro e w1 ⟨rfl, hb1⟩
  obtain ⟨hc1, hf1⟩ := bcell hb1
  have z1 := hb1.size
  try simp at z1
  have ya0_1 : w.heap.size ≤ w1.heap.size := by omega
  go_wp2_with fail
  refine (start_is 0 words 0 words _ (mx0_of h0)).mono ?_
  rintro e w2 ⟨rfl, hb2⟩
  obtain ⟨hc2, hf2⟩ := bcell hb2
  have z2 := hb2.size
  try simp at z2
  have ya0_2 : w.heap.size ≤ w2.heap.size := by omega
  have ya1_2 : w1.heap.size ≤ w2.heap.size := by omega
  go_wp2_with fail
  refine (charge_yes words a (words - a) _ (by omega) ha (by omega) rfl).mono ?_
  rintro e w3 ⟨rfl, hb3⟩
  obtain ⟨hc3, hf3⟩ := bcell hb3
  have z3 := hb3.size
  try simp at z3
  have ya0_3 : w.heap.size ≤ w3.heap.size := by omega
  have ya1_3 : w1.heap.size ≤ w3.heap.size := by omega
  have za2_3 : w2.heap.size < w3.heap.size := by omega
  have ya2_3 : w2.heap.size ≤ w3.heap.size := by omega
  go_wp2_with fail
  refine (charge_yes (words - a) b (words - a - b) _ (by omega) hb (by omega) rfl).mono ?_
  rintro e w4 ⟨rfl, hb4⟩
  obtain ⟨hc4, hf4⟩ := bcell hb4
  have z4 := hb4.size
  try simp at z4
  have ya0_4 : w.heap.size ≤ w4.heap.size := by omega
  have ya1_4 : w1.heap.size ≤ w4.heap.size := by omega
  have za2_4 : w2.heap.size < w4.heap.size := by omega
  have ya2_4 : w2.heap.size ≤ w4.heap.size := by omega
  have za3_4 : w3.heap.size < w4.heap.size := by omega
  have ya3_4 : w3.heap.size ≤ w4.heap.size := by omega
  go_wp2_with fail
  refine (charge_yes words (a + b) (words - a - b) _ (by omega) (by omega) (by omega) (by omega)).mono ?_
  rintro e w5 ⟨rfl, hb5⟩
  obtain ⟨hc5, hf5⟩ := bcell hb5
  have z5 := hb5.size
  try simp at z5
  have ya0_5 : w.heap.size ≤ w5.heap.size := by omega
  have ya1_5 : w1.heap.size ≤ w5.heap.size := by omega
  have za2_5 : w2.heap.size < w5.heap.size := by omega
  have ya2_5 : w2.heap.size ≤ w5.heap.size := by omega
  have za3_5 : w3.heap.size < w5.heap.size := by omega
  have ya3_5 : w3.heap.size ≤ w5.heap.size := by omega
  have za4_5 : w4.heap.size < w5.heap.size := by omega
  have ya4_5 : w4.heap.size ≤ w5.heap.size := by omega
  go_wp2_with fail
  refine (charge_yes words b (words - b) _ (by omega) hb (by omega) rfl).mono ?_
  rintro e w6 ⟨rfl, hb6⟩
  obtain ⟨hc6, hf6⟩ := bcell hb6
  have z6 := hb6.size
  try simp at z6
  have ya0_6 : w.heap.size ≤ w6.heap.size := by omega
  have ya1_6 : w1.heap.size ≤ w6.heap.size := by omega
  have za2_6 : w2.heap.size < w6.heap.size := by omega
  have ya2_6 : w2.heap.size ≤ w6.heap.size := by omega
  have za3_6 : w3.heap.size < w6.heap.size := by omega
  have ya3_6 : w3.heap.size ≤ w6.heap.size := by omega
  have za4_6 : w4.heap.size < w6.heap.size := by omega
  have ya4_6 : w4.heap.size ≤ w6.heap.size := by omega
  have za5_6 : w5.heap.size < w6.heap.size := by omega
  have ya5_6 : w5.heap.size ≤ w6.heap.size := by omega
  go_wp2_with fail
  refine (charge_yes (words - b) a (words - a - b) _ (by omega) ha (by omega) (by omega)).mono ?_
  rintro e w7 ⟨rfl, hb7⟩
  obtain ⟨hc7, hf7⟩ := bcell hb7
  have z7 := hb7.size
  try simp at z7
  have ya0_7 : w.heap.size ≤ w7.heap.size := by omega
  have ya1_7 : w1.heap.size ≤ w7.heap.size := by omega
  have za2_7 : w2.heap.size < w7.heap.size := by omega
  have ya2_7 : w2.heap.size ≤ w7.heap.size := by omega
  have za3_7 : w3.heap.size < w7.heap.size := by omega
  have ya3_7 : w3.heap.size ≤ w7.heap.size := by omega
  have za4_7 : w4.heap.size < w7.heap.size := by omega
  have ya4_7 : w4.heap.size ≤ w7.heap.size := by omega
  have za5_7 : w5.heap.size < w7.heap.size := by omega
  have ya5_7 : w5.heap.size ≤ w7.heap.size := by omega
  have za6_7 : w6.heap.size < w7.heap.size := by omega
  have ya6_7 : w6.heap.size ≤ w7.heap.size := by omega
  go_wp2_with fail
  refine (start_is 0 (words + more) 0 (words + more) _ (mx0_of (by omega))).mono ?_
  rintro e w8 ⟨rfl, hb8⟩
  obtain ⟨hc8, hf8⟩ := bcell hb8
  have z8 := hb8.size
  try simp at z8
  have ya0_8 : w.heap.size ≤ w8.heap.size := by omega
  have ya1_8 : w1.heap.size ≤ w8.heap.size := by omega
  have za2_8 : w2.heap.size < w8.heap.size := by omega
  have ya2_8 : w2.heap.size ≤ w8.heap.size := by omega
  have za3_8 : w3.heap.size < w8.heap.size := by omega
  have ya3_8 : w3.heap.size ≤ w8.heap.size := by omega
  have za4_8 : w4.heap.size < w8.heap.size := by omega
  have ya4_8 : w4.heap.size ≤ w8.heap.size := by omega
  have za5_8 : w5.heap.size < w8.heap.size := by omega
  have ya5_8 : w5.heap.size ≤ w8.heap.size := by omega
  have za6_8 : w6.heap.size < w8.heap.size := by omega
  have ya6_8 : w6.heap.size ≤ w8.heap.size := by omega
  have za7_8 : w7.heap.size < w8.heap.size := by omega
  have ya7_8 : w7.heap.size ≤ w8.heap.size := by omega
  go_wp2_with fail
  refine (charge_yes (words + more) a (words - a + more) _ (by omega) ha (by omega) (by omega)).mono ?_
  rintro e w9 ⟨rfl, hb9⟩
  obtain ⟨hc9, hf9⟩ := bcell hb9
  have z9 := hb9.size
  try simp at z9
  have ya0_9 : w.heap.size ≤ w9.heap.size := by omega
  have ya1_9 : w1.heap.size ≤ w9.heap.size := by omega
  have za2_9 : w2.heap.size < w9.heap.size := by omega
  have ya2_9 : w2.heap.size ≤ w9.heap.size := by omega
  have za3_9 : w3.heap.size < w9.heap.size := by omega
  have ya3_9 : w3.heap.size ≤ w9.heap.size := by omega
  have za4_9 : w4.heap.size < w9.heap.size := by omega
  have ya4_9 : w4.heap.size ≤ w9.heap.size := by omega
  have za5_9 : w5.heap.size < w9.heap.size := by omega
  have ya5_9 : w5.heap.size ≤ w9.heap.size := by omega
  have za6_9 : w6.heap.size < w9.heap.size := by omega
  have ya6_9 : w6.heap.size ≤ w9.heap.size := by omega
  have za7_9 : w7.heap.size < w9.heap.size := by omega
  have ya7_9 : w7.heap.size ≤ w9.heap.size := by omega
  have ya8_9 : w8.heap.size ≤ w9.heap.size := by omega
  go_wp2
  go_ret
  refine ⟨rfl, ?_⟩
  repeat (refine Below.alloc ?_ (by first | omega | (simp; done) | (simp; omega)) _)
  refine below_step ?_ (by first | omega | (simp; done) | (simp; omega)) hb9
  repeat (refine Below.alloc ?_ (by first | omega | (simp; done) | (simp; omega)) _)
  refine below_step ?_ (by first | omega | (simp; done) | (simp; omega)) hb8
  repeat (refine Below.alloc ?_ (by first | omega | (simp; done) | (simp; omega)) _)
  refine below_step ?_ (by first | omega | (simp; done) | (simp; omega)) hb7
  repeat (refine Below.alloc ?_ (by first | omega | (simp; done) | (simp; omega)) _)
  refine below_step ?_ (by first | omega | (simp; done) | (simp; omega)) hb6
  repeat (refine Below.alloc ?_ (by first | omega | (simp; done) | (simp; omega)) _)
  refine below_step ?_ (by first | omega | (simp; done) | (simp; omega)) hb5
  repeat (refine Below.alloc ?_ (by first | omega | (simp; done) | (simp; omega)) _)
  refine below_step ?_ (by first | omega | (simp; done) | (simp; omega)) hb4
  repeat (refine Below.alloc ?_ (by first | omega | (simp; done) | (simp; omega)) _)
  refine below_step ?_ (by first | omega | (simp; done) | (simp; omega)) hb3
  repeat (refine Below.alloc ?_ (by first | omega | (simp; done) | (simp; omega)) _)
  refine below_step ?_ (by first | omega | (simp; done) | (simp; omega)) hb2
  repeat (refine Below.alloc ?_ (by first | omega | (simp; done) | (simp; omega)) _)
  refine below_step ?_ (by first | omega | (simp; done) | (simp; omega)) hb1
  repeat (first | exact Below.refl _ _ | refine Below.alloc ?_ (by first | omega | (simp; done) | (simp; omega)) _)
set_option maxHeartbeats 4000000 in
theorem order_b (words a b more : Int) (h0 : 0 ≤ words) (h0' : words ≤ 4294967295) (ha : 0 ≤ a) (ha' : a ≤ 4294967295) (hb : 0 ≤ b) (hb' : b ≤ 4294967295) (hm : 0 ≤ more) (hm' : more ≤ 65535) (h1 : ¬ words < a) (h2 : words - a < b) (w : World) :
    Calls Try.prog 5 #[.int .u32 words, .int .u32 a, .int .u32 b, .int .u16 more] w fun e w' => e = .returned (.bool true) ∧ Below w.heap.size w w' := by
  go_enter Try.func5, Try.ntmps5
  go_wp2_with fail
  refine (awake_any _).mono ?_
  rintro e w1 ⟨rfl, hb1⟩
  obtain ⟨hc1, hf1⟩ := bcell hb1
  have z1 := hb1.size
  try simp at z1
  have ya0_1 : w.heap.size ≤ w1.heap.size := by omega
  go_wp2_with fail
  refine (start_is 0 words 0 words _ (mx0_of h0)).mono ?_
  rintro e w2 ⟨rfl, hb2⟩
  obtain ⟨hc2, hf2⟩ := bcell hb2
  have z2 := hb2.size
  try simp at z2
  have ya0_2 : w.heap.size ≤ w2.heap.size := by omega
  have ya1_2 : w1.heap.size ≤ w2.heap.size := by omega
  go_wp2_with fail
  refine (charge_yes words a (words - a) _ (by omega) ha (by omega) rfl).mono ?_
  rintro e w3 ⟨rfl, hb3⟩
  obtain ⟨hc3, hf3⟩ := bcell hb3
  have z3 := hb3.size
  try simp at z3
  have ya0_3 : w.heap.size ≤ w3.heap.size := by omega
  have ya1_3 : w1.heap.size ≤ w3.heap.size := by omega
  have za2_3 : w2.heap.size < w3.heap.size := by omega
  have ya2_3 : w2.heap.size ≤ w3.heap.size := by omega
  go_wp2_with fail
  refine (charge_no (words - a) b _ (by omega)).mono ?_
  rintro e w4 ⟨rfl, hb4⟩
  obtain ⟨hc4, hf4⟩ := bcell hb4
  have z4 := hb4.size
  try simp at z4
  have ya0_4 : w.heap.size ≤ w4.heap.size := by omega
  have ya1_4 : w1.heap.size ≤ w4.heap.size := by omega
  have za2_4 : w2.heap.size < w4.heap.size := by omega
  have ya2_4 : w2.heap.size ≤ w4.heap.size := by omega
  have za3_4 : w3.heap.size < w4.heap.size := by omega
  have ya3_4 : w3.heap.size ≤ w4.heap.size := by omega
  go_wp2_with fail
  refine (charge_no words (a + b) _ (by omega)).mono ?_
  rintro e w5 ⟨rfl, hb5⟩
  obtain ⟨hc5, hf5⟩ := bcell hb5
  have z5 := hb5.size
  try simp at z5
  have ya0_5 : w.heap.size ≤ w5.heap.size := by omega
  have ya1_5 : w1.heap.size ≤ w5.heap.size := by omega
  have za2_5 : w2.heap.size < w5.heap.size := by omega
  have ya2_5 : w2.heap.size ≤ w5.heap.size := by omega
  have za3_5 : w3.heap.size < w5.heap.size := by omega
  have ya3_5 : w3.heap.size ≤ w5.heap.size := by omega
  have za4_5 : w4.heap.size < w5.heap.size := by omega
  have ya4_5 : w4.heap.size ≤ w5.heap.size := by omega
  go_wp2_with fail
  refine (charge_any words b _).mono ?_
  rintro e w6 ⟨rfl, hb6⟩
  obtain ⟨hc6, hf6⟩ := bcell hb6
  have z6 := hb6.size
  try simp at z6
  have ya0_6 : w.heap.size ≤ w6.heap.size := by omega
  have ya1_6 : w1.heap.size ≤ w6.heap.size := by omega
  have za2_6 : w2.heap.size < w6.heap.size := by omega
  have ya2_6 : w2.heap.size ≤ w6.heap.size := by omega
  have za3_6 : w3.heap.size < w6.heap.size := by omega
  have ya3_6 : w3.heap.size ≤ w6.heap.size := by omega
  have za4_6 : w4.heap.size < w6.heap.size := by omega
  have ya4_6 : w4.heap.size ≤ w6.heap.size := by omega
  have za5_6 : w5.heap.size < w6.heap.size := by omega
  have ya5_6 : w5.heap.size ≤ w6.heap.size := by omega
  go_wp2_with fail
  refine (charge_any (chM words b) a _).mono ?_
  rintro e w7 ⟨rfl, hb7⟩
  obtain ⟨hc7, hf7⟩ := bcell hb7
  have z7 := hb7.size
  try simp at z7
  have ya0_7 : w.heap.size ≤ w7.heap.size := by omega
  have ya1_7 : w1.heap.size ≤ w7.heap.size := by omega
  have za2_7 : w2.heap.size < w7.heap.size := by omega
  have ya2_7 : w2.heap.size ≤ w7.heap.size := by omega
  have za3_7 : w3.heap.size < w7.heap.size := by omega
  have ya3_7 : w3.heap.size ≤ w7.heap.size := by omega
  have za4_7 : w4.heap.size < w7.heap.size := by omega
  have ya4_7 : w4.heap.size ≤ w7.heap.size := by omega
  have za5_7 : w5.heap.size < w7.heap.size := by omega
  have ya5_7 : w5.heap.size ≤ w7.heap.size := by omega
  have za6_7 : w6.heap.size < w7.heap.size := by omega
  have ya6_7 : w6.heap.size ≤ w7.heap.size := by omega
  go_wp2_with fail
  refine (start_is 0 (words + more) 0 (words + more) _ (mx0_of (by omega))).mono ?_
  rintro e w8 ⟨rfl, hb8⟩
  obtain ⟨hc8, hf8⟩ := bcell hb8
  have z8 := hb8.size
  try simp at z8
  have ya0_8 : w.heap.size ≤ w8.heap.size := by omega
  have ya1_8 : w1.heap.size ≤ w8.heap.size := by omega
  have za2_8 : w2.heap.size < w8.heap.size := by omega
  have ya2_8 : w2.heap.size ≤ w8.heap.size := by omega
  have za3_8 : w3.heap.size < w8.heap.size := by omega
  have ya3_8 : w3.heap.size ≤ w8.heap.size := by omega
  have za4_8 : w4.heap.size < w8.heap.size := by omega
  have ya4_8 : w4.heap.size ≤ w8.heap.size := by omega
  have za5_8 : w5.heap.size < w8.heap.size := by omega
  have ya5_8 : w5.heap.size ≤ w8.heap.size := by omega
  have za6_8 : w6.heap.size < w8.heap.size := by omega
  have ya6_8 : w6.heap.size ≤ w8.heap.size := by omega
  have za7_8 : w7.heap.size < w8.heap.size := by omega
  have ya7_8 : w7.heap.size ≤ w8.heap.size := by omega
  go_wp2_with fail
  refine (charge_yes (words + more) a (words - a + more) _ (by omega) ha (by omega) (by omega)).mono ?_
  rintro e w9 ⟨rfl, hb9⟩
  obtain ⟨hc9, hf9⟩ := bcell hb9
  have z9 := hb9.size
  try simp at z9
  have ya0_9 : w.heap.size ≤ w9.heap.size := by omega
  have ya1_9 : w1.heap.size ≤ w9.heap.size := by omega
  have za2_9 : w2.heap.size < w9.heap.size := by omega
  have ya2_9 : w2.heap.size ≤ w9.heap.size := by omega
  have za3_9 : w3.heap.size < w9.heap.size := by omega
  have ya3_9 : w3.heap.size ≤ w9.heap.size := by omega
  have za4_9 : w4.heap.size < w9.heap.size := by omega
  have ya4_9 : w4.heap.size ≤ w9.heap.size := by omega
  have za5_9 : w5.heap.size < w9.heap.size := by omega
  have ya5_9 : w5.heap.size ≤ w9.heap.size := by omega
  have za6_9 : w6.heap.size < w9.heap.size := by omega
  have ya6_9 : w6.heap.size ≤ w9.heap.size := by omega
  have za7_9 : w7.heap.size < w9.heap.size := by omega
  have ya7_9 : w7.heap.size ≤ w9.heap.size := by omega
  have ya8_9 : w8.heap.size ≤ w9.heap.size := by omega
  go_wp2
  go_ret
  refine ⟨rfl, ?_⟩
  repeat (refine Below.alloc ?_ (by first | omega | (simp; done) | (simp; omega)) _)
  refine below_step ?_ (by first | omega | (simp; done) | (simp; omega)) hb9
  repeat (refine Below.alloc ?_ (by first | omega | (simp; done) | (simp; omega)) _)
  refine below_step ?_ (by first | omega | (simp; done) | (simp; omega)) hb8
  repeat (refine Below.alloc ?_ (by first | omega | (simp; done) | (simp; omega)) _)
  refine below_step ?_ (by first | omega | (simp; done) | (simp; omega)) hb7
  repeat (refine Below.alloc ?_ (by first | omega | (simp; done) | (simp; omega)) _)
  refine below_step ?_ (by first | omega | (simp; done) | (simp; omega)) hb6
  repeat (refine Below.alloc ?_ (by first | omega | (simp; done) | (simp; omega)) _)
  refine below_step ?_ (by first | omega | (simp; done) | (simp; omega)) hb5
  repeat (refine Below.alloc ?_ (by first | omega | (simp; done) | (simp; omega)) _)
  refine below_step ?_ (by first | omega | (simp; done) | (simp; omega)) hb4
  repeat (refine Below.alloc ?_ (by first | omega | (simp; done) | (simp; omega)) _)
  refine below_step ?_ (by first | omega | (simp; done) | (simp; omega)) hb3
  repeat (refine Below.alloc ?_ (by first | omega | (simp; done) | (simp; omega)) _)
  refine below_step ?_ (by first | omega | (simp; done) | (simp; omega)) hb2
  repeat (refine Below.alloc ?_ (by first | omega | (simp; done) | (simp; omega)) _)
  refine below_step ?_ (by first | omega | (simp; done) | (simp; omega)) hb1
  repeat (first | exact Below.refl _ _ | refine Below.alloc ?_ (by first | omega | (simp; done) | (simp; omega)) _)
set_option maxHeartbeats 4000000 in
theorem order_a (words a b more : Int) (h0 : 0 ≤ words) (h0' : words ≤ 4294967295) (ha : 0 ≤ a) (ha' : a ≤ 4294967295) (hb : 0 ≤ b) (hb' : b ≤ 4294967295) (hm : 0 ≤ more) (hm' : more ≤ 65535) (h1 : words < a) (w : World) :
    Calls Try.prog 5 #[.int .u32 words, .int .u32 a, .int .u32 b, .int .u16 more] w fun e w' => e = .returned (.bool true) ∧ Below w.heap.size w w' := by
  go_enter Try.func5, Try.ntmps5
  go_wp2_with fail
  refine (awake_any _).mono ?_
  rintro e w1 ⟨rfl, hb1⟩
  obtain ⟨hc1, hf1⟩ := bcell hb1
  have z1 := hb1.size
  try simp at z1
  have ya0_1 : w.heap.size ≤ w1.heap.size := by omega
  go_wp2_with fail
  refine (start_is 0 words 0 words _ (mx0_of h0)).mono ?_
  rintro e w2 ⟨rfl, hb2⟩
  obtain ⟨hc2, hf2⟩ := bcell hb2
  have z2 := hb2.size
  try simp at z2
  have ya0_2 : w.heap.size ≤ w2.heap.size := by omega
  have ya1_2 : w1.heap.size ≤ w2.heap.size := by omega
  go_wp2_with fail
  refine (charge_no words a _ h1).mono ?_
  rintro e w3 ⟨rfl, hb3⟩
  obtain ⟨hc3, hf3⟩ := bcell hb3
  have z3 := hb3.size
  try simp at z3
  have ya0_3 : w.heap.size ≤ w3.heap.size := by omega
  have ya1_3 : w1.heap.size ≤ w3.heap.size := by omega
  have za2_3 : w2.heap.size < w3.heap.size := by omega
  have ya2_3 : w2.heap.size ≤ w3.heap.size := by omega
  go_wp2_with fail
  refine (charge_any words b _).mono ?_
  rintro e w4 ⟨rfl, hb4⟩
  obtain ⟨hc4, hf4⟩ := bcell hb4
  have z4 := hb4.size
  try simp at z4
  have ya0_4 : w.heap.size ≤ w4.heap.size := by omega
  have ya1_4 : w1.heap.size ≤ w4.heap.size := by omega
  have za2_4 : w2.heap.size < w4.heap.size := by omega
  have ya2_4 : w2.heap.size ≤ w4.heap.size := by omega
  have za3_4 : w3.heap.size < w4.heap.size := by omega
  have ya3_4 : w3.heap.size ≤ w4.heap.size := by omega
  go_wp2_with fail
  refine (charge_no words (a + b) _ (by omega)).mono ?_
  rintro e w5 ⟨rfl, hb5⟩
  obtain ⟨hc5, hf5⟩ := bcell hb5
  have z5 := hb5.size
  try simp at z5
  have ya0_5 : w.heap.size ≤ w5.heap.size := by omega
  have ya1_5 : w1.heap.size ≤ w5.heap.size := by omega
  have za2_5 : w2.heap.size < w5.heap.size := by omega
  have ya2_5 : w2.heap.size ≤ w5.heap.size := by omega
  have za3_5 : w3.heap.size < w5.heap.size := by omega
  have ya3_5 : w3.heap.size ≤ w5.heap.size := by omega
  have za4_5 : w4.heap.size < w5.heap.size := by omega
  have ya4_5 : w4.heap.size ≤ w5.heap.size := by omega
  go_wp2_with fail
  refine (charge_any words b _).mono ?_
  rintro e w6 ⟨rfl, hb6⟩
  obtain ⟨hc6, hf6⟩ := bcell hb6
  have z6 := hb6.size
  try simp at z6
  have ya0_6 : w.heap.size ≤ w6.heap.size := by omega
  have ya1_6 : w1.heap.size ≤ w6.heap.size := by omega
  have za2_6 : w2.heap.size < w6.heap.size := by omega
  have ya2_6 : w2.heap.size ≤ w6.heap.size := by omega
  have za3_6 : w3.heap.size < w6.heap.size := by omega
  have ya3_6 : w3.heap.size ≤ w6.heap.size := by omega
  have za4_6 : w4.heap.size < w6.heap.size := by omega
  have ya4_6 : w4.heap.size ≤ w6.heap.size := by omega
  have za5_6 : w5.heap.size < w6.heap.size := by omega
  have ya5_6 : w5.heap.size ≤ w6.heap.size := by omega
  go_wp2_with fail
  refine (charge_any (chM words b) a _).mono ?_
  rintro e w7 ⟨rfl, hb7⟩
  obtain ⟨hc7, hf7⟩ := bcell hb7
  have z7 := hb7.size
  try simp at z7
  have ya0_7 : w.heap.size ≤ w7.heap.size := by omega
  have ya1_7 : w1.heap.size ≤ w7.heap.size := by omega
  have za2_7 : w2.heap.size < w7.heap.size := by omega
  have ya2_7 : w2.heap.size ≤ w7.heap.size := by omega
  have za3_7 : w3.heap.size < w7.heap.size := by omega
  have ya3_7 : w3.heap.size ≤ w7.heap.size := by omega
  have za4_7 : w4.heap.size < w7.heap.size := by omega
  have ya4_7 : w4.heap.size ≤ w7.heap.size := by omega
  have za5_7 : w5.heap.size < w7.heap.size := by omega
  have ya5_7 : w5.heap.size ≤ w7.heap.size := by omega
  have za6_7 : w6.heap.size < w7.heap.size := by omega
  have ya6_7 : w6.heap.size ≤ w7.heap.size := by omega
  go_wp2_with fail
  refine (start_is 0 (words + more) 0 (words + more) _ (mx0_of (by omega))).mono ?_
  rintro e w8 ⟨rfl, hb8⟩
  obtain ⟨hc8, hf8⟩ := bcell hb8
  have z8 := hb8.size
  try simp at z8
  have ya0_8 : w.heap.size ≤ w8.heap.size := by omega
  have ya1_8 : w1.heap.size ≤ w8.heap.size := by omega
  have za2_8 : w2.heap.size < w8.heap.size := by omega
  have ya2_8 : w2.heap.size ≤ w8.heap.size := by omega
  have za3_8 : w3.heap.size < w8.heap.size := by omega
  have ya3_8 : w3.heap.size ≤ w8.heap.size := by omega
  have za4_8 : w4.heap.size < w8.heap.size := by omega
  have ya4_8 : w4.heap.size ≤ w8.heap.size := by omega
  have za5_8 : w5.heap.size < w8.heap.size := by omega
  have ya5_8 : w5.heap.size ≤ w8.heap.size := by omega
  have za6_8 : w6.heap.size < w8.heap.size := by omega
  have ya6_8 : w6.heap.size ≤ w8.heap.size := by omega
  have za7_8 : w7.heap.size < w8.heap.size := by omega
  have ya7_8 : w7.heap.size ≤ w8.heap.size := by omega
  go_wp2_with fail
  refine (charge_any (words + more) a _).mono ?_
  rintro e w9 ⟨rfl, hb9⟩
  obtain ⟨hc9, hf9⟩ := bcell hb9
  have z9 := hb9.size
  try simp at z9
  have ya0_9 : w.heap.size ≤ w9.heap.size := by omega
  have ya1_9 : w1.heap.size ≤ w9.heap.size := by omega
  have za2_9 : w2.heap.size < w9.heap.size := by omega
  have ya2_9 : w2.heap.size ≤ w9.heap.size := by omega
  have za3_9 : w3.heap.size < w9.heap.size := by omega
  have ya3_9 : w3.heap.size ≤ w9.heap.size := by omega
  have za4_9 : w4.heap.size < w9.heap.size := by omega
  have ya4_9 : w4.heap.size ≤ w9.heap.size := by omega
  have za5_9 : w5.heap.size < w9.heap.size := by omega
  have ya5_9 : w5.heap.size ≤ w9.heap.size := by omega
  have za6_9 : w6.heap.size < w9.heap.size := by omega
  have ya6_9 : w6.heap.size ≤ w9.heap.size := by omega
  have za7_9 : w7.heap.size < w9.heap.size := by omega
  have ya7_9 : w7.heap.size ≤ w9.heap.size := by omega
  have ya8_9 : w8.heap.size ≤ w9.heap.size := by omega
  go_wp2
  go_ret
  refine ⟨rfl, ?_⟩
  repeat (refine Below.alloc ?_ (by first | omega | (simp; done) | (simp; omega)) _)
  refine below_step ?_ (by first | omega | (simp; done) | (simp; omega)) hb9
  repeat (refine Below.alloc ?_ (by first | omega | (simp; done) | (simp; omega)) _)
  refine below_step ?_ (by first | omega | (simp; done) | (simp; omega)) hb8
  repeat (refine Below.alloc ?_ (by first | omega | (simp; done) | (simp; omega)) _)
  refine below_step ?_ (by first | omega | (simp; done) | (simp; omega)) hb7
  repeat (refine Below.alloc ?_ (by first | omega | (simp; done) | (simp; omega)) _)
  refine below_step ?_ (by first | omega | (simp; done) | (simp; omega)) hb6
  repeat (refine Below.alloc ?_ (by first | omega | (simp; done) | (simp; omega)) _)
  refine below_step ?_ (by first | omega | (simp; done) | (simp; omega)) hb5
  repeat (refine Below.alloc ?_ (by first | omega | (simp; done) | (simp; omega)) _)
  refine below_step ?_ (by first | omega | (simp; done) | (simp; omega)) hb4
  repeat (refine Below.alloc ?_ (by first | omega | (simp; done) | (simp; omega)) _)
  refine below_step ?_ (by first | omega | (simp; done) | (simp; omega)) hb3
  repeat (refine Below.alloc ?_ (by first | omega | (simp; done) | (simp; omega)) _)
  refine below_step ?_ (by first | omega | (simp; done) | (simp; omega)) hb2
  repeat (refine Below.alloc ?_ (by first | omega | (simp; done) | (simp; omega)) _)
  refine below_step ?_ (by first | omega | (simp; done) | (simp; omega)) hb1
  repeat (first | exact Below.refl _ _ | refine Below.alloc ?_ (by first | omega | (simp; done) | (simp; omega)) _)
theorem order_walk (words a b more : Int) (h0 : 0 ≤ words) (h0' : words ≤ 4294967295) (ha : 0 ≤ a) (ha' : a ≤ 4294967295) (hb : 0 ≤ b) (hb' : b ≤ 4294967295) (hm : 0 ≤ more) (hm' : more ≤ 65535) (w : World) :
    Calls Try.prog 5 #[.int .u32 words, .int .u32 a, .int .u32 b, .int .u16 more] w fun e w' => e = .returned (.bool true) ∧ Below w.heap.size w w' := by
  by_cases h1 : words < a
  · exact order_a words a b more h0 h0' ha ha' hb hb' hm hm' h1 w
  · by_cases h2 : words - a < b
    · exact order_b words a b more h0 h0' ha ha' hb hb' hm hm' h1 h2 w
    · exact order_c words a b more h0 h0' ha ha' hb hb' hm hm' h1 h2 w
end Go.Proofs.Ytmbecfiajkalcaa
