/- BudgetNeverGoesNegative's walk, put together: for all limits and lists of costs the law returns true. Conditions: each number is of its kind; the list lies in memory as the form reads it. -/
import Derived.Test.YtmbecfiajkalcaaBud6
set_option linter.unusedVariables false
set_option linter.unusedSimpArgs false
namespace Go.Proofs.Ytmbecfiajkalcaa
open Go.RowKit

set_option maxHeartbeats 4000000 in
theorem never_none (d m o : Int) (hm : -1125899906842624 ≤ m) (hm' : m ≤ 1125899906842624) (A : Option Addr) (cap : Nat) (w : World) (s : Int) (hs : 0 ≤ s) (hs' : s ≤ 1125899906842624) (HS : Hid (mx0 m = s)) :
    Calls Try.prog 4 #[.agg #[.int .i64 d, .int .i64 m, .int .i64 o], .slice A 0 cap] w fun e w' => e = .returned (.bool true) ∧ Below w.heap.size w w' := by
  have g1 : decide (1125899906842624 < m) = false := by simp; omega
  have g2 : decide (m < -1125899906842624) = false := by simp; omega
  go_enter Try.func4, Try.ntmps4
  go_wp2_with fail
  refine (awake_any _).mono ?_
  rintro e w1 ⟨rfl, hb1⟩
  obtain ⟨hc1, hf1⟩ := bcell hb1
  have z1 := hb1.size
  try simp at z1
  have za0_1 : w.heap.size < w1.heap.size := by omega
  have ya0_1 : w.heap.size ≤ w1.heap.size := by omega
  go_wp2_with fail
  refine (start_is d m o s _ HS.out).mono ?_
  rintro e w2 ⟨rfl, hb2⟩
  obtain ⟨hc2, hf2⟩ := bcell hb2
  have z2 := hb2.size
  try simp at z2
  have za0_2 : w.heap.size < w2.heap.size := by omega
  have ya0_2 : w.heap.size ≤ w2.heap.size := by omega
  have ya1_2 : w1.heap.size ≤ w2.heap.size := by omega
  go_wp2_with fail
  have HR := Lib.hid (show wrap64 (mx0 m - s) = 0 by rw [HS.out, IntWalk.wrap64_in _ (by omega)]; omega)
  go_loop [6, 7] (fun sm i => sm = .int .i64 0 ∧ i = .int .i64 0) (fun _ _ => 0)
  case atStart => exact ⟨rfl, rfl⟩
  case round =>
    obtain ⟨rfl, rfl⟩ := hrel
    by_cases hm0 : m < 0
    · go_wp2_with (go_at_call 14; refine (used_is d m o s 0 _ HR.out).mono ?_; rintro e w5 ⟨rfl, hb5⟩)
      go_ret
      refine ⟨rfl, ?_⟩
      repeat (refine Below.alloc ?_ (by first | omega | (simp; done) | (simp; omega)) _)
      refine below_step ?_ (by first | omega | (simp; done) | (simp; omega)) hb5
      repeat (refine Below.alloc ?_ (by first | omega | (simp; done) | (simp; omega)) _)
      refine below_step ?_ (by first | omega | (simp; done) | (simp; omega)) hb2
      repeat (refine Below.alloc ?_ (by first | omega | (simp; done) | (simp; omega)) _)
      refine below_step ?_ (by first | omega | (simp; done) | (simp; omega)) hb1
      repeat (first | exact Below.refl _ _ | refine Below.alloc ?_ (by first | omega | (simp; done) | (simp; omega)) _)
    · go_wp2_with (go_at_call 14; refine (used_is d m o s 0 _ HR.out).mono ?_; rintro e w5 ⟨rfl, hb5⟩)
      go_ret
      refine ⟨rfl, ?_⟩
      repeat (refine Below.alloc ?_ (by first | omega | (simp; done) | (simp; omega)) _)
      refine below_step ?_ (by first | omega | (simp; done) | (simp; omega)) hb5
      repeat (refine Below.alloc ?_ (by first | omega | (simp; done) | (simp; omega)) _)
      refine below_step ?_ (by first | omega | (simp; done) | (simp; omega)) hb2
      repeat (refine Below.alloc ?_ (by first | omega | (simp; done) | (simp; omega)) _)
      refine below_step ?_ (by first | omega | (simp; done) | (simp; omega)) hb1
      repeat (first | exact Below.refl _ _ | refine Below.alloc ?_ (by first | omega | (simp; done) | (simp; omega)) _)
theorem never_long (d m o : Int) (A : Option Addr) (len cap : Nat) (h : 100 < len) (w : World) :
    Calls Try.prog 4 #[.agg #[.int .i64 d, .int .i64 m, .int .i64 o], .slice A len cap] w fun e w' => e = .returned (.bool true) ∧ Below w.heap.size w w' := by
  have g3 : decide (100 < (len : Int)) = true := by simp; omega
  go_enter Try.func4, Try.ntmps4
  go_wp2_with fail
  refine (awake_any _).mono ?_
  rintro e w1 ⟨rfl, hb1⟩
  obtain ⟨hc1, hf1⟩ := bcell hb1
  have z1 := hb1.size
  try simp at z1
  have za0_1 : w.heap.size < w1.heap.size := by omega
  have ya0_1 : w.heap.size ≤ w1.heap.size := by omega
  go_wp2_with fail
  refine (awake_any _).mono ?_
  rintro e w2 ⟨rfl, hb2⟩
  obtain ⟨hc2, hf2⟩ := bcell hb2
  have z2 := hb2.size
  try simp at z2
  go_wp2
  go_ret
  refine ⟨rfl, ?_⟩
  repeat (refine Below.alloc ?_ (by first | omega | (simp; done) | (simp; omega)) _)
  refine below_step ?_ (by first | omega | (simp; done) | (simp; omega)) hb2
  repeat (refine Below.alloc ?_ (by first | omega | (simp; done) | (simp; omega)) _)
  refine below_step ?_ (by first | omega | (simp; done) | (simp; omega)) hb1
  repeat (first | exact Below.refl _ _ | refine Below.alloc ?_ (by first | omega | (simp; done) | (simp; omega)) _)
theorem never_big (d m o : Int) (A : Option Addr) (len cap : Nat) (hl : len ≤ 100) (h : 1125899906842624 < m) (w : World) :
    Calls Try.prog 4 #[.agg #[.int .i64 d, .int .i64 m, .int .i64 o], .slice A len cap] w fun e w' => e = .returned (.bool true) ∧ Below w.heap.size w w' := by
  have g3 : decide (100 < (len : Int)) = false := by simp; omega
  have g1 : decide (1125899906842624 < m) = true := by simp; omega
  go_enter Try.func4, Try.ntmps4
  go_wp2_with fail
  refine (awake_any _).mono ?_
  rintro e w1 ⟨rfl, hb1⟩
  obtain ⟨hc1, hf1⟩ := bcell hb1
  have z1 := hb1.size
  try simp at z1
  have za0_1 : w.heap.size < w1.heap.size := by omega
  have ya0_1 : w.heap.size ≤ w1.heap.size := by omega
  go_wp2_with fail
  refine (awake_any _).mono ?_
  rintro e w2 ⟨rfl, hb2⟩
  obtain ⟨hc2, hf2⟩ := bcell hb2
  have z2 := hb2.size
  try simp at z2
  go_wp2
  go_ret
  refine ⟨rfl, ?_⟩
  repeat (refine Below.alloc ?_ (by first | omega | (simp; done) | (simp; omega)) _)
  refine below_step ?_ (by first | omega | (simp; done) | (simp; omega)) hb2
  repeat (refine Below.alloc ?_ (by first | omega | (simp; done) | (simp; omega)) _)
  refine below_step ?_ (by first | omega | (simp; done) | (simp; omega)) hb1
  repeat (first | exact Below.refl _ _ | refine Below.alloc ?_ (by first | omega | (simp; done) | (simp; omega)) _)
theorem never_low (d m o : Int) (A : Option Addr) (len cap : Nat) (hl : len ≤ 100) (h : m < -1125899906842624) (w : World) :
    Calls Try.prog 4 #[.agg #[.int .i64 d, .int .i64 m, .int .i64 o], .slice A len cap] w fun e w' => e = .returned (.bool true) ∧ Below w.heap.size w w' := by
  have g3 : decide (100 < (len : Int)) = false := by simp; omega
  have g1 : decide (1125899906842624 < m) = false := by simp; omega
  have g2 : decide (m < -1125899906842624) = true := by simp; omega
  go_enter Try.func4, Try.ntmps4
  go_wp2_with fail
  refine (awake_any _).mono ?_
  rintro e w1 ⟨rfl, hb1⟩
  obtain ⟨hc1, hf1⟩ := bcell hb1
  have z1 := hb1.size
  try simp at z1
  have za0_1 : w.heap.size < w1.heap.size := by omega
  have ya0_1 : w.heap.size ≤ w1.heap.size := by omega
  go_wp2_with fail
  refine (awake_any _).mono ?_
  rintro e w2 ⟨rfl, hb2⟩
  obtain ⟨hc2, hf2⟩ := bcell hb2
  have z2 := hb2.size
  try simp at z2
  go_wp2
  go_ret
  refine ⟨rfl, ?_⟩
  repeat (refine Below.alloc ?_ (by first | omega | (simp; done) | (simp; omega)) _)
  refine below_step ?_ (by first | omega | (simp; done) | (simp; omega)) hb2
  repeat (refine Below.alloc ?_ (by first | omega | (simp; done) | (simp; omega)) _)
  refine below_step ?_ (by first | omega | (simp; done) | (simp; omega)) hb1
  repeat (first | exact Below.refl _ _ | refine Below.alloc ?_ (by first | omega | (simp; done) | (simp; omega)) _)
theorem never_walk (d m o : Int) (A : Option Addr) (len cap : Nat) (zs : List Int) (w : World)
    (hc : len = 0 ∨ ∃ b off, A = some ⟨b, off, none⟩ ∧ b < w.heap.size ∧ ∀ j, j < len → w.cell? ⟨b, off + j, none⟩ = some (.int .u16 (zs.getD j 0))) (hz : ∀ j, 0 ≤ zs.getD j 0 ∧ zs.getD j 0 ≤ 65535) :
    Calls Try.prog 4 #[.agg #[.int .i64 d, .int .i64 m, .int .i64 o], .slice A len cap] w fun e w' => e = .returned (.bool true) ∧ Below w.heap.size w w' := by
  by_cases h1 : 100 < len
  · exact never_long d m o A len cap h1 w
  by_cases h2 : 1125899906842624 < m
  · exact never_big d m o A len cap (by omega) h2 w
  by_cases h3 : m < -1125899906842624
  · exact never_low d m o A len cap (by omega) h3 w
  have hs := mx0_nonneg m
  have hs' : mx0 m ≤ 1125899906842624 := by unfold mx0; split <;> omega
  by_cases h0 : len = 0
  · subst h0
    exact never_none d m o (by omega) (by omega) A cap w _ hs hs' rfl
  · rcases hc with hc | ⟨b, off, rfl, hb, hc⟩
    · exact absurd hc h0
    · exact never_some d m o (by omega) (by omega) b off len cap (by omega) (by omega) zs w hb hc hz _ hs hs' rfl
end Go.Proofs.Ytmbecfiajkalcaa
