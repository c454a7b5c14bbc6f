/- What each function of package budget and of its reference returns. No condition. -/
import Derived.Test.YtmbecfiajkalcaaProg
import Derived.Test.YtmbecfiajkalcaaKeep
import Derived.WalkSpells
import Derived.Laws.Pointers
import Derived.RowKit3
namespace Go.Proofs.Ytmbecfiajkalcaa
open Go.RowKit

theorem take_no (g : Nat) (m c : Int) (w : World) (hc : w.cell? ⟨g, 0, none⟩ = some (.int .i64 m)) (h : m < c) :
    Calls Try.prog 15 #[.pointer (some ⟨g, 0, none⟩), .int .i64 c] w fun e w' => e = .returned (.bool false) ∧ w' = w := by
  go_enter Try.func15, Try.ntmps15
  go_wp2
  go_ret
  exact ⟨rfl, rfl⟩
theorem take_yes (g : Nat) (m c : Int) (w : World) (hc : w.cell? ⟨g, 0, none⟩ = some (.int .i64 m)) (hf : w.frozen? ⟨g, 0, none⟩ = false) (h : ¬ m < c) :
    Calls Try.prog 15 #[.pointer (some ⟨g, 0, none⟩), .int .i64 c] w fun e w' => e = .returned (.bool true) ∧ w' = w.setCell ⟨g, 0, none⟩ (.int .i64 (wrap64 (m - c))) := by
  go_enter Try.func15, Try.ntmps15
  go_wp2
  go_ret
  exact ⟨rfl, rfl⟩

/-- What a charge leaves, and its error. -/
def chM (m c : Int) : Int := if m < c then m else wrap64 (m - c)
def chE (m c : Int) : Int := if m < c then 8 else 0

theorem charge_any (m c : Int) (w : World) :
    Calls Try.prog 8 #[.agg #[.int .i64 m], .int .i64 c] w fun e w' => e = .returned (.tuple #[.agg #[.int .i64 (chM m c)], .int .i64 (chE m c)]) ∧ Below w.heap.size w w' := by
  by_cases h : m < c
  · rw [show chM m c = m from if_pos h, show chE m c = 8 from if_pos h]
    go_enter Try.func8, Try.ntmps8
    go_wp2_with (go_at_call 15; refine (take_no _ m c _ (by simp [go_sem]) h).mono ?_; rintro e w' ⟨rfl, rfl⟩)
    refine bodyPost_ret (v := .tuple #[.agg #[.int .i64 m], .int .i64 8]) (by simp [results, Try.results8, go_sem]) rfl ⟨rfl, ?_⟩
    repeat (first | exact Below.refl _ _ | refine Below.alloc ?_ (by simp <;> omega) _)
  · rw [show chM m c = wrap64 (m - c) from if_neg h, show chE m c = 0 from if_neg h]
    go_enter Try.func8, Try.ntmps8
    go_wp2_with (go_at_call 15; refine (take_yes _ m c _ (by simp [go_sem]) (by simp [go_sem]) h).mono ?_; rintro e w' ⟨rfl, rfl⟩)
    refine bodyPost_ret (v := .tuple #[.agg #[.int .i64 (wrap64 (m - c))], .int .i64 0]) (by simp [results, Try.results8, go_sem]) rfl ⟨rfl, ?_⟩
    repeat (first | exact Below.refl _ _ | refine Below.alloc ?_ (by simp <;> omega) _)
theorem rcharge_any (m c : Int) (w : World) :
    Calls Try.prog 9 #[.agg #[.int .i64 m], .int .i64 c] w fun e w' => e = .returned (.tuple #[.agg #[.int .i64 (chM m c)], .int .i64 (chE m c)]) ∧ Below w.heap.size w w' := by
  by_cases h : m < c
  · rw [show chM m c = m from if_pos h, show chE m c = 8 from if_pos h]
    go_enter Try.func9, Try.ntmps9
    go_wp2
    refine bodyPost_ret (v := .tuple #[.agg #[.int .i64 (m)], .int .i64 (8)]) (by simp [results, Try.results9, go_sem]) rfl ⟨rfl, ?_⟩
    repeat (first | exact Below.refl _ _ | refine Below.alloc ?_ (by simp <;> omega) _)
  · rw [show chM m c = wrap64 (m - c) from if_neg h, show chE m c = 0 from if_neg h]
    go_enter Try.func9, Try.ntmps9
    go_wp2
    refine bodyPost_ret (v := .tuple #[.agg #[.int .i64 (wrap64 (m - c))], .int .i64 (0)]) (by simp [results, Try.results9, go_sem]) rfl ⟨rfl, ?_⟩
    repeat (first | exact Below.refl _ _ | refine Below.alloc ?_ (by simp <;> omega) _)
def mx0 (m : Int) : Int := if m < 0 then 0 else m
theorem start_any (d m o : Int) (w : World) :
    Calls Try.prog 12 #[.agg #[.int .i64 d, .int .i64 m, .int .i64 o]] w fun e w' => e = .returned (.agg #[.int .i64 (mx0 m)]) ∧ Below w.heap.size w w' := by
  by_cases h : m < 0
  · rw [show mx0 m = 0 from if_pos h]
    go_enter Try.func12, Try.ntmps12
    go_wp2
    refine bodyPost_ret (v := .agg #[.int .i64 (0)]) (by simp [results, Try.results12, go_sem]) rfl ⟨rfl, ?_⟩
    repeat (first | exact Below.refl _ _ | refine Below.alloc ?_ (by simp <;> omega) _)
  · rw [show mx0 m = m from if_neg h]
    go_enter Try.func12, Try.ntmps12
    go_wp2
    refine bodyPost_ret (v := .agg #[.int .i64 (m)]) (by simp [results, Try.results12, go_sem]) rfl ⟨rfl, ?_⟩
    repeat (first | exact Below.refl _ _ | refine Below.alloc ?_ (by simp <;> omega) _)
theorem rstart_any (d m o : Int) (w : World) :
    Calls Try.prog 13 #[.agg #[.int .i64 d, .int .i64 m, .int .i64 o]] w fun e w' => e = .returned (.agg #[.int .i64 (mx0 m)]) ∧ Below w.heap.size w w' := by
  by_cases h : m < 0
  · rw [show mx0 m = 0 from if_pos h]
    go_enter Try.func13, Try.ntmps13
    go_wp2
    refine bodyPost_ret (v := .agg #[.int .i64 (0)]) (by simp [results, Try.results13, go_sem]) rfl ⟨rfl, ?_⟩
    repeat (first | exact Below.refl _ _ | refine Below.alloc ?_ (by simp <;> omega) _)
  · rw [show mx0 m = m from if_neg h]
    go_enter Try.func13, Try.ntmps13
    go_wp2
    refine bodyPost_ret (v := .agg #[.int .i64 (m)]) (by simp [results, Try.results13, go_sem]) rfl ⟨rfl, ?_⟩
    repeat (first | exact Below.refl _ _ | refine Below.alloc ?_ (by simp <;> omega) _)
def entE (d depth : Int) : Int := if d < depth then 7 else 0
theorem enter_any (d m o depth : Int) (w : World) :
    Calls Try.prog 10 #[.agg #[.int .i64 d, .int .i64 m, .int .i64 o], .int .i64 depth] w fun e w' => e = .returned (.int .i64 (entE d depth)) ∧ Below w.heap.size w w' := by
  by_cases h : d < depth
  · rw [show entE d depth = 7 from if_pos h]
    go_enter Try.func10, Try.ntmps10
    go_wp2
    refine bodyPost_ret (v := .int .i64 (7)) (by simp [results, Try.results10, go_sem]) rfl ⟨rfl, ?_⟩
    repeat (first | exact Below.refl _ _ | refine Below.alloc ?_ (by simp <;> omega) _)
  · rw [show entE d depth = 0 from if_neg h]
    go_enter Try.func10, Try.ntmps10
    go_wp2
    refine bodyPost_ret (v := .int .i64 (0)) (by simp [results, Try.results10, go_sem]) rfl ⟨rfl, ?_⟩
    repeat (first | exact Below.refl _ _ | refine Below.alloc ?_ (by simp <;> omega) _)
theorem renter_any (d m o depth : Int) (w : World) :
    Calls Try.prog 11 #[.agg #[.int .i64 d, .int .i64 m, .int .i64 o], .int .i64 depth] w fun e w' => e = .returned (.int .i64 (entE d depth)) ∧ Below w.heap.size w w' := by
  by_cases h : d < depth
  · rw [show entE d depth = 7 from if_pos h]
    go_enter Try.func11, Try.ntmps11
    go_wp2
    refine bodyPost_ret (v := .int .i64 (7)) (by simp [results, Try.results11, go_sem]) rfl ⟨rfl, ?_⟩
    repeat (first | exact Below.refl _ _ | refine Below.alloc ?_ (by simp <;> omega) _)
  · rw [show entE d depth = 0 from if_neg h]
    go_enter Try.func11, Try.ntmps11
    go_wp2
    refine bodyPost_ret (v := .int .i64 (0)) (by simp [results, Try.results11, go_sem]) rfl ⟨rfl, ?_⟩
    repeat (first | exact Below.refl _ _ | refine Below.alloc ?_ (by simp <;> omega) _)
theorem charge_is (m c m' e' : Int) (w : World) (h1 : chM m c = m') (h2 : chE m c = e') :
    Calls Try.prog 8 #[.agg #[.int .i64 m], .int .i64 c] w fun e w' => e = .returned (.tuple #[.agg #[.int .i64 m'], .int .i64 e']) ∧ Below w.heap.size w w' := by
  subst h1 h2
  exact charge_any m c w
theorem start_is (d m o m' : Int) (w : World) (h : mx0 m = m') :
    Calls Try.prog 12 #[.agg #[.int .i64 d, .int .i64 m, .int .i64 o]] w fun e w' => e = .returned (.agg #[.int .i64 m']) ∧ Below w.heap.size w w' := by
  subst h
  exact start_any d m o w
end Go.Proofs.Ytmbecfiajkalcaa
