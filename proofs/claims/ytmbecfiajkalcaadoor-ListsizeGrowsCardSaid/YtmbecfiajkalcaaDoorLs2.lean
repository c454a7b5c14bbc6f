/- What listsize.Words, listsize.Bytes and their references return. Conditions: the element size code is 0 to 7, the count 0 to 2^32; the table lies as the program's text lays it. -/
import Derived.Test.YtmbecfiajkalcaaDoorLs1
set_option linter.unusedVariables false
set_option linter.unusedSimpArgs false
namespace Go.Proofs.YtmbecfiajkalcaaDoor
open Go.RowKit

theorem up8 (n : Int) (h0 : 0 ≤ n) (h1 : n ≤ 1152921504606846976) (w : World) : Calls Tryd.prog 18 #[.int .i64 n, .int .i64 8] w fun e' w' => e' = .returned (.int .i64 ((n + 7) / 8)) ∧ w = w' := by
  have e1 : n + 8 - 1 = n + 7 := by omega
  go_enter Tryd.func18, Tryd.ntmps18
  go_wp2
  go_ret
  exact ⟨by simp [e1], rfl⟩
theorem up64 (n : Int) (h0 : 0 ≤ n) (h1 : n ≤ 1152921504606846976) (w : World) : Calls Tryd.prog 18 #[.int .i64 n, .int .i64 64] w fun e' w' => e' = .returned (.int .i64 ((n + 63) / 64)) ∧ w = w' := by
  have e1 : n + 64 - 1 = n + 63 := by omega
  go_enter Tryd.func18, Tryd.ntmps18
  go_wp2
  go_ret
  exact ⟨by simp [e1], rfl⟩
/-- The words, and the bytes, of a list. -/
def wordsOf (e c : Int) : Int := if e = 7 then c + 1 else (bitsOf e * c + 63) / 64
def bytesOf (e c : Int) : Int := (bitsOf e * c + 7) / 8

theorem words_any (e c : Int) (h0 : 0 ≤ e) (h7 : e ≤ 7) (hc0 : 0 ≤ c) (hc1 : c ≤ 4294967296) (w : World) (ht : Tab w) : Calls Tryd.prog 11 #[.int .i64 e, .int .i64 c] w fun e' w' => e' = .returned (.int .i64 (wordsOf e c)) ∧ w = w' := by
  obtain ⟨c0, c1, c2, c3, c4, c5, c6, c7⟩ := ht
  rcases cases8 h0 h7 with rfl | rfl | rfl | rfl | rfl | rfl | rfl | rfl
  all_goals
    go_enter Tryd.func11, Tryd.ntmps11
    go_wp2_with (go_at_call 18; refine (up64 _ (by omega) (by omega) _).mono ?_; rintro e w' ⟨rfl, rfl⟩)
    go_ret
    exact ⟨by simp [wordsOf, bitsOf], rfl⟩
theorem bytes_any (e c : Int) (h0 : 0 ≤ e) (h7 : e ≤ 7) (hc0 : 0 ≤ c) (hc1 : c ≤ 4294967296) (w : World) (ht : Tab w) : Calls Tryd.prog 13 #[.int .i64 e, .int .i64 c] w fun e' w' => e' = .returned (.int .i64 (bytesOf e c)) ∧ w = w' := by
  obtain ⟨c0, c1, c2, c3, c4, c5, c6, c7⟩ := ht
  rcases cases8 h0 h7 with rfl | rfl | rfl | rfl | rfl | rfl | rfl | rfl
  all_goals
    go_enter Tryd.func13, Tryd.ntmps13
    go_wp2_with (go_at_call 18; refine (up8 _ (by omega) (by omega) _).mono ?_; rintro e w' ⟨rfl, rfl⟩)
    go_ret
    exact ⟨by simp [bytesOf, bitsOf], rfl⟩
theorem rwords_any (e c : Int) (h0 : 0 ≤ e) (h7 : e ≤ 7) (hc0 : 0 ≤ c) (hc1 : c ≤ 4294967296) (w : World) : Calls Tryd.prog 12 #[.int .i64 e, .int .i64 c] w fun e' w' => e' = .returned (.int .i64 (wordsOf e c)) ∧ w = w' := by
  rcases cases8 h0 h7 with rfl | rfl | rfl | rfl | rfl | rfl | rfl | rfl
  all_goals
    go_enter Tryd.func12, Tryd.ntmps12
    go_wp2
    all_goals
      go_ret
      exact ⟨by simp [wordsOf, bitsOf] <;> omega, rfl⟩
theorem rbytes_any (e c : Int) (h0 : 0 ≤ e) (h7 : e ≤ 7) (hc0 : 0 ≤ c) (hc1 : c ≤ 4294967296) (w : World) : Calls Tryd.prog 14 #[.int .i64 e, .int .i64 c] w fun e' w' => e' = .returned (.int .i64 (bytesOf e c)) ∧ w = w' := by
  rcases cases8 h0 h7 with rfl | rfl | rfl | rfl | rfl | rfl | rfl | rfl
  all_goals
    go_enter Tryd.func14, Tryd.ntmps14
    go_wp2
    all_goals
      go_ret
      exact ⟨by simp [bytesOf, bitsOf] <;> omega, rfl⟩
/-- Is an element size code and a count in the domain? -/
def right (e c : Int) : Bool := decide (0 ≤ e) && (decide (e ≤ 7) && (decide (0 ≤ c) && decide (c ≤ 536870911)))
theorem right_any (e c : Int) (w : World) : Calls Tryd.prog 8 #[.int .i64 e, .int .i64 c] w fun e' w' => e' = .returned (.bool (right e c)) ∧ w = w' := by
  by_cases h0 : 0 ≤ e
  · by_cases h1 : e ≤ 7
    · by_cases h2 : 0 ≤ c
      · by_cases h3 : c ≤ 536870911
        all_goals
          go_enter Tryd.func8, Tryd.ntmps8
          go_wp2
          go_ret
          exact ⟨by simp [right] <;> omega, rfl⟩
      · go_enter Tryd.func8, Tryd.ntmps8
        go_wp2
        go_ret
        exact ⟨by simp [right] <;> omega, rfl⟩
    · go_enter Tryd.func8, Tryd.ntmps8
      go_wp2
      go_ret
      exact ⟨by simp [right] <;> omega, rfl⟩
  · go_enter Tryd.func8, Tryd.ntmps8
    go_wp2
    go_ret
    exact ⟨by simp [right] <;> omega, rfl⟩
end Go.Proofs.YtmbecfiajkalcaaDoor
