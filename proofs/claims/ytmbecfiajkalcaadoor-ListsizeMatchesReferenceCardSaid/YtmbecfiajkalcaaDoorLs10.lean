/- ListsizeIsExact's and ListsizeGrows' walks. Conditions: each number is of its kind; the table lies as the program's text lays it. -/
import Derived.Test.YtmbecfiajkalcaaDoorLs9
set_option linter.unusedVariables false
set_option linter.unusedSimpArgs false
namespace Go.Proofs.YtmbecfiajkalcaaDoor
open Go.RowKit

theorem exact_walk (e c : Int) (w : World) (ht : Tab w) :
    Calls Tryd.prog 4 #[.int .i64 e, .int .i64 c] w fun e' w' => e' = .returned (.bool true) ∧ Below w.heap.size w w' := by
  by_cases h : 0 ≤ e ∧ e ≤ 7 ∧ 0 ≤ c ∧ c ≤ 536870911
  · obtain ⟨h0, h7, hc0, hc1⟩ := h
    by_cases hc : c = 0
    · subst hc
      rcases cases8 h0 h7 with rfl | rfl | rfl | rfl | rfl | rfl | rfl | rfl
      · exact exact_zero 0 0 0 (by decide) (by decide) hc0 hc1 (by show _ = _; decide) (by decide) (by show _ = _; decide) (by show _ = _; decide) w ht
      · exact exact_zero 1 0 1 (by decide) (by decide) hc0 hc1 (by show _ = _; decide) (by decide) (by show _ = _; decide) (by show _ = _; decide) w ht
      · exact exact_zero 2 0 8 (by decide) (by decide) hc0 hc1 (by show _ = _; decide) (by decide) (by show _ = _; decide) (by show _ = _; decide) w ht
      · exact exact_zero 3 0 16 (by decide) (by decide) hc0 hc1 (by show _ = _; decide) (by decide) (by show _ = _; decide) (by show _ = _; decide) w ht
      · exact exact_zero 4 0 32 (by decide) (by decide) hc0 hc1 (by show _ = _; decide) (by decide) (by show _ = _; decide) (by show _ = _; decide) w ht
      · exact exact_zero 5 0 64 (by decide) (by decide) hc0 hc1 (by show _ = _; decide) (by decide) (by show _ = _; decide) (by show _ = _; decide) w ht
      · exact exact_six 0 hc0 hc1 w ht
      · exact exact_seven 0 hc0 hc1 w ht
    · rcases cases8 h0 h7 with rfl | rfl | rfl | rfl | rfl | rfl | rfl | rfl
      · exact exact_zero 0 c 0 (by decide) (by decide) hc0 hc1 (by show _ = _; decide) (by rw [Int.zero_mul]; decide) (by show _ = _; simp [wordsOf, bitsOf]) (by show _ = _; simp [bytesOf, bitsOf]) w ht
      · exact exact_pos 1 c 1 (1 * c) ((1 * c + 63) / 64) ((1 * c + 7) / 8) (by decide) (by decide) hc0 hc1 (by show _ = _; decide) (IntWalk.i64_in _ (by omega)) (by show _ = _; simp [wordsOf, bitsOf]) (by show _ = _; simp [bytesOf, bitsOf]) (by omega) (by omega) (by omega) (by omega) (by omega) (by omega) (by omega) (by omega) (by omega) (by omega) (by show _ = _; omega) w ht
      · exact exact_pos 2 c 8 (8 * c) ((8 * c + 63) / 64) ((8 * c + 7) / 8) (by decide) (by decide) hc0 hc1 (by show _ = _; decide) (IntWalk.i64_in _ (by omega)) (by show _ = _; simp [wordsOf, bitsOf]) (by show _ = _; simp [bytesOf, bitsOf]) (by omega) (by omega) (by omega) (by omega) (by omega) (by omega) (by omega) (by omega) (by omega) (by omega) (by show _ = _; omega) w ht
      · exact exact_pos 3 c 16 (16 * c) ((16 * c + 63) / 64) ((16 * c + 7) / 8) (by decide) (by decide) hc0 hc1 (by show _ = _; decide) (IntWalk.i64_in _ (by omega)) (by show _ = _; simp [wordsOf, bitsOf]) (by show _ = _; simp [bytesOf, bitsOf]) (by omega) (by omega) (by omega) (by omega) (by omega) (by omega) (by omega) (by omega) (by omega) (by omega) (by show _ = _; omega) w ht
      · exact exact_pos 4 c 32 (32 * c) ((32 * c + 63) / 64) ((32 * c + 7) / 8) (by decide) (by decide) hc0 hc1 (by show _ = _; decide) (IntWalk.i64_in _ (by omega)) (by show _ = _; simp [wordsOf, bitsOf]) (by show _ = _; simp [bytesOf, bitsOf]) (by omega) (by omega) (by omega) (by omega) (by omega) (by omega) (by omega) (by omega) (by omega) (by omega) (by show _ = _; omega) w ht
      · exact exact_pos 5 c 64 (64 * c) ((64 * c + 63) / 64) ((64 * c + 7) / 8) (by decide) (by decide) hc0 hc1 (by show _ = _; decide) (IntWalk.i64_in _ (by omega)) (by show _ = _; simp [wordsOf, bitsOf]) (by show _ = _; simp [bytesOf, bitsOf]) (by omega) (by omega) (by omega) (by omega) (by omega) (by omega) (by omega) (by omega) (by omega) (by omega) (by show _ = _; omega) w ht
      · exact exact_six c hc0 hc1 w ht
      · exact exact_seven c hc0 hc1 w ht
  · exact exact_no e c (right_false h) w ht

theorem grows_one (e c m : Int) (h : Hid (right e c = false)) (w : World) (ht : Tab w) :
    Calls Tryd.prog 5 #[.int .i64 e, .int .i64 c, .int .i64 m] w fun e' w' => e' = .returned (.bool true) ∧ Below w.heap.size w w' := by
  have HT := Lib.hid ht
  clear ht
  go_enter Tryd.func5, Tryd.ntmps5
  go_wp2_with fail
  refine (awake_any _ HT.out).mono ?_
  rintro e' w1 ⟨rfl, hb1⟩
  go_wp2_with fail
  refine (right_is e c false h.out _).mono ?_
  rintro e' w' ⟨rfl, rfl⟩
  go_wp2_with fail
  refine (awake_any _ (HT.out.below hb1)).mono ?_
  rintro e' w2 ⟨rfl, hb2⟩
  go_wp2
  go_ret
  exact ⟨rfl, below_step hb1 hb1.size hb2⟩
theorem grows_two (e c m : Int) (h : Hid (right e c = true)) (hm : m < 0) (w : World) (ht : Tab w) :
    Calls Tryd.prog 5 #[.int .i64 e, .int .i64 c, .int .i64 m] w fun e' w' => e' = .returned (.bool true) ∧ Below w.heap.size w w' := by
  have HT := Lib.hid ht
  clear ht
  have t : decide (m < 0) = true := b2 hm
  go_enter Tryd.func5, Tryd.ntmps5
  go_wp2_with fail
  refine (awake_any _ HT.out).mono ?_
  rintro e' w1 ⟨rfl, hb1⟩
  go_wp2_with fail
  refine (right_is e c true h.out _).mono ?_
  rintro e' w' ⟨rfl, rfl⟩
  go_wp2_with fail
  refine (awake_any _ (HT.out.below hb1)).mono ?_
  rintro e' w2 ⟨rfl, hb2⟩
  go_wp2
  go_ret
  exact ⟨rfl, below_step hb1 hb1.size hb2⟩
theorem grows_three (e c m : Int) (h : Hid (right e c = true)) (hm : 0 ≤ m) (h2 : Hid (right e (wrap64 (c + m)) = false)) (w : World) (ht : Tab w) :
    Calls Tryd.prog 5 #[.int .i64 e, .int .i64 c, .int .i64 m] w fun e' w' => e' = .returned (.bool true) ∧ Below w.heap.size w w' := by
  have HT := Lib.hid ht
  clear ht
  have t : decide (m < 0) = false := b1 (by omega)
  go_enter Tryd.func5, Tryd.ntmps5
  go_wp2_with fail
  refine (awake_any _ HT.out).mono ?_
  rintro e' w1 ⟨rfl, hb1⟩
  go_wp2_with fail
  refine (right_is e c true h.out _).mono ?_
  rintro e' w' ⟨rfl, rfl⟩
  go_wp2_with fail
  refine (right_is e _ false h2.out _).mono ?_
  rintro e' w' ⟨rfl, rfl⟩
  go_wp2_with fail
  refine (awake_any _ (HT.out.below hb1)).mono ?_
  rintro e' w2 ⟨rfl, hb2⟩
  go_wp2
  go_ret
  exact ⟨rfl, below_step hb1 hb1.size hb2⟩
theorem grows_four (e c m : Int) (hc0 : 0 ≤ c) (hm : 0 ≤ m) (hs : c + m ≤ 536870911) (h : Hid (right e c = true)) (h2 : Hid (right e (c + m) = true)) (he : e = 7) (w : World) (ht : Tab w) :
    Calls Tryd.prog 5 #[.int .i64 e, .int .i64 c, .int .i64 m] w fun e' w' => e' = .returned (.bool true) ∧ Below w.heap.size w w' := by
  have HT := Lib.hid ht
  clear ht
  have t : decide (m < 0) = false := b1 (by omega)
  subst he
  go_enter Tryd.func5, Tryd.ntmps5
  go_wp2_with fail
  refine (awake_any _ HT.out).mono ?_
  rintro e' w1 ⟨rfl, hb1⟩
  go_wp2_with fail
  refine (right_is 7 c true h.out _).mono ?_
  rintro e' w' ⟨rfl, rfl⟩
  go_wp2_with fail
  refine (right_is 7 (c + m) true h2.out _).mono ?_
  rintro e' w' ⟨rfl, rfl⟩
  go_wp2_with fail
  refine (awake_any _ (HT.out.below hb1)).mono ?_
  rintro e' w2 ⟨rfl, hb2⟩
  go_wp2
  go_ret
  exact ⟨rfl, below_step hb1 hb1.size hb2⟩
set_option maxHeartbeats 1000000 in
theorem grows_five (e c m b n A B C : Int) (h0 : 0 ≤ e) (h6 : e ≤ 6) (hc0 : 0 ≤ c) (hm : 0 ≤ m) (hs : c + m ≤ 536870911) (hb : Hid (bitsOf e = b)) (hn : IntKind.i64.wrap (b * c) = n) (n0 : 0 ≤ n) (n1 : n ≤ 68719476736)
    (hA : Hid (wordsOf e c = A)) (hB : Hid (wordsOf e (c + m) = B)) (hC : Hid (wordsOf e m = C)) (A0 : 0 ≤ A) (A1 : A ≤ 1073741824) (C0 : 0 ≤ C) (C1 : C ≤ 1073741824) (k1 : A ≤ B) (k2 : B ≤ A + C) (k3 : n % 64 = 0 → Hid (B = A + C)) (w : World) (ht : Tab w) :
    Calls Tryd.prog 5 #[.int .i64 e, .int .i64 c, .int .i64 m] w fun e' w' => e' = .returned (.bool true) ∧ Below w.heap.size w w' := by
  have HT := Lib.hid ht
  clear ht
  have t : decide (m < 0) = false := b1 (by omega)
  have t1 : (e == 7) = false := by simp; omega
  by_cases h : n % 64 = 0
  · have t2 : (n % 64 == 0) = true := by simp [h]
    have k4 := (k3 h).out
    have t3 : (B == A + C) = true := by simp [k4]
    clear k3 h k4
    go_enter Tryd.func5, Tryd.ntmps5
    go_wp2_with fail
    refine (awake_any _ HT.out).mono ?_
    rintro e' w1 ⟨rfl, hb1⟩
    have HT1 := Lib.hid (HT.out.below hb1)
    go_wp2_with fail
    refine (right_is e c true (right_true h0 (by omega) hc0 (by omega)) _).mono ?_
    rintro e' w' ⟨rfl, rfl⟩
    go_wp2_with fail
    refine (right_is e (c + m) true (right_true h0 (by omega) (by omega) (by omega)) _).mono ?_
    rintro e' w' ⟨rfl, rfl⟩
    go_wp2_with fail
    refine (words_is e c A h0 (by omega) hc0 (by omega) hA.out _ HT1.out).mono ?_
    rintro e' w' ⟨rfl, rfl⟩
    go_wp2_with fail
    refine (words_is e (c + m) B h0 (by omega) (by omega) (by omega) hB.out _ HT1.out).mono ?_
    rintro e' w' ⟨rfl, rfl⟩
    go_wp2_with fail
    refine (words_is e m C h0 (by omega) hm (by omega) hC.out _ HT1.out).mono ?_
    rintro e' w' ⟨rfl, rfl⟩
    go_wp2_with fail
    refine (bits_is e b h0 (by omega) hb.out _ HT1.out).mono ?_
    rintro e' w' ⟨rfl, rfl⟩
    go_wp2
    go_ret
    exact ⟨rfl, hb1⟩
  · have t2 : (n % 64 == 0) = false := by simp [h]
    clear k3
    go_enter Tryd.func5, Tryd.ntmps5
    go_wp2_with fail
    refine (awake_any _ HT.out).mono ?_
    rintro e' w1 ⟨rfl, hb1⟩
    have HT1 := Lib.hid (HT.out.below hb1)
    go_wp2_with fail
    refine (right_is e c true (right_true h0 (by omega) hc0 (by omega)) _).mono ?_
    rintro e' w' ⟨rfl, rfl⟩
    go_wp2_with fail
    refine (right_is e (c + m) true (right_true h0 (by omega) (by omega) (by omega)) _).mono ?_
    rintro e' w' ⟨rfl, rfl⟩
    go_wp2_with fail
    refine (words_is e c A h0 (by omega) hc0 (by omega) hA.out _ HT1.out).mono ?_
    rintro e' w' ⟨rfl, rfl⟩
    go_wp2_with fail
    refine (words_is e (c + m) B h0 (by omega) (by omega) (by omega) hB.out _ HT1.out).mono ?_
    rintro e' w' ⟨rfl, rfl⟩
    go_wp2_with fail
    refine (words_is e m C h0 (by omega) hm (by omega) hC.out _ HT1.out).mono ?_
    rintro e' w' ⟨rfl, rfl⟩
    go_wp2_with fail
    refine (bits_is e b h0 (by omega) hb.out _ HT1.out).mono ?_
    rintro e' w' ⟨rfl, rfl⟩
    go_wp2
    go_ret
    exact ⟨rfl, hb1⟩
theorem grows_walk (e c m : Int) (w : World) (hm1 : m ≤ 9223372036854775807) (ht : Tab w) :
    Calls Tryd.prog 5 #[.int .i64 e, .int .i64 c, .int .i64 m] w fun e' w' => e' = .returned (.bool true) ∧ Below w.heap.size w w' := by
  by_cases h : 0 ≤ e ∧ e ≤ 7 ∧ 0 ≤ c ∧ c ≤ 536870911
  · obtain ⟨h0, h7, hc0, hc1⟩ := h
    have hr := right_true h0 h7 hc0 hc1
    by_cases hm : m < 0
    · exact grows_two e c m hr hm w ht
    by_cases hs : c + m ≤ 536870911
    · have hr2 := right_true h0 h7 (show 0 ≤ c + m by omega) hs
      by_cases he : e = 7
      · exact grows_four e c m hc0 (by omega) hs hr hr2 he w ht
      · rcases cases8 h0 h7 with rfl | rfl | rfl | rfl | rfl | rfl | rfl | rfl
        · exact grows_five 0 c m 0 (0 * c) ((0 * c + 63) / 64) ((0 * (c + m) + 63) / 64) ((0 * m + 63) / 64) (by decide) (by decide) hc0 (by omega) hs (by show _ = _; decide) (IntWalk.i64_in _ (by omega)) (by omega) (by omega) (by show _ = _; simp [wordsOf, bitsOf]) (by show _ = _; simp [wordsOf, bitsOf]) (by show _ = _; simp [wordsOf, bitsOf]) (by omega) (by omega) (by omega) (by omega) (by omega) (by omega) (fun h => by show _ = _; omega) w ht
        · exact grows_five 1 c m 1 (1 * c) ((1 * c + 63) / 64) ((1 * (c + m) + 63) / 64) ((1 * m + 63) / 64) (by decide) (by decide) hc0 (by omega) hs (by show _ = _; decide) (IntWalk.i64_in _ (by omega)) (by omega) (by omega) (by show _ = _; simp [wordsOf, bitsOf]) (by show _ = _; simp [wordsOf, bitsOf]) (by show _ = _; simp [wordsOf, bitsOf]) (by omega) (by omega) (by omega) (by omega) (by omega) (by omega) (fun h => by show _ = _; omega) w ht
        · exact grows_five 2 c m 8 (8 * c) ((8 * c + 63) / 64) ((8 * (c + m) + 63) / 64) ((8 * m + 63) / 64) (by decide) (by decide) hc0 (by omega) hs (by show _ = _; decide) (IntWalk.i64_in _ (by omega)) (by omega) (by omega) (by show _ = _; simp [wordsOf, bitsOf]) (by show _ = _; simp [wordsOf, bitsOf]) (by show _ = _; simp [wordsOf, bitsOf]) (by omega) (by omega) (by omega) (by omega) (by omega) (by omega) (fun h => by show _ = _; omega) w ht
        · exact grows_five 3 c m 16 (16 * c) ((16 * c + 63) / 64) ((16 * (c + m) + 63) / 64) ((16 * m + 63) / 64) (by decide) (by decide) hc0 (by omega) hs (by show _ = _; decide) (IntWalk.i64_in _ (by omega)) (by omega) (by omega) (by show _ = _; simp [wordsOf, bitsOf]) (by show _ = _; simp [wordsOf, bitsOf]) (by show _ = _; simp [wordsOf, bitsOf]) (by omega) (by omega) (by omega) (by omega) (by omega) (by omega) (fun h => by show _ = _; omega) w ht
        · exact grows_five 4 c m 32 (32 * c) ((32 * c + 63) / 64) ((32 * (c + m) + 63) / 64) ((32 * m + 63) / 64) (by decide) (by decide) hc0 (by omega) hs (by show _ = _; decide) (IntWalk.i64_in _ (by omega)) (by omega) (by omega) (by show _ = _; simp [wordsOf, bitsOf]) (by show _ = _; simp [wordsOf, bitsOf]) (by show _ = _; simp [wordsOf, bitsOf]) (by omega) (by omega) (by omega) (by omega) (by omega) (by omega) (fun h => by show _ = _; omega) w ht
        · exact grows_five 5 c m 64 (64 * c) ((64 * c + 63) / 64) ((64 * (c + m) + 63) / 64) ((64 * m + 63) / 64) (by decide) (by decide) hc0 (by omega) hs (by show _ = _; decide) (IntWalk.i64_in _ (by omega)) (by omega) (by omega) (by show _ = _; simp [wordsOf, bitsOf]) (by show _ = _; simp [wordsOf, bitsOf]) (by show _ = _; simp [wordsOf, bitsOf]) (by omega) (by omega) (by omega) (by omega) (by omega) (by omega) (fun h => by show _ = _; omega) w ht
        · exact grows_five 6 c m 64 (64 * c) ((64 * c + 63) / 64) ((64 * (c + m) + 63) / 64) ((64 * m + 63) / 64) (by decide) (by decide) hc0 (by omega) hs (by show _ = _; decide) (IntWalk.i64_in _ (by omega)) (by omega) (by omega) (by show _ = _; simp [wordsOf, bitsOf]) (by show _ = _; simp [wordsOf, bitsOf]) (by show _ = _; simp [wordsOf, bitsOf]) (by omega) (by omega) (by omega) (by omega) (by omega) (by omega) (fun h => by show _ = _; omega) w ht
        · exact absurd rfl he
    · refine grows_three e c m hr (by omega) ?_ w ht
      show right e (wrap64 (c + m)) = false
      refine right_false (fun h => ?_)
      have h1 := h.2.2.1
      have h2 := h.2.2.2
      unfold wrap64 at h1 h2
      omega
  · exact grows_one e c m (right_false h) w ht
end Go.Proofs.YtmbecfiajkalcaaDoor
