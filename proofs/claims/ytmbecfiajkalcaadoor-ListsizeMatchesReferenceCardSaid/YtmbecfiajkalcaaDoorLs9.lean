/- ListsizeIsExact's walk. Conditions: each number is of its kind; the table lies as the program's text lays it. -/
import Derived.Test.YtmbecfiajkalcaaDoorLs8
import Derived.Outline
set_option linter.unusedVariables false
set_option linter.unusedSimpArgs false
namespace Go.Proofs.YtmbecfiajkalcaaDoor
open Go.RowKit

theorem right_is (e c : Int) (b : Bool) (h : right e c = b) (w : World) : Calls Tryd.prog 8 #[.int .i64 e, .int .i64 c] w fun e' w' => e' = .returned (.bool b) ∧ w = w' := by
  subst h; exact right_any e c w
theorem right_true {e c : Int} (h0 : 0 ≤ e) (h7 : e ≤ 7) (hc0 : 0 ≤ c) (hc1 : c ≤ 536870911) : right e c = true := by simp [right]; omega
theorem right_false {e c : Int} (h : ¬ (0 ≤ e ∧ e ≤ 7 ∧ 0 ≤ c ∧ c ≤ 536870911)) : right e c = false := by
  cases h' : right e c with
  | false => rfl
  | true => simp [right] at h'; omega

theorem exact_no (e c : Int) (h : right e c = false) (w : World) (ht : Tab w) :
    Calls Tryd.prog 4 #[.int .i64 e, .int .i64 c] w fun e' w' => e' = .returned (.bool true) ∧ Below w.heap.size w w' := by
  have HT := Lib.hid ht
  have H := Lib.hid h
  clear ht h
  go_enter Tryd.func4, Tryd.ntmps4
  go_wp2_with fail
  refine (awake_any _ HT.out).mono ?_
  rintro e' w1 ⟨rfl, hb1⟩
  go_wp2_with fail
  refine (right_is e c false H.out _).mono ?_
  rintro e' w' ⟨rfl, rfl⟩
  go_wp2_with fail
  refine (awake_any _ (HT.out.below hb1)).mono ?_
  rintro e' w2 ⟨rfl, hb2⟩
  go_wp2
  go_ret
  exact ⟨rfl, below_step hb1 hb1.size hb2⟩

set_option maxHeartbeats 4000000 in
theorem exact_seven (c : Int) (hc0 : 0 ≤ c) (hc1 : c ≤ 536870911) (w : World) (ht : Tab w) :
    Calls Tryd.prog 4 #[.int .i64 7, .int .i64 c] w fun e' w' => e' = .returned (.bool true) ∧ Below w.heap.size w w' := by
  have HT := Lib.hid ht
  clear ht
  go_enter Tryd.func4, Tryd.ntmps4
  go_wp2_with fail
  refine (awake_any _ HT.out).mono ?_
  rintro e' w1 ⟨rfl, hb1⟩
  have HT1 := Lib.hid (HT.out.below hb1)
  go_wp2_with fail
  refine (right_is _ c true (right_true (by decide) (by decide) hc0 hc1) _).mono ?_
  rintro e' w' ⟨rfl, rfl⟩
  go_wp2_with fail
  refine (words_is 7 c (c + 1) (by decide) (by decide) hc0 (by omega) (by simp [wordsOf]) _ HT1.out).mono ?_
  rintro e' w' ⟨rfl, rfl⟩
  go_wp2
  go_ret
  exact ⟨rfl, hb1⟩
set_option maxHeartbeats 1000000 in
theorem exact_six (c : Int) (hc0 : 0 ≤ c) (hc1 : c ≤ 536870911) (w : World) (ht : Tab w) :
    Calls Tryd.prog 4 #[.int .i64 6, .int .i64 c] w fun e' w' => e' = .returned (.bool true) ∧ Below w.heap.size w w' := by
  have HT := Lib.hid ht
  clear ht
  by_cases h : 0 < c
  · have t5 : decide (64 * c ≤ 64 * (c - 1)) = false := by simp; omega
    go_enter Tryd.func4, Tryd.ntmps4
    go_wp2_with fail
    refine (awake_any _ HT.out).mono ?_
    rintro e' w1 ⟨rfl, hb1⟩
    have HT1 := Lib.hid (HT.out.below hb1)
    go_wp2_with fail
    refine (right_is _ c true (right_true (by omega) (by omega) hc0 hc1) _).mono ?_
    rintro e' w' ⟨rfl, rfl⟩
    go_wp2_with fail
    refine (words_is 6 c c (by decide) (by decide) hc0 (by omega) (by simp [wordsOf, bitsOf]; omega) _ HT1.out).mono ?_
    rintro e' w' ⟨rfl, rfl⟩
    go_wp2_with fail
    refine (bits_is 6 64 (by omega) (by omega) (by decide) _ HT1.out).mono ?_
    rintro e' w' ⟨rfl, rfl⟩
    go_wp2
    go_ret
    exact ⟨rfl, hb1⟩
  · obtain rfl : c = 0 := by omega
    go_enter Tryd.func4, Tryd.ntmps4
    go_wp2_with fail
    refine (awake_any _ HT.out).mono ?_
    rintro e' w1 ⟨rfl, hb1⟩
    have HT1 := Lib.hid (HT.out.below hb1)
    go_wp2_with fail
    refine (right_is _ 0 true (right_true (by omega) (by omega) hc0 hc1) _).mono ?_
    rintro e' w' ⟨rfl, rfl⟩
    go_wp2_with fail
    refine (words_is 6 0 0 (by decide) (by decide) (by decide) (by decide) (by decide) _ HT1.out).mono ?_
    rintro e' w' ⟨rfl, rfl⟩
    go_wp2_with fail
    refine (bits_is 6 64 (by omega) (by omega) (by decide) _ HT1.out).mono ?_
    rintro e' w' ⟨rfl, rfl⟩
    go_wp2
    go_ret
    exact ⟨rfl, hb1⟩
theorem b2 {p : Prop} [Decidable p] (h : p) : decide p = true := by simp [h]
theorem b1 {p : Prop} [Decidable p] (h : ¬ p) : decide p = false := by simp [h]
set_option maxHeartbeats 1000000 in
theorem exact_pos (e c b n W B : Int) (h0 : 0 ≤ e) (h5 : e ≤ 5) (hc0 : 0 ≤ c) (hc1 : c ≤ 536870911) (hb : Hid (bitsOf e = b)) (hn : IntKind.i64.wrap (b * c) = n) (hw : Hid (wordsOf e c = W)) (hB : Hid (bytesOf e c = B))
    (n0 : 0 ≤ n) (n1 : n ≤ 68719476736) (W0 : 0 < W) (W1 : W ≤ c + 1) (W2 : n ≤ 64 * W) (W3 : 64 * (W - 1) < n) (B1 : n ≤ 8 * B) (B3 : B ≤ 8589934592) (B0 : 0 < B) (B2 : 8 * (B - 1) < n) (BW : Hid ((B + 7) / 8 = W)) (w : World) (ht : Tab w) :
    Calls Tryd.prog 4 #[.int .i64 e, .int .i64 c] w fun e' w' => e' = .returned (.bool true) ∧ Below w.heap.size w w' := by
  have HT := Lib.hid ht
  have t1 : decide (W < 0) = false := b1 (by omega)
  have t2 : decide (c + 1 < W) = false := b1 (by omega)
  have t3 : decide (64 * W < n) = false := b1 (by omega)
  have t6 : decide (n ≤ 8 * B) = true := b2 (by omega)
  have t9 : ((B + 7) / 8 == W) = true := by rw [BW.out]; simp
  have t10 : (e == 7) = false := by simp; omega
  have t11 : (e == 6) = false := by simp; omega
  have t4 : decide (0 < W) = true := b2 W0
  have t5 : decide (n ≤ 64 * (W - 1)) = false := b1 (by omega)
  have t7 : (B == 0) = false := by simp; omega
  have t8 : decide (8 * (B - 1) < n) = true := b2 B2
  clear ht
  go_enter Tryd.func4, Tryd.ntmps4
  go_wp2_with fail
  refine (awake_any _ HT.out).mono ?_
  rintro e' w1 ⟨rfl, hb1⟩
  have HT1 := Lib.hid (HT.out.below hb1)
  go_wp2_with fail
  refine (right_is _ c true (right_true (by omega) (by omega) hc0 hc1) _).mono ?_
  rintro e' w' ⟨rfl, rfl⟩
  go_wp2_with fail
  refine (words_is e c W h0 (by omega) hc0 (by omega) hw.out _ HT1.out).mono ?_
  rintro e' w' ⟨rfl, rfl⟩
  go_wp2_with fail
  refine (bits_is e b h0 (by omega) hb.out _ HT1.out).mono ?_
  rintro e' w' ⟨rfl, rfl⟩
  go_wp2_with fail
  refine (bytes_is e c B h0 (by omega) hc0 (by omega) hB.out _ HT1.out).mono ?_
  rintro e' w' ⟨rfl, rfl⟩
  go_wp2
  go_ret
  exact ⟨rfl, hb1⟩
theorem exact_zero (e c b : Int) (h0 : 0 ≤ e) (h5 : e ≤ 5) (hc0 : 0 ≤ c) (hc1 : c ≤ 536870911) (hb : Hid (bitsOf e = b)) (hn : IntKind.i64.wrap (b * c) = 0) (hw : Hid (wordsOf e c = 0)) (hB : Hid (bytesOf e c = 0)) (w : World) (ht : Tab w) :
    Calls Tryd.prog 4 #[.int .i64 e, .int .i64 c] w fun e' w' => e' = .returned (.bool true) ∧ Below w.heap.size w w' := by
  have HT := Lib.hid ht
  have t2 : decide (c + 1 < 0) = false := b1 (by omega)
  have t10 : (e == 7) = false := by simp; omega
  have t11 : (e == 6) = false := by simp; omega
  clear ht
  go_enter Tryd.func4, Tryd.ntmps4
  go_wp2_with fail
  refine (awake_any _ HT.out).mono ?_
  rintro e' w1 ⟨rfl, hb1⟩
  have HT1 := Lib.hid (HT.out.below hb1)
  go_wp2_with fail
  refine (right_is _ c true (right_true (by omega) (by omega) hc0 hc1) _).mono ?_
  rintro e' w' ⟨rfl, rfl⟩
  go_wp2_with fail
  refine (words_is e c 0 h0 (by omega) hc0 (by omega) hw.out _ HT1.out).mono ?_
  rintro e' w' ⟨rfl, rfl⟩
  go_wp2_with fail
  refine (bits_is e b h0 (by omega) hb.out _ HT1.out).mono ?_
  rintro e' w' ⟨rfl, rfl⟩
  go_wp2_with fail
  refine (bytes_is e c 0 h0 (by omega) hc0 (by omega) hB.out _ HT1.out).mono ?_
  rintro e' w' ⟨rfl, rfl⟩
  go_wp2
  go_ret
  exact ⟨rfl, hb1⟩
end Go.Proofs.YtmbecfiajkalcaaDoor
