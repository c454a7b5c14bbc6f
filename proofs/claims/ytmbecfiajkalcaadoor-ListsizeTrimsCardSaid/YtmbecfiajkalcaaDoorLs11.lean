/- ListsizeMatchesReference's walk. Conditions: each number is of its kind; the slice lies in memory as the form reads it; the table lies as the program's text lays it. -/
import Derived.Test.YtmbecfiajkalcaaDoorLs10
set_option linter.unusedVariables false
set_option linter.unusedSimpArgs false
namespace Go.Proofs.YtmbecfiajkalcaaDoor
open Go.RowKit

theorem matches_one (e c : Int) (A : Option Addr) (n cap : Nat) (h : Hid (right e c = false)) (w : World) (ht : Tab w) :
    Calls Tryd.prog 3 #[.int .i64 e, .int .i64 c, .slice A n cap] w fun e' w' => e' = .returned (.bool true) ∧ Below w.heap.size w w' := by
  have HT := Lib.hid ht
  clear ht
  go_enter Tryd.func3, Tryd.ntmps3
  go_wp2_with fail
  refine (awake_any _ HT.out).mono ?_
  rintro e' w1 ⟨rfl, hb1⟩
  go_wp2_with fail
  refine (right_is e c false h.out _).mono ?_
  rintro e' w' ⟨rfl, rfl⟩
  go_wp2_with fail
  refine (awake_any _ (HT.out.below hb1)).mono ?_
  rintro e' w2 ⟨rfl, hb2⟩
  go_wp2
  go_ret
  exact ⟨rfl, below_step hb1 hb1.size hb2⟩
theorem matches_two (e c : Int) (A : Option Addr) (n cap : Nat) (h : Hid (right e c = true)) (h2 : 2000 < n) (w : World) (ht : Tab w) :
    Calls Tryd.prog 3 #[.int .i64 e, .int .i64 c, .slice A n cap] w fun e' w' => e' = .returned (.bool true) ∧ Below w.heap.size w w' := by
  have HT := Lib.hid ht
  clear ht
  have t1 : decide (2000 < (n : Int)) = true := b2 (by omega)
  go_enter Tryd.func3, Tryd.ntmps3
  go_wp2_with fail
  refine (awake_any _ HT.out).mono ?_
  rintro e' w1 ⟨rfl, hb1⟩
  go_wp2_with fail
  refine (right_is e c true h.out _).mono ?_
  rintro e' w' ⟨rfl, rfl⟩
  go_wp2_with fail
  refine (awake_any _ (HT.out.below hb1)).mono ?_
  rintro e' w2 ⟨rfl, hb2⟩
  go_wp2
  go_ret
  exact ⟨rfl, below_step hb1 hb1.size hb2⟩
theorem rbits_is (e r : Int) (h0 : 0 ≤ e) (h7 : e ≤ 7) (h : bitsOf e = r) (w : World) : Calls Tryd.prog 10 #[.int .i64 e] w fun e' w' => e' = .returned (.int .i64 r) ∧ w = w' := by
  subst h; exact rbits_any e h0 h7 w
theorem rwords_is (e c r : Int) (h0 : 0 ≤ e) (h7 : e ≤ 7) (hc0 : 0 ≤ c) (hc1 : c ≤ 4294967296) (h : wordsOf e c = r) (w : World) : Calls Tryd.prog 12 #[.int .i64 e, .int .i64 c] w fun e' w' => e' = .returned (.int .i64 r) ∧ w = w' := by
  subst h; exact rwords_any e c h0 h7 hc0 hc1 w
theorem rbytes_is (e c r : Int) (h0 : 0 ≤ e) (h7 : e ≤ 7) (hc0 : 0 ≤ c) (hc1 : c ≤ 4294967296) (h : bytesOf e c = r) (w : World) : Calls Tryd.prog 14 #[.int .i64 e, .int .i64 c] w fun e' w' => e' = .returned (.int .i64 r) ∧ w = w' := by
  subst h; exact rbytes_any e c h0 h7 hc0 hc1 w
theorem matches_three (e c : Int) (A : Option Addr) (n cap : Nat) (h0 : 0 ≤ e) (h7 : e ≤ 7) (h5 : 5 < e) (hc0 : 0 ≤ c) (hc1 : c ≤ 536870911) (h : Hid (right e c = true)) (h2 : n ≤ 2000) (b W : Int) (hb : Hid (bitsOf e = b)) (hW : Hid (wordsOf e c = W)) (w : World) (ht : Tab w) :
    Calls Tryd.prog 3 #[.int .i64 e, .int .i64 c, .slice A n cap] w fun e' w' => e' = .returned (.bool true) ∧ Below w.heap.size w w' := by
  have HT := Lib.hid ht
  clear ht
  have t1 : decide (2000 < (n : Int)) = false := b1 (by omega)
  have t2 : decide (5 < e) = true := b2 h5
  go_enter Tryd.func3, Tryd.ntmps3
  go_wp2_with fail
  refine (awake_any _ HT.out).mono ?_
  rintro e' w1 ⟨rfl, hb1⟩
  have HT1 := Lib.hid (HT.out.below hb1)
  go_wp2_with fail
  refine (right_is e c true h.out _).mono ?_
  rintro e' w' ⟨rfl, rfl⟩
  go_wp2_with fail
  refine (bits_is e b h0 (by omega) hb.out _ HT1.out).mono ?_
  rintro e' w' ⟨rfl, rfl⟩
  go_wp2_with fail
  refine (rbits_is e b h0 (by omega) hb.out _).mono ?_
  rintro e' w' ⟨rfl, rfl⟩
  go_wp2_with fail
  refine (words_is e c W h0 (by omega) hc0 (by omega) hW.out _ HT1.out).mono ?_
  rintro e' w' ⟨rfl, rfl⟩
  go_wp2_with fail
  refine (rwords_is e c W h0 (by omega) hc0 (by omega) hW.out _).mono ?_
  rintro e' w' ⟨rfl, rfl⟩
  go_wp2
  go_ret
  exact ⟨rfl, hb1⟩
theorem matches_four (e c : Int) (A : Option Addr) (n cap : Nat) (h0 : 0 ≤ e) (h5 : e ≤ 5) (hc0 : 0 ≤ c) (hc1 : c ≤ 536870911) (h : Hid (right e c = true)) (h2 : n ≤ 2000) (b W : Int) (hb : Hid (bitsOf e = b)) (hW : Hid (wordsOf e c = W)) (k : Nat) (hB : Hid (bytesOf e c = (k : Int))) (hk : n < k) (w : World) (ht : Tab w) :
    Calls Tryd.prog 3 #[.int .i64 e, .int .i64 c, .slice A n cap] w fun e' w' => e' = .returned (.bool true) ∧ Below w.heap.size w w' := by
  have HT := Lib.hid ht
  clear ht
  have t1 : decide (2000 < (n : Int)) = false := b1 (by omega)
  have t2 : decide (5 < e) = false := b1 (by omega)
  have t3 : decide ((n : Int) < (k : Int)) = true := b2 (by omega)
  go_enter Tryd.func3, Tryd.ntmps3
  go_wp2_with fail
  refine (awake_any _ HT.out).mono ?_
  rintro e' w1 ⟨rfl, hb1⟩
  have HT1 := Lib.hid (HT.out.below hb1)
  go_wp2_with fail
  refine (right_is e c true h.out _).mono ?_
  rintro e' w' ⟨rfl, rfl⟩
  go_wp2_with fail
  refine (bits_is e b h0 (by omega) hb.out _ HT1.out).mono ?_
  rintro e' w' ⟨rfl, rfl⟩
  go_wp2_with fail
  refine (rbits_is e b h0 (by omega) hb.out _).mono ?_
  rintro e' w' ⟨rfl, rfl⟩
  go_wp2_with fail
  refine (words_is e c W h0 (by omega) hc0 (by omega) hW.out _ HT1.out).mono ?_
  rintro e' w' ⟨rfl, rfl⟩
  go_wp2_with fail
  refine (rwords_is e c W h0 (by omega) hc0 (by omega) hW.out _).mono ?_
  rintro e' w' ⟨rfl, rfl⟩
  go_wp2_with fail
  refine (bytes_is e c k h0 (by omega) hc0 (by omega) hB.out _ HT1.out).mono ?_
  rintro e' w' ⟨rfl, rfl⟩
  go_wp2_with fail
  refine (rbytes_is e c k h0 (by omega) hc0 (by omega) hB.out _).mono ?_
  rintro e' w' ⟨rfl, rfl⟩
  go_wp2_with fail
  refine (rbytes_is e c k h0 (by omega) hc0 (by omega) hB.out _).mono ?_
  rintro e' w' ⟨rfl, rfl⟩
  go_wp2
  go_ret
  exact ⟨rfl, hb1⟩
set_option maxHeartbeats 1000000 in
theorem matches_five (e c : Int) (A : Option Addr) (n cap : Nat) (h0 : 0 ≤ e) (h5 : e ≤ 5) (hc0 : 0 ≤ c) (hc1 : c ≤ 536870911) (h : Hid (right e c = true)) (h2 : n ≤ 2000) (b W : Int) (hb : Hid (bitsOf e = b)) (hW : Hid (wordsOf e c = W)) (k : Nat) (hB : Hid (bytesOf e c = (k : Int))) (hk : k ≤ n) (xs : List Int) (hA : Hid (A = none → n = 0)) (hcap : n ≤ cap) (w : World) (hR : Hid (Rd w A n xs)) (hx : Hid (∀ j, 0 ≤ (trimL e c xs).getD j 0 ∧ (trimL e c xs).getD j 0 ≤ 255)) (ht : Tab w) :
    Calls Tryd.prog 3 #[.int .i64 e, .int .i64 c, .slice A n cap] w fun e' w' => e' = .returned (.bool true) ∧ Below w.heap.size w w' := by
  have HT := Lib.hid ht
  clear ht
  have t1 : decide (2000 < (n : Int)) = false := b1 (by omega)
  have t2 : decide (5 < e) = false := b1 (by omega)
  have t3 : decide ((n : Int) < (k : Int)) = false := b1 (by omega)
  go_enter Tryd.func3, Tryd.ntmps3
  go_wp2_with fail
  refine (awake_any _ HT.out).mono ?_
  rintro e' w1 ⟨rfl, hb1⟩
  have HT1 := Lib.hid (HT.out.below hb1)
  go_wp2_with fail
  refine (right_is e c true h.out _).mono ?_
  rintro e' w' ⟨rfl, rfl⟩
  go_wp2_with fail
  refine (bits_is e b h0 (by omega) hb.out _ HT1.out).mono ?_
  rintro e' w' ⟨rfl, rfl⟩
  go_wp2_with fail
  refine (rbits_is e b h0 (by omega) hb.out _).mono ?_
  rintro e' w' ⟨rfl, rfl⟩
  go_wp2_with fail
  refine (words_is e c W h0 (by omega) hc0 (by omega) hW.out _ HT1.out).mono ?_
  rintro e' w' ⟨rfl, rfl⟩
  go_wp2_with fail
  refine (rwords_is e c W h0 (by omega) hc0 (by omega) hW.out _).mono ?_
  rintro e' w' ⟨rfl, rfl⟩
  go_wp2_with fail
  refine (bytes_is e c k h0 (by omega) hc0 (by omega) hB.out _ HT1.out).mono ?_
  rintro e' w' ⟨rfl, rfl⟩
  go_wp2_with fail
  refine (rbytes_is e c k h0 (by omega) hc0 (by omega) hB.out _).mono ?_
  rintro e' w' ⟨rfl, rfl⟩
  go_wp2_with fail
  refine (rbytes_is e c k h0 (by omega) hc0 (by omega) hB.out _).mono ?_
  rintro e' w' ⟨rfl, rfl⟩
  go_wp2_with fail
  refine (trim_any e c h0 h5 hc0 (by omega) A n cap xs _ HT1.out (by omega) hA.out hcap (hR.out.below hb1) k hB.out.symm hk).mono ?_
  rintro e' w2 ⟨⟨v, rfl, hown2⟩, hb2⟩
  go_wp2_with fail
  refine (rtrim_any e c h0 h5 hc0 (by omega) A n cap xs _ (by omega) ((hR.out.below hb1).below hb2) k hB.out.symm hk).mono ?_
  rintro e' w3 ⟨⟨v', rfl, hown3⟩, hb3⟩
  obtain ⟨A2, c2, rfl, hR2⟩ := own_rd hown2 hx.out
  obtain ⟨A3, c3, rfl, hR3⟩ := own_rd hown3 hx.out
  have HR2 := Lib.hid (hR2.below hb3)
  have HR3 := Lib.hid hR3
  clear hR2 hR3 hown2 hown3
  go_wp2_with fail
  refine (same_any A2 A3 k k c2 c3 _ _ _ (by omega) HR2.out HR3.out).mono ?_
  rintro e' w4 ⟨rfl, hb4⟩
  go_wp2
  go_ret
  exact ⟨by simp, below_step (below_step (below_step hb1 hb1.size hb2) (Nat.le_trans hb1.size hb2.size) hb3) (Nat.le_trans (Nat.le_trans hb1.size hb2.size) hb3.size) hb4⟩
theorem trimL_range {e c : Int} {xs : List Int} (hx : ∀ j, 0 ≤ xs.getD j 0 ∧ xs.getD j 0 ≤ 255) (j : Nat) : 0 ≤ (trimL e c xs).getD j 0 ∧ (trimL e c xs).getD j 0 ≤ 255 := by
  have ht : ∀ m j, 0 ≤ (xs.take m).getD j 0 ∧ (xs.take m).getD j 0 ≤ 255 := fun m j => by
    by_cases h : j < m
    · have e : (xs.take m).getD j 0 = xs.getD j 0 := by simp [List.getElem?_take, h]
      rw [e]; exact hx j
    · have e : (xs.take m).getD j 0 = 0 := by simp [List.getElem?_take, h]
      omega
  unfold trimL
  split
  · rename_i h
    rw [List.getD_eq_getElem?_getD, List.getElem?_set]
    split
    · split
      · have h1 := hx ((bytesOf e c).toNat - 1)
        have h2 : (0 : Int) < 2 ^ (c % 8).toNat := Int.pow_pos (by decide)
        have h3 := Int.emod_nonneg (xs.getD ((bytesOf e c).toNat - 1) 0) (show (2 : Int) ^ (c % 8).toNat ≠ 0 by omega)
        have h4 : xs.getD ((bytesOf e c).toNat - 1) 0 % 2 ^ (c % 8).toNat ≤ xs.getD ((bytesOf e c).toNat - 1) 0 := by
          by_cases h5 : xs.getD ((bytesOf e c).toNat - 1) 0 < 2 ^ (c % 8).toNat
          · rw [Int.emod_eq_of_lt h1.1 h5]; exact Int.le_refl _
          · have := Int.emod_lt_of_pos (xs.getD ((bytesOf e c).toNat - 1) 0) h2; omega
        simp only [Option.getD_some]
        omega
      · simp
    · have := ht (bytesOf e c).toNat j
      rwa [List.getD_eq_getElem?_getD] at this
  · exact ht _ j
theorem matches_walk (e c : Int) (A : Option Addr) (n cap : Nat) (xs : List Int) (w : World) (hA : A = none → n = 0) (hcap : n ≤ cap) (hR : Rd w A n xs) (ht : Tab w) :
    Calls Tryd.prog 3 #[.int .i64 e, .int .i64 c, .slice A n cap] w fun e' w' => e' = .returned (.bool true) ∧ Below w.heap.size w w' := by
  by_cases h : 0 ≤ e ∧ e ≤ 7 ∧ 0 ≤ c ∧ c ≤ 536870911
  · obtain ⟨h0, h7, hc0, hc1⟩ := h
    have hr := right_true h0 h7 hc0 hc1
    by_cases hn : 2000 < n
    · exact matches_two e c A n cap hr hn w ht
    by_cases h5 : 5 < e
    · exact matches_three e c A n cap h0 h7 h5 hc0 hc1 hr (by omega) _ _ rfl rfl w ht
    · have hk0 := bytesOf_nonneg e c h0 h7 hc0
      obtain ⟨k, hk⟩ := Int.eq_ofNat_of_zero_le hk0
      by_cases hkn : n < k
      · exact matches_four e c A n cap h0 (by omega) hc0 hc1 hr (by omega) _ _ rfl rfl k hk hkn w ht
      · exact matches_five e c A n cap h0 (by omega) hc0 hc1 hr (by omega) _ _ rfl rfl k hk (by omega) xs hA hcap w hR (trimL_range hR.2.2) ht
  · exact matches_one e c A n cap (right_false h) w ht
end Go.Proofs.YtmbecfiajkalcaaDoor
