/- What capnpref01.Same returns: whether two byte slices hold the same bytes. No condition. -/
import Derived.Test.YtdnhbjcfhljcnaaProg
import Derived.Test.YtdnhbjcfhljcnaaBytes
import Derived.WalkSpells
import Derived.BigQuiet
import Derived.Lib.Hide
set_option linter.unusedVariables false
set_option linter.unusedSimpArgs false
namespace Go.Proofs.Ytdnhbjcfhljcnaa
open Go.RowKit

set_option maxHeartbeats 1000000 in
theorem same_some (b1 o1 b2 o2 n ca cb : Nat) (xs ys : List Int) (w : World) (hn : n ≤ 140737488355328) (hx : xs.length = n) (hy : ys.length = n)
    (hc1 : ∀ j, j < n → w.cell? ⟨b1, o1 + j, none⟩ = some (.int .u8 (xs.getD j 0))) (hc2 : ∀ j, j < n → w.cell? ⟨b2, o2 + j, none⟩ = some (.int .u8 (ys.getD j 0))) :
    Calls Try.prog 15 #[.slice (some ⟨b1, o1, none⟩) n ca, .slice (some ⟨b2, o2, none⟩) n cb] w fun e w' => e = .returned (.bool (decide (xs = ys))) ∧ Below w.heap.size w w' := by
  have HX := Lib.hid hx
  have HY := Lib.hid hy
  clear hx hy
  go_enter Try.func15, Try.ntmps15
  go_wp2_with fail
  go_loopw [5] (fun i wr => ∃ k q : Nat, k ≤ n ∧ i = .int .i64 k ∧ Hid (xs.take k = ys.take k) ∧ wr = w.drewN q) (fun i _ => n - (intOf i).toNat)
  case atStart => exact ⟨0, 0, Nat.zero_le _, rfl, rfl, rfl⟩
  case round =>
    obtain ⟨k, q, hk, rfl, he, rfl⟩ := hrel
    by_cases hlt : k < n
    · have h1 := hc1 k hlt
      have h2 := hc2 k hlt
      have hk0 : (0 : Int) ≤ (k : Int) := Int.natCast_nonneg _
      have hk1 : (k : Int) < (n : Int) := by omega
      obtain ⟨c, hc⟩ : ∃ c, Hid (xs.getD k 0 = c) := ⟨_, rfl⟩
      obtain ⟨d, hd⟩ : ∃ d, Hid (ys.getD k 0 = d) := ⟨_, rfl⟩
      rw [hc.out] at h1
      rw [hd.out] at h2
      clear hc1 hc2
      by_cases hcd : c = d
      · subst hcd
        go_wp2_with fail
        go_quiet (fail)
        go_wp2
        go_roundw
        case rel => exact ⟨k + 1, _, by omega, by go_num, take_succ_eq (by rw [HX.out]; omega) (by rw [HY.out]; omega) he.out (hc.out.trans hd.out.symm), rfl⟩
        case measure => simp [intOf]; omega
      · have h3 : (c == d) = false := by simp [hcd]
        have h4 : (c != d) = true := by simp [hcd]
        go_wp2_with fail
        go_quiet (fail)
        go_wp2
        go_ret
        have hne := ne_of_at (k := k) (xs := xs) (ys := ys) (fun e => hcd (hc.out.symm.trans (e.trans hd.out)))
        exact ⟨by simp [hne], by repeat (first | exact Below.refl _ _ | apply below_drewN)⟩
    · obtain rfl : k = n := by omega
      go_wp2
      go_ret
      have e1 := he.out
      rw [List.take_of_length_le (by rw [HX.out]; omega), List.take_of_length_le (by rw [HY.out]; omega)] at e1
      exact ⟨by simp [e1], by repeat (first | exact Below.refl _ _ | apply below_drewN)⟩
theorem same_zero (A B : Option Addr) (ca cb : Nat) (w : World) :
    Calls Try.prog 15 #[.slice A 0 ca, .slice B 0 cb] w fun e w' => e = .returned (.bool true) ∧ Below w.heap.size w w' := by
  go_enter Try.func15, Try.ntmps15
  go_wp2_with fail
  go_loop [5] (fun i => i = .int .i64 0) (fun _ => 0)
  case atStart => rfl
  case round =>
    subst hrel
    go_wp2
    go_ret
    exact ⟨rfl, Below.refl _ _⟩
theorem same_len (A B : Option Addr) (n m ca cb : Nat) (h : ¬ n = m) (w : World) :
    Calls Try.prog 15 #[.slice A n ca, .slice B m cb] w fun e w' => e = .returned (.bool false) ∧ Below w.heap.size w w' := by
  have h1 : ((n : Int) != (m : Int)) = true := by simp; omega
  have h2 : ((n : Int) == (m : Int)) = false := by simp; omega
  go_enter Try.func15, Try.ntmps15
  go_wp2
  go_ret
  exact ⟨rfl, Below.refl _ _⟩
theorem same_any (A B : Option Addr) (n m ca cb : Nat) (xs ys : List Int) (w : World) (hn : n ≤ 140737488355328) (h1 : Rd w A n xs) (h2 : Rd w B m ys) :
    Calls Try.prog 15 #[.slice A n ca, .slice B m cb] w fun e w' => e = .returned (.bool (decide (xs = ys))) ∧ Below w.heap.size w w' := by
  obtain ⟨l1, r1, _⟩ := h1
  obtain ⟨l2, r2, _⟩ := h2
  by_cases h : n = m
  · subst h
    by_cases h0 : n = 0
    · subst h0
      obtain rfl := List.eq_nil_of_length_eq_zero l1
      obtain rfl := List.eq_nil_of_length_eq_zero l2
      exact (same_zero A B ca cb w).mono fun _ _ ⟨a, b⟩ => ⟨by simpa using a, b⟩
    · rcases r1 with r1 | ⟨b1, o1, rfl, _, c1⟩
      · exact absurd r1 h0
      rcases r2 with r2 | ⟨b2, o2, rfl, _, c2⟩
      · exact absurd r2 h0
      exact same_some b1 o1 b2 o2 n ca cb xs ys w hn l1 l2 c1 c2
  · have : ¬ xs = ys := fun e => h (by rw [← l1, ← l2, e])
    exact (same_len A B n m ca cb h w).mono fun _ _ ⟨a, b⟩ => ⟨by simpa [this] using a, b⟩
end Go.Proofs.Ytdnhbjcfhljcnaa
