/- What slices.Clone returns of a byte slice: a new one with the same bytes. Condition: the slice takes at most 2^47 bytes. -/
import Derived.Test.YtdnhbjcfhljcnaaSc3
import Derived.OwnWalk
set_option linter.unusedVariables false
set_option linter.unusedSimpArgs false
namespace Go.Proofs.Ytdnhbjcfhljcnaa
open Go.RowKit

theorem Try.info5 : (Try.prog.info? 5).map (fun i => (i.zero, i.size, i.bytes)) = some (some (.int .u8 0), 1, 1) := by kernel_rfl
theorem clone_nil (n c : Nat) (w : World) :
    Calls Try.prog 25 #[.slice none n c] w fun e w' => e = .returned (.slice none 0 0) ∧ Below w.heap.size w w' := by
  have hnil := fun (w : World) a n c => Lib.run_eql_slice_nil (P := Try.prog) w 22 5 a n c 0 0 Try.underlying22
  go_enter Try.func25, Try.ntmps25
  go_wp2_with fail
  go_wp2
  go_ret
  exact ⟨rfl, Below.refl _ _⟩
theorem own_empty (w : World) : (w.alloc (Obj.cells #[] 5)).ownsRow w.heap.size 5 1 (.slice (some ⟨w.heap.size, 0, none⟩) 0 0) 0 (nums .u8 []) :=
  ⟨by simp [nums], .inr ⟨w.heap.size, 0, #[], rfl, Nat.le_refl _, heap_alloc_new w _, Nat.le_refl _, Nat.zero_le _, rfl, rfl⟩⟩
set_option maxHeartbeats 1000000 in
theorem clone_at (ad : Addr) (n c : Nat) (xs : List Int) (w : World) (hn : n ≤ 140737488355328) (hx : xs.length = n) (hc : ∀ j u, (nums .u8 xs)[j]? = some u → w.cell? (ad.add j) = some u) :
    Calls Try.prog 25 #[.slice (some ad) n c] w fun e w' => (∃ v, e = .returned v ∧ w'.ownsRow w.heap.size 5 1 v n (nums .u8 xs)) ∧ Below w.heap.size w w' := by
  have hnil := fun (w : World) a n c => Lib.run_eql_slice_nil (P := Try.prog) w 22 5 a n c 0 0 Try.underlying22
  obtain ⟨i0, hi, hz0, hz1, hz2⟩ := info_parts Try.info5
  have hown := own_empty w
  have B1 : Below w.heap.size w (w.alloc (Obj.cells #[] 5)) := (Below.refl _ w).alloc (Nat.le_refl _) _
  have HN : Hid (∀ j u, (nums .u8 xs)[j]? = some u → (w.alloc (Obj.cells #[] 5)).cell? (ad.add j) = some u) := fun j u hj =>
    (B1.cell (p := ad.add j) (World.block_lt_of_cell? w _ (hc j u hj))).trans (hc j u hj)
  have HX := Lib.hid hx
  clear hx hc
  go_enter Try.func25, Try.ntmps25
  go_wp2_with (at_builtin; refine wpList_append_own_at _ rfl _ _ 22 rfl w.heap.size 5 i0 (.int .u8 0) 1 1 Try.underlying22 hi hz0 hz1 hz2 rfl (by decide) _ _ _ rfl hown ad n c (nums .u8 xs) rfl (by simp [nums, HX.out]) HN.out (nums_oneCell _ _) ?c1 ?c2 ?c3 ?_)
  case c1 => simp only [maxLen]; omega
  case c2 => omega
  case c3 => simp
  intro v' w' hown' hg _ _
  go_wp2
  go_ret
  refine ⟨⟨v', rfl, by simpa [nums] using hown'⟩, B1.grown hg (by simp) (own_base hown)⟩
/-- slices.Clone of a byte slice. -/
theorem clone_any (A : Option Addr) (n c : Nat) (xs : List Int) (w : World) (hn : n ≤ 140737488355328) (h : Rd w A n xs) (h0 : A = none → n = 0) :
    Calls Try.prog 25 #[.slice A n c] w fun e w' => (∃ v, e = .returned v ∧ w'.ownsRow w.heap.size 5 1 v n (nums .u8 xs)) ∧ Below w.heap.size w w' := by
  obtain ⟨hl, hr, _⟩ := h
  cases A with
  | none =>
    obtain rfl := h0 rfl
    obtain rfl := List.eq_nil_of_length_eq_zero hl
    exact (clone_nil 0 c w).mono fun _ _ ⟨a, b⟩ => ⟨⟨_, a, by simp [nums], .inl ⟨rfl, rfl⟩⟩, b⟩
  | some ad =>
    refine clone_at ad n c xs w hn hl ?_
    rcases hr with rfl | ⟨b, off, e, _, hc⟩
    · obtain rfl := List.eq_nil_of_length_eq_zero hl
      intro j u hj
      simp [nums] at hj
    · obtain rfl := Option.some.inj e
      exact Rd.news hl hc
end Go.Proofs.Ytdnhbjcfhljcnaa
