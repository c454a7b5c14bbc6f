/- A part of the proof of YtmbockhcmhghlaaDoorEqualityCard (the texts that it stands on, gathered; declarations that nothing uses are left out). -/
import Derived.Test.YtmbockhcmhghlaaDoorBNQA
import Derived.Below
import Derived.Deep.Draws
import Derived.Deep.AppendLies
import Derived.Maps.AppendAt
import Derived.OwnWalk
import Derived.Laws.BytesArg
import Derived.Laws.MakeOwn
import Derived.Laws.OwnMore
import Derived.Deep.OwnRows
import Derived.Tactics
import Derived.Lib.ConvBytes
import Derived.Laws.Slices
import Derived.WalkKit
import Derived.KernelRfl
import Derived.RowKit3
import Derived.Deep.LoopGhost
import Derived.Deep.QuietTactic
import Derived.BigQuiet
import Derived.WideLaws
import Derived.Deep.DeepCutAuto
import Derived.Deep.CutBlock
import Derived.Deep.RegionHeld3
import Derived.Laws.Rows
import Derived.Lib.AppendStr
import Derived.ArgAppend
import Derived.Laws.IdiomCopy
import Derived.RowKit
import Derived.OrdersHeld
import Derived.Laws.BitsLemmas
import Derived.Laws.StructEq
import Derived.SizedLaws
import Derived.ChangeSlices
import Derived.Test.YtmbockhcmhghlaaDoorProg
import Derived.Laws.AppendOwn
import Derived.WalkSpells
import Derived.Lib.Hide
import Derived.RangeFuncBox
import Derived.IntWalk
import Derived.OpenShut
import Derived.RangeFuncNested
import Derived.RangeFuncBound
import Derived.RangeFuncCalls
import Derived.RangeFuncLeaves
import Derived.Shelf.Abstract
import Derived.Shelf.RegionOpen
import Derived.OwnWalkIn
import Derived.TacticsInMore
import Derived.LoopNIn
import Derived.LoopIn
section
namespace Go.Proofs.YtmbockhcmhghlaaDoor.Pr
open Go.RowKit Go.Proofs.YtmbockhcmhghlaaDoorW.PrintWords Go.Proofs.YtmbockhcmhghlaaDoorW.PrintLast Go.Proofs.YtmbockhcmhghlaaDoorW.PrintMore
set_option linter.unusedVariables false
set_option linter.unusedSimpArgs false
set_option maxRecDepth 100000 in
set_option maxHeartbeats 4000000 in
theorem list_any (x : S25) (hN : ∀ y ∈ x.f4, NodeC 10 (tvalid y) y) (hE : ∀ y ∈ x.f4, NodeC 31 (elemV y) y) (hx : ∀ b ∈ x.f3, 0 ≤ b ∧ b ≤ 255) : NodeC 22 (listV x) x := by
  intro A3 c3 A4 c4 W h3 l3 h4 l4 ht
  have H3 := Lib.hid h3; have H4 := Lib.hid h4; have HT := Lib.hid ht; have HN := Lib.hid hN; have HE := Lib.hid hE; have HX := Lib.hid hx
  have hm3 : x.f3.length ≤ 9223372036854775807 := h3.2.1
  have hm4 : x.f4.length ≤ 9223372036854775807 := h4.2.1
  clear h3 h4 ht hN hE hx
  have HD : Hid (listV x = _) := Lib.hid (listV.eq_1 x)
  by_cases q1 : x.f1 < 0
  · have d1 : decide (x.f1 < 0) = true := decide_eq_true q1
    have HDD : Hid (listV x = false) := Lib.hid (by rw [HD.out]; rw [if_pos (by omega)])
    clear HD
    go_enter Tryd.func22, Tryd.ntmps22
    go_wp2
    go_ret
    exact ⟨by rw [HDD.out]; rfl, (Below.refl _ _).alloc (Nat.le_refl _) _⟩
  have d1 : decide (x.f1 < 0) = false := decide_eq_false q1
  by_cases q2 : 7 < x.f1
  · have d2 : decide (7 < x.f1) = true := decide_eq_true q2
    have HDD : Hid (listV x = false) := Lib.hid (by rw [HD.out]; rw [if_pos (by omega)])
    clear HD
    go_enter Tryd.func22, Tryd.ntmps22
    go_wp2
    go_ret
    exact ⟨by rw [HDD.out]; rfl, (Below.refl _ _).alloc (Nat.le_refl _) _⟩
  have d2 : decide (7 < x.f1) = false := decide_eq_false q2
  by_cases q3 : x.f2 < 0
  · have d3 : decide (x.f2 < 0) = true := decide_eq_true q3
    have HDD : Hid (listV x = false) := Lib.hid (by rw [HD.out]; rw [if_pos (by omega)])
    clear HD
    go_enter Tryd.func22, Tryd.ntmps22
    go_wp2
    go_ret
    exact ⟨by rw [HDD.out]; rfl, (Below.refl _ _).alloc (Nat.le_refl _) _⟩
  have d3 : decide (x.f2 < 0) = false := decide_eq_false q3
  by_cases q4 : 536870911 < x.f2
  · have d4 : decide (536870911 < x.f2) = true := decide_eq_true q4
    have HDD : Hid (listV x = false) := Lib.hid (by rw [HD.out]; rw [if_pos (by omega)])
    clear HD
    go_enter Tryd.func22, Tryd.ntmps22
    go_wp2
    go_ret
    exact ⟨by rw [HDD.out]; rfl, (Below.refl _ _).alloc (Nat.le_refl _) _⟩
  have d4 : decide (536870911 < x.f2) = false := decide_eq_false q4
  have HD1 := Lib.hid (HD.out.trans (if_neg (by omega)))
  clear HD
  by_cases e6 : x.f1 = 6
  · have g6 : (x.f1 == 6) = true := beq_iff_eq.2 e6
    have HD2 := Lib.hid (HD1.out.trans (if_pos e6))
    clear HD1 e6
    cases b1 : ((x.f3.length : Int) == 0) with
    | false =>
      have HDD : Hid (listV x = false) := Lib.hid (by rw [HD2.out]; rw [b1]; rfl)
      clear HD2
      go_enter Tryd.func22, Tryd.ntmps22
      go_wp2
      go_ret
      exact ⟨by rw [HDD.out]; rfl, (Below.refl _ _).alloc (Nat.le_refl _) _⟩
    | true =>
    cases b2 : ((x.f4.length : Int) == x.f2) with
    | false =>
      have HDD : Hid (listV x = false) := Lib.hid (by rw [HD2.out]; rw [b1, b2]; rfl)
      clear HD2
      go_enter Tryd.func22, Tryd.ntmps22
      go_wp2
      go_ret
      exact ⟨by rw [HDD.out]; rfl, (Below.refl _ _).alloc (Nat.le_refl _) _⟩
    | true =>
    have HDD := Lib.hid (show listV x = x.f4.all tvalid by rw [HD2.out, b1, b2]; rfl)
    clear HD2
    go_enter Tryd.func22, Tryd.ntmps22
    go_wp2_with fail
    refine calls_at (fun W1 hW => ?_)
    have hb : Below W.heap.size W W1 := by rw [hW]; exact (Below.refl _ _).alloc (Nat.le_refl _) _
    clear hW
    refine (all10 tvalid A4 c4 x.f4 W1 HN.out (Kd.C_below H4.out hb) (HT.out.below hb)).mono ?_
    rintro e w1 ⟨rfl, hb1⟩
    go_wp2
    go_ret
    exact ⟨by rw [HDD.out]; rfl, hb.trans (hb1.mono hb.size)⟩
  have g6 : (x.f1 == 6) = false := beq_eq_false_iff_ne.2 e6
  have HD1b := Lib.hid (HD1.out.trans (if_neg e6))
  by_cases e7 : x.f1 = 7
  · have g7 : (x.f1 == 7) = true := beq_iff_eq.2 e7
    have HD2 := Lib.hid (HD1b.out.trans (if_pos e7))
    clear HD1b e7
    cases b1 : ((x.f3.length : Int) == 0) with
    | false =>
      have HDD : Hid (listV x = false) := Lib.hid (by rw [HD2.out]; rw [b1]; rfl)
      clear HD2
      go_enter Tryd.func22, Tryd.ntmps22
      go_wp2
      go_ret
      exact ⟨by rw [HDD.out]; rfl, (Below.refl _ _).alloc (Nat.le_refl _) _⟩
    | true =>
    cases b2 : ((x.f4.length : Int) == x.f2) with
    | false =>
      have HDD : Hid (listV x = false) := Lib.hid (by rw [HD2.out]; rw [b1, b2]; rfl)
      clear HD2
      go_enter Tryd.func22, Tryd.ntmps22
      go_wp2
      go_ret
      exact ⟨by rw [HDD.out]; rfl, (Below.refl _ _).alloc (Nat.le_refl _) _⟩
    | true =>
    have HDD := Lib.hid (show listV x = x.f4.all elemV by rw [HD2.out, b1, b2]; rfl)
    clear HD2
    go_enter Tryd.func22, Tryd.ntmps22
    go_wp2_with fail
    refine calls_at (fun W1 hW => ?_)
    have hb : Below W.heap.size W W1 := by rw [hW]; exact (Below.refl _ _).alloc (Nat.le_refl _) _
    clear hW
    refine (all31 elemV A4 c4 x.f4 W1 HE.out (Kd.C_below H4.out hb) (HT.out.below hb)).mono ?_
    rintro e w1 ⟨rfl, hb1⟩
    go_wp2
    go_ret
    exact ⟨by rw [HDD.out]; rfl, hb.trans (hb1.mono hb.size)⟩
  have g7 : (x.f1 == 7) = false := beq_eq_false_iff_ne.2 e7
  have HD1c := Lib.hid (HD1b.out.trans (if_neg e7))
  have p0 : 0 ≤ x.f1 := by omega
  have p5 : x.f1 ≤ 5 := by omega
  have r0 : 0 ≤ x.f2 := by omega
  have r1 : x.f2 ≤ 536870911 := by omega
  clear HD1 HD1b e6 e7 q1 q2 q3 q4
  cases b1 : ((x.f4.length : Int) == 0) with
  | false =>
    have HDD : Hid (listV x = false) := Lib.hid (by rw [HD1c.out, b1]; rfl)
    clear HD1c
    go_enter Tryd.func22, Tryd.ntmps22
    go_upto_region 8 with fail
    refine wp_at (fun W1 hW => ?_)
    have hb : Below W.heap.size W W1 := by rw [hW]; exact (Below.refl _ _).alloc (Nat.le_refl _) _
    have hB : W1.heap[W.heap.size]? = some (.cells #[.int .i64 x.f0, .int .i64 x.f1, .int .i64 x.f2, .slice A3 x.f3.length c3, .slice A4 x.f4.length c4] 25 (0, 0)) := by rw [hW]; exact heap_alloc_new _ _
    clear hW
    have l_b := blk_lt hB
    have q0 : W1.cell? ⟨W.heap.size, 0, none⟩ = some (.int .i64 x.f0) := (blk_cell hB 0).trans rfl
    have q1 : W1.cell? ⟨W.heap.size, 1, none⟩ = some (.int .i64 x.f1) := (blk_cell hB 1).trans rfl
    have q2 : W1.cell? ⟨W.heap.size, 2, none⟩ = some (.int .i64 x.f2) := (blk_cell hB 2).trans rfl
    have q3 : W1.cell? ⟨W.heap.size, 3, none⟩ = some (.slice A3 x.f3.length c3) := (blk_cell hB 3).trans rfl
    have q4 : W1.cell? ⟨W.heap.size, 4, none⟩ = some (.slice A4 x.f4.length c4) := (blk_cell hB 4).trans rfl
    clear hB
    refine start_ (n := 28) (S := fun w' => w'.cell? ⟨W.heap.size, 0, none⟩ = some (.int .i64 x.f0) ∧ w'.cell? ⟨W.heap.size, 1, none⟩ = some (.int .i64 x.f1) ∧ w'.cell? ⟨W.heap.size, 2, none⟩ = some (.int .i64 x.f2) ∧ w'.cell? ⟨W.heap.size, 3, none⟩ = some (.slice A3 x.f3.length c3) ∧ w'.cell? ⟨W.heap.size, 4, none⟩ = some (.slice A4 x.f4.length c4)) (ds := []) #[false, false, false, false, false, false, false, false, false, false, false, false, false, false, false, false, false, false, false, false, false, false, false, false, false, false, false, false] (by kernel_rfl) rfl rfl ⟨q0, q1, q2, q3, q4⟩ (fun hHeld => ?_)
    obtain ⟨wd, hwd⟩ : ∃ W', W' = W1.drew := ⟨_, rfl⟩
    rw [← hwd] at hHeld ⊢
    have hbR : Below W1.heap.size W1 wd := by rw [hwd]; exact (Below.refl _ _).drew
    clear hwd
    refine pure_ (i := 0) (N := some 61) (v := ?_) (a' := ?_) #[true, false, false, false, false, false, false, false, false, false, false, false, false, false, false, false, false, false, false, false, false, false, false, false, false, false, false, false] rfl rfl (by kernel_rfl) (fun _ _ _ h => h) (Or.inl ⟨by rfl, ?_⟩) ?_ ?_
    rotate_left
    · intro w'
      go_simp
      with_reducible rfl
    rotate_left
    · simp only [Act.put, List.setIfInBounds_toArray, List.set_cons_zero, List.set_cons_succ, i64_w, i32_w]
      rfl
    refine take_ (i := 1) (N := some 62) (v := ?_) (a' := ?_) #[true, true, false, false, false, false, false, false, false, false, false, false, false, false, false, false, false, false, false, false, false, false, false, false, false, false, false, false] rfl rfl (by kernel_rfl) (fun _ _ _ h => h) (Or.inl ⟨by rfl, ?_⟩) hHeld ?_ ?_
    rotate_left
    · rintro w' ⟨s0, s1, s2, s3, s4⟩
      go_simp
      with_reducible rfl
    rotate_left
    · simp only [Act.put, List.setIfInBounds_toArray, List.set_cons_zero, List.set_cons_succ, i64_w, i32_w]
      rfl
    refine pure_ (i := 2) (N := some 63) (v := ?_) (a' := ?_) #[true, true, true, false, false, false, false, false, false, false, false, false, false, false, false, false, false, false, false, false, false, false, false, false, false, false, false, false] rfl rfl (by kernel_rfl) (fun _ _ _ h => h) (Or.inl ⟨by rfl, ?_⟩) ?_ ?_
    rotate_left
    · intro w'
      go_simp
      with_reducible rfl
    rotate_left
    · simp only [Act.put, List.setIfInBounds_toArray, List.set_cons_zero, List.set_cons_succ, i64_w, i32_w]
      rfl
    refine pure_ (i := 3) (N := some 64) (v := ?_) (a' := ?_) #[true, true, true, true, false, false, false, false, false, false, false, false, false, false, false, false, false, false, false, false, false, false, false, false, false, false, false, false] rfl rfl (by kernel_rfl) (fun _ _ _ h => h) (Or.inl ⟨by rfl, ?_⟩) ?_ ?_
    rotate_left
    · intro w'
      go_simp
      with_reducible rfl
    rotate_left
    · simp only [Act.put, List.setIfInBounds_toArray, List.set_cons_zero, List.set_cons_succ, i64_w, i32_w]
      rfl
    refine pure_ (i := 4) (N := some 65) (v := ?_) (a' := ?_) #[true, true, true, true, true, false, false, false, false, false, false, false, false, false, false, false, false, false, false, false, false, false, false, false, false, false, false, false] rfl rfl (by kernel_rfl) (fun _ _ _ h => h) (Or.inl ⟨by rfl, ?_⟩) ?_ ?_
    rotate_left
    · intro w'
      go_simp
      with_reducible rfl
    rotate_left
    · simp only [Act.put, List.setIfInBounds_toArray, List.set_cons_zero, List.set_cons_succ, i64_w, i32_w]
      rfl
    refine pure_ (i := 5) (N := some 66) (v := undef) (a' := ?_) #[true, true, true, true, true, true, false, false, false, false, false, false, false, false, false, false, false, false, false, false, false, false, false, false, false, false, false, false] rfl rfl (by kernel_rfl) (fun _ _ _ h => h) (Or.inr ⟨by rfl, rfl⟩) ?_ ?_
    rotate_left
    · simp only [Act.put, List.setIfInBounds_toArray, List.set_cons_zero, List.set_cons_succ, i64_w, i32_w]
      rfl
    refine pure_ (i := 6) (N := some 67) (v := undef) (a' := ?_) #[true, true, true, true, true, true, true, false, false, false, false, false, false, false, false, false, false, false, false, false, false, false, false, false, false, false, false, false] rfl rfl (by kernel_rfl) (fun _ _ _ h => h) (Or.inr ⟨by rfl, rfl⟩) ?_ ?_
    rotate_left
    · simp only [Act.put, List.setIfInBounds_toArray, List.set_cons_zero, List.set_cons_succ, i64_w, i32_w]
      rfl
    refine pure_ (i := 7) (N := some 68) (v := undef) (a' := ?_) #[true, true, true, true, true, true, true, true, false, false, false, false, false, false, false, false, false, false, false, false, false, false, false, false, false, false, false, false] rfl rfl (by kernel_rfl) (fun _ _ _ h => h) (Or.inr ⟨by rfl, rfl⟩) ?_ ?_
    rotate_left
    · simp only [Act.put, List.setIfInBounds_toArray, List.set_cons_zero, List.set_cons_succ, i64_w, i32_w]
      rfl
    refine pure_ (i := 8) (N := some 69) (v := undef) (a' := ?_) #[true, true, true, true, true, true, true, true, true, false, false, false, false, false, false, false, false, false, false, false, false, false, false, false, false, false, false, false] rfl rfl (by kernel_rfl) (fun _ _ _ h => h) (Or.inr ⟨by rfl, rfl⟩) ?_ ?_
    rotate_left
    · simp only [Act.put, List.setIfInBounds_toArray, List.set_cons_zero, List.set_cons_succ, i64_w, i32_w]
      rfl
    refine pure_ (i := 9) (N := some 70) (v := undef) (a' := ?_) #[true, true, true, true, true, true, true, true, true, true, false, false, false, false, false, false, false, false, false, false, false, false, false, false, false, false, false, false] rfl rfl (by kernel_rfl) (fun _ _ _ h => h) (Or.inr ⟨by rfl, rfl⟩) ?_ ?_
    rotate_left
    · simp only [Act.put, List.setIfInBounds_toArray, List.set_cons_zero, List.set_cons_succ, i64_w, i32_w]
      rfl
    refine pure_ (i := 10) (N := some 71) (v := undef) (a' := ?_) #[true, true, true, true, true, true, true, true, true, true, true, false, false, false, false, false, false, false, false, false, false, false, false, false, false, false, false, false] rfl rfl (by kernel_rfl) (fun _ _ _ h => h) (Or.inr ⟨by rfl, rfl⟩) ?_ ?_
    rotate_left
    · simp only [Act.put, List.setIfInBounds_toArray, List.set_cons_zero, List.set_cons_succ, i64_w, i32_w]
      rfl
    refine pure_ (i := 11) (N := some 72) (v := undef) (a' := ?_) #[true, true, true, true, true, true, true, true, true, true, true, true, false, false, false, false, false, false, false, false, false, false, false, false, false, false, false, false] rfl rfl (by kernel_rfl) (fun _ _ _ h => h) (Or.inr ⟨by rfl, rfl⟩) ?_ ?_
    rotate_left
    · simp only [Act.put, List.setIfInBounds_toArray, List.set_cons_zero, List.set_cons_succ, i64_w, i32_w]
      rfl
    refine pure_ (i := 12) (N := some 73) (v := undef) (a' := ?_) #[true, true, true, true, true, true, true, true, true, true, true, true, true, false, false, false, false, false, false, false, false, false, false, false, false, false, false, false] rfl rfl (by kernel_rfl) (fun _ _ _ h => h) (Or.inr ⟨by rfl, rfl⟩) ?_ ?_
    rotate_left
    · simp only [Act.put, List.setIfInBounds_toArray, List.set_cons_zero, List.set_cons_succ, i64_w, i32_w]
      rfl
    refine pure_ (i := 13) (N := some 74) (v := undef) (a' := ?_) #[true, true, true, true, true, true, true, true, true, true, true, true, true, true, false, false, false, false, false, false, false, false, false, false, false, false, false, false] rfl rfl (by kernel_rfl) (fun _ _ _ h => h) (Or.inr ⟨by rfl, rfl⟩) ?_ ?_
    rotate_left
    · simp only [Act.put, List.setIfInBounds_toArray, List.set_cons_zero, List.set_cons_succ, i64_w, i32_w]
      rfl
    refine pure_ (i := 14) (N := some 75) (v := ?_) (a' := ?_) #[true, true, true, true, true, true, true, true, true, true, true, true, true, true, true, false, false, false, false, false, false, false, false, false, false, false, false, false] rfl rfl (by kernel_rfl) (fun _ _ _ h => h) (Or.inl ⟨by rfl, ?_⟩) ?_ ?_
    rotate_left
    · intro w'
      go_simp
      with_reducible rfl
    rotate_left
    · simp only [Act.put, List.setIfInBounds_toArray, List.set_cons_zero, List.set_cons_succ, i64_w, i32_w]
      rfl
    refine pure_ (i := 15) (N := some 76) (v := ?_) (a' := ?_) #[true, true, true, true, true, true, true, true, true, true, true, true, true, true, true, true, false, false, false, false, false, false, false, false, false, false, false, false] rfl rfl (by kernel_rfl) (fun _ _ _ h => h) (Or.inl ⟨by rfl, ?_⟩) ?_ ?_
    rotate_left
    · intro w'
      go_simp
      with_reducible rfl
    rotate_left
    · simp only [Act.put, List.setIfInBounds_toArray, List.set_cons_zero, List.set_cons_succ, i64_w, i32_w]
      rfl
    refine pure_ (i := 16) (N := some 77) (v := undef) (a' := ?_) #[true, true, true, true, true, true, true, true, true, true, true, true, true, true, true, true, true, false, false, false, false, false, false, false, false, false, false, false] rfl rfl (by kernel_rfl) (fun _ _ _ h => h) (Or.inr ⟨by rfl, rfl⟩) ?_ ?_
    rotate_left
    · simp only [Act.put, List.setIfInBounds_toArray, List.set_cons_zero, List.set_cons_succ, i64_w, i32_w]
      rfl
    refine pure_ (i := 17) (N := some 78) (v := undef) (a' := ?_) #[true, true, true, true, true, true, true, true, true, true, true, true, true, true, true, true, true, true, false, false, false, false, false, false, false, false, false, false] rfl rfl (by kernel_rfl) (fun _ _ _ h => h) (Or.inr ⟨by rfl, rfl⟩) ?_ ?_
    rotate_left
    · simp only [Act.put, List.setIfInBounds_toArray, List.set_cons_zero, List.set_cons_succ, i64_w, i32_w]
      rfl
    refine pure_ (i := 18) (N := some 79) (v := undef) (a' := ?_) #[true, true, true, true, true, true, true, true, true, true, true, true, true, true, true, true, true, true, true, false, false, false, false, false, false, false, false, false] rfl rfl (by kernel_rfl) (fun _ _ _ h => h) (Or.inr ⟨by rfl, rfl⟩) ?_ ?_
    rotate_left
    · simp only [Act.put, List.setIfInBounds_toArray, List.set_cons_zero, List.set_cons_succ, i64_w, i32_w]
      rfl
    refine pure_ (i := 19) (N := some 80) (v := undef) (a' := ?_) #[true, true, true, true, true, true, true, true, true, true, true, true, true, true, true, true, true, true, true, true, false, false, false, false, false, false, false, false] rfl rfl (by kernel_rfl) (fun _ _ _ h => h) (Or.inr ⟨by rfl, rfl⟩) ?_ ?_
    rotate_left
    · simp only [Act.put, List.setIfInBounds_toArray, List.set_cons_zero, List.set_cons_succ, i64_w, i32_w]
      rfl
    refine pure_ (i := 20) (N := some 81) (v := undef) (a' := ?_) #[true, true, true, true, true, true, true, true, true, true, true, true, true, true, true, true, true, true, true, true, true, false, false, false, false, false, false, false] rfl rfl (by kernel_rfl) (fun _ _ _ h => h) (Or.inr ⟨by rfl, rfl⟩) ?_ ?_
    rotate_left
    · simp only [Act.put, List.setIfInBounds_toArray, List.set_cons_zero, List.set_cons_succ, i64_w, i32_w]
      rfl
    refine pure_ (i := 21) (N := some 82) (v := undef) (a' := ?_) #[true, true, true, true, true, true, true, true, true, true, true, true, true, true, true, true, true, true, true, true, true, true, false, false, false, false, false, false] rfl rfl (by kernel_rfl) (fun _ _ _ h => h) (Or.inr ⟨by rfl, rfl⟩) ?_ ?_
    rotate_left
    · simp only [Act.put, List.setIfInBounds_toArray, List.set_cons_zero, List.set_cons_succ, i64_w, i32_w]
      rfl
    refine pure_ (i := 22) (N := some 83) (v := undef) (a' := ?_) #[true, true, true, true, true, true, true, true, true, true, true, true, true, true, true, true, true, true, true, true, true, true, true, false, false, false, false, false] rfl rfl (by kernel_rfl) (fun _ _ _ h => h) (Or.inr ⟨by rfl, rfl⟩) ?_ ?_
    rotate_left
    · simp only [Act.put, List.setIfInBounds_toArray, List.set_cons_zero, List.set_cons_succ, i64_w, i32_w]
      rfl
    refine pure_ (i := 23) (N := some 84) (v := undef) (a' := ?_) #[true, true, true, true, true, true, true, true, true, true, true, true, true, true, true, true, true, true, true, true, true, true, true, true, false, false, false, false] rfl rfl (by kernel_rfl) (fun _ _ _ h => h) (Or.inr ⟨by rfl, rfl⟩) ?_ ?_
    rotate_left
    · simp only [Act.put, List.setIfInBounds_toArray, List.set_cons_zero, List.set_cons_succ, i64_w, i32_w]
      rfl
    refine pure_ (i := 24) (N := some 85) (v := undef) (a' := ?_) #[true, true, true, true, true, true, true, true, true, true, true, true, true, true, true, true, true, true, true, true, true, true, true, true, true, false, false, false] rfl rfl (by kernel_rfl) (fun _ _ _ h => h) (Or.inr ⟨by rfl, rfl⟩) ?_ ?_
    rotate_left
    · simp only [Act.put, List.setIfInBounds_toArray, List.set_cons_zero, List.set_cons_succ, i64_w, i32_w]
      rfl
    refine pure_ (i := 25) (N := some 86) (v := undef) (a' := ?_) #[true, true, true, true, true, true, true, true, true, true, true, true, true, true, true, true, true, true, true, true, true, true, true, true, true, true, false, false] rfl rfl (by kernel_rfl) (fun _ _ _ h => h) (Or.inr ⟨by rfl, rfl⟩) ?_ ?_
    rotate_left
    · simp only [Act.put, List.setIfInBounds_toArray, List.set_cons_zero, List.set_cons_succ, i64_w, i32_w]
      rfl
    refine pure_ (i := 26) (N := some 87) (v := ?_) (a' := ?_) #[true, true, true, true, true, true, true, true, true, true, true, true, true, true, true, true, true, true, true, true, true, true, true, true, true, true, true, false] rfl rfl (by kernel_rfl) (fun _ _ _ h => h) (Or.inl ⟨by rfl, ?_⟩) ?_ ?_
    rotate_left
    · intro w'
      go_simp
      with_reducible rfl
    rotate_left
    · simp only [Act.put, List.setIfInBounds_toArray, List.set_cons_zero, List.set_cons_succ, i64_w, i32_w]
      rfl
    refine pure_ (i := 27) (N := some 2) (v := ?_) (a' := ?_) #[true, true, true, true, true, true, true, true, true, true, true, true, true, true, true, true, true, true, true, true, true, true, true, true, true, true, true, true] rfl rfl (by kernel_rfl) (fun _ _ _ h => h) (Or.inl ⟨by rfl, ?_⟩) ?_ ?_
    rotate_left
    · intro w'
      go_simp
      with_reducible rfl
    rotate_left
    · simp only [Act.put, List.setIfInBounds_toArray, List.set_cons_zero, List.set_cons_succ, i64_w, i32_w]
      rfl
    refine done_ (by kernel_rfl) ?_
    go_wp2
    go_ret
    exact ⟨by rw [HDD.out]; rfl, hb.trans (hbR.mono hb.size)⟩
  | true =>
  obtain ⟨m, hm⟩ : ∃ m : Nat, Hid (bytesOf x.f1 x.f2 = (m : Int)) := ⟨(bytesOf x.f1 x.f2).toNat, Lib.hid (by have := bytesOf_nonneg x.f1 x.f2 r0; omega)⟩
  cases b2 : ((x.f3.length : Int) == (m : Int)) with
  | false =>
    have HDD : Hid (listV x = false) := Lib.hid (by rw [HD1c.out, b1, hm.out, b2]; rfl)
    clear HD1c
    go_enter Tryd.func22, Tryd.ntmps22
    go_upto_region 8 with fail
    refine wp_at (fun W1 hW => ?_)
    have hb : Below W.heap.size W W1 := by rw [hW]; exact (Below.refl _ _).alloc (Nat.le_refl _) _
    have hB : W1.heap[W.heap.size]? = some (.cells #[.int .i64 x.f0, .int .i64 x.f1, .int .i64 x.f2, .slice A3 x.f3.length c3, .slice A4 x.f4.length c4] 25 (0, 0)) := by rw [hW]; exact heap_alloc_new _ _
    clear hW
    have l_b := blk_lt hB
    have q0 : W1.cell? ⟨W.heap.size, 0, none⟩ = some (.int .i64 x.f0) := (blk_cell hB 0).trans rfl
    have q1 : W1.cell? ⟨W.heap.size, 1, none⟩ = some (.int .i64 x.f1) := (blk_cell hB 1).trans rfl
    have q2 : W1.cell? ⟨W.heap.size, 2, none⟩ = some (.int .i64 x.f2) := (blk_cell hB 2).trans rfl
    have q3 : W1.cell? ⟨W.heap.size, 3, none⟩ = some (.slice A3 x.f3.length c3) := (blk_cell hB 3).trans rfl
    have q4 : W1.cell? ⟨W.heap.size, 4, none⟩ = some (.slice A4 x.f4.length c4) := (blk_cell hB 4).trans rfl
    clear hB
    refine start_ (n := 28) (S := fun w' => w'.cell? ⟨W.heap.size, 0, none⟩ = some (.int .i64 x.f0) ∧ w'.cell? ⟨W.heap.size, 1, none⟩ = some (.int .i64 x.f1) ∧ w'.cell? ⟨W.heap.size, 2, none⟩ = some (.int .i64 x.f2) ∧ w'.cell? ⟨W.heap.size, 3, none⟩ = some (.slice A3 x.f3.length c3) ∧ w'.cell? ⟨W.heap.size, 4, none⟩ = some (.slice A4 x.f4.length c4)) (ds := []) #[false, false, false, false, false, false, false, false, false, false, false, false, false, false, false, false, false, false, false, false, false, false, false, false, false, false, false, false] (by kernel_rfl) rfl rfl ⟨q0, q1, q2, q3, q4⟩ (fun hHeld => ?_)
    obtain ⟨wd, hwd⟩ : ∃ W', W' = W1.drew := ⟨_, rfl⟩
    rw [← hwd] at hHeld ⊢
    have hbR : Below W1.heap.size W1 wd := by rw [hwd]; exact (Below.refl _ _).drew
    clear hwd
    refine pure_ (i := 0) (N := some 61) (v := ?_) (a' := ?_) #[true, false, false, false, false, false, false, false, false, false, false, false, false, false, false, false, false, false, false, false, false, false, false, false, false, false, false, false] rfl rfl (by kernel_rfl) (fun _ _ _ h => h) (Or.inl ⟨by rfl, ?_⟩) ?_ ?_
    rotate_left
    · intro w'
      go_simp
      with_reducible rfl
    rotate_left
    · simp only [Act.put, List.setIfInBounds_toArray, List.set_cons_zero, List.set_cons_succ, i64_w, i32_w]
      rfl
    refine take_ (i := 1) (N := some 62) (v := ?_) (a' := ?_) #[true, true, false, false, false, false, false, false, false, false, false, false, false, false, false, false, false, false, false, false, false, false, false, false, false, false, false, false] rfl rfl (by kernel_rfl) (fun _ _ _ h => h) (Or.inl ⟨by rfl, ?_⟩) hHeld ?_ ?_
    rotate_left
    · rintro w' ⟨s0, s1, s2, s3, s4⟩
      go_simp
      with_reducible rfl
    rotate_left
    · simp only [Act.put, List.setIfInBounds_toArray, List.set_cons_zero, List.set_cons_succ, i64_w, i32_w]
      rfl
    refine pure_ (i := 2) (N := some 63) (v := ?_) (a' := ?_) #[true, true, true, false, false, false, false, false, false, false, false, false, false, false, false, false, false, false, false, false, false, false, false, false, false, false, false, false] rfl rfl (by kernel_rfl) (fun _ _ _ h => h) (Or.inl ⟨by rfl, ?_⟩) ?_ ?_
    rotate_left
    · intro w'
      go_simp
      with_reducible rfl
    rotate_left
    · simp only [Act.put, List.setIfInBounds_toArray, List.set_cons_zero, List.set_cons_succ, i64_w, i32_w]
      rfl
    refine pure_ (i := 3) (N := some 64) (v := ?_) (a' := ?_) #[true, true, true, true, false, false, false, false, false, false, false, false, false, false, false, false, false, false, false, false, false, false, false, false, false, false, false, false] rfl rfl (by kernel_rfl) (fun _ _ _ h => h) (Or.inl ⟨by rfl, ?_⟩) ?_ ?_
    rotate_left
    · intro w'
      go_simp
      with_reducible rfl
    rotate_left
    · simp only [Act.put, List.setIfInBounds_toArray, List.set_cons_zero, List.set_cons_succ, i64_w, i32_w]
      rfl
    refine pure_ (i := 4) (N := some 65) (v := ?_) (a' := ?_) #[true, true, true, true, true, false, false, false, false, false, false, false, false, false, false, false, false, false, false, false, false, false, false, false, false, false, false, false] rfl rfl (by kernel_rfl) (fun _ _ _ h => h) (Or.inl ⟨by rfl, ?_⟩) ?_ ?_
    rotate_left
    · intro w'
      go_simp
      with_reducible rfl
    rotate_left
    · simp only [Act.put, List.setIfInBounds_toArray, List.set_cons_zero, List.set_cons_succ, i64_w, i32_w]
      rfl
    refine pure_ (i := 5) (N := some 66) (v := ?_) (a' := ?_) #[true, true, true, true, true, true, false, false, false, false, false, false, false, false, false, false, false, false, false, false, false, false, false, false, false, false, false, false] rfl rfl (by kernel_rfl) (fun _ _ _ h => h) (Or.inl ⟨by rfl, ?_⟩) ?_ ?_
    rotate_left
    · intro w'
      go_simp
      with_reducible rfl
    rotate_left
    · simp only [Act.put, List.setIfInBounds_toArray, List.set_cons_zero, List.set_cons_succ, i64_w, i32_w]
      rfl
    refine pure_ (i := 8) (N := some 69) (v := ?_) (a' := ?_) #[true, true, true, true, true, true, false, false, true, false, false, false, false, false, false, false, false, false, false, false, false, false, false, false, false, false, false, false] rfl rfl (by kernel_rfl) (fun _ _ _ h => h) (Or.inl ⟨by rfl, ?_⟩) ?_ ?_
    rotate_left
    · intro w'
      go_simp
      with_reducible rfl
    rotate_left
    · simp only [Act.put, List.setIfInBounds_toArray, List.set_cons_zero, List.set_cons_succ, i64_w, i32_w]
      rfl
    refine pure_ (i := 10) (N := some 71) (v := ?_) (a' := ?_) #[true, true, true, true, true, true, false, false, true, false, true, false, false, false, false, false, false, false, false, false, false, false, false, false, false, false, false, false] rfl rfl (by kernel_rfl) (fun _ _ _ h => h) (Or.inl ⟨by rfl, ?_⟩) ?_ ?_
    rotate_left
    · intro w'
      go_simp
      with_reducible rfl
    rotate_left
    · simp only [Act.put, List.setIfInBounds_toArray, List.set_cons_zero, List.set_cons_succ, i64_w, i32_w]
      rfl
    refine take_ (i := 6) (N := some 67) (v := ?_) (a' := ?_) #[true, true, true, true, true, true, true, false, true, false, true, false, false, false, false, false, false, false, false, false, false, false, false, false, false, false, false, false] rfl rfl (by kernel_rfl) (fun _ _ _ h => h) (Or.inl ⟨by rfl, ?_⟩) hHeld ?_ ?_
    rotate_left
    · rintro w' ⟨s0, s1, s2, s3, s4⟩
      go_simp
      with_reducible rfl
    rotate_left
    · simp only [Act.put, List.setIfInBounds_toArray, List.set_cons_zero, List.set_cons_succ, i64_w, i32_w]
      rfl
    refine pure_ (i := 7) (N := some 68) (v := ?_) (a' := ?_) #[true, true, true, true, true, true, true, true, true, false, true, false, false, false, false, false, false, false, false, false, false, false, false, false, false, false, false, false] rfl rfl (by kernel_rfl) (fun _ _ _ h => h) (Or.inl ⟨by rfl, ?_⟩) ?_ ?_
    rotate_left
    · intro w'
      go_simp
      with_reducible rfl
    rotate_left
    · simp only [Act.put, List.setIfInBounds_toArray, List.set_cons_zero, List.set_cons_succ, i64_w, i32_w]
      rfl
    refine take_ (i := 9) (N := some 70) (v := ?_) (a' := ?_) #[true, true, true, true, true, true, true, true, true, true, true, false, false, false, false, false, false, false, false, false, false, false, false, false, false, false, false, false] rfl rfl (by kernel_rfl) (fun _ _ _ h => h) (Or.inl ⟨by rfl, ?_⟩) hHeld ?_ ?_
    rotate_left
    · rintro w' ⟨s0, s1, s2, s3, s4⟩
      go_simp
      with_reducible rfl
    rotate_left
    · simp only [Act.put, List.setIfInBounds_toArray, List.set_cons_zero, List.set_cons_succ, i64_w, i32_w]
      rfl
    refine take_ (i := 11) (N := some 72) (v := ?_) (a' := ?_) #[true, true, true, true, true, true, true, true, true, true, true, true, false, false, false, false, false, false, false, false, false, false, false, false, false, false, false, false] rfl rfl (by kernel_rfl) (fun _ _ _ h => h) (Or.inl ⟨by rfl, ?_⟩) hHeld ?_ ?_
    rotate_left
    · rintro w' ⟨s0, s1, s2, s3, s4⟩
      go_simp
      with_reducible rfl
    rotate_left
    · simp only [Act.put, List.setIfInBounds_toArray, List.set_cons_zero, List.set_cons_succ, i64_w, i32_w]
      rfl
    refine one_ (i := 12) (N := some 73) #[true, true, true, true, true, true, true, true, true, true, true, true, true, false, false, false, false, false, false, false, false, false, false, false, false, false, false, false] rfl rfl (by kernel_rfl) (by decide) (fun K hK => ?_)
    refine goes_ Tryd.func32 (by kernel_rfl) rfl #[.int .i64 x.f1, .int .i64 x.f2] (by rfl) rfl rfl (by simp only [List.map_toArray, List.map_cons, List.map_nil]; rfl) ?_
    with_reducible refine (Ls.bytes_any x.f1 x.f2 p0 (by omega) r0 (by omega) _ (HT.out.below (hb.trans (hbR.mono hb.size)))).mono ?_
    rintro e r1_ ⟨rfl, rfl⟩
    rw [bytes_same, hm.out]
    refine ⟨_, rfl, ?_⟩
    refine hK.out _ _ ⟨(hbR.cell (p := ⟨W.heap.size, 0, none⟩) l_b).trans q0, (hbR.cell (p := ⟨W.heap.size, 1, none⟩) l_b).trans q1, (hbR.cell (p := ⟨W.heap.size, 2, none⟩) l_b).trans q2, (hbR.cell (p := ⟨W.heap.size, 3, none⟩) l_b).trans q3, (hbR.cell (p := ⟨W.heap.size, 4, none⟩) l_b).trans q4⟩ (fun hHeld => ?_)
    clear hK K
    refine norm_ (a' := ?_) ?_ ?_
    rotate_left
    · show Act.put _ (some 73) _ = _
      simp only [Act.put, List.setIfInBounds_toArray, List.set_cons_zero, List.set_cons_succ, i64_w, i32_w]
      rfl
    refine pure_ (i := 13) (N := some 74) (v := ?_) (a' := ?_) #[true, true, true, true, true, true, true, true, true, true, true, true, true, true, false, false, false, false, false, false, false, false, false, false, false, false, false, false] rfl rfl (by kernel_rfl) (fun _ _ _ h => h) (Or.inl ⟨by rfl, ?_⟩) ?_ ?_
    rotate_left
    · intro w'
      go_simp
      with_reducible rfl
    rotate_left
    · simp only [Act.put, List.setIfInBounds_toArray, List.set_cons_zero, List.set_cons_succ, i64_w, i32_w]
      rfl
    refine pure_ (i := 14) (N := some 75) (v := ?_) (a' := ?_) #[true, true, true, true, true, true, true, true, true, true, true, true, true, true, true, false, false, false, false, false, false, false, false, false, false, false, false, false] rfl rfl (by kernel_rfl) (fun _ _ _ h => h) (Or.inl ⟨by rfl, ?_⟩) ?_ ?_
    rotate_left
    · intro w'
      go_simp
      with_reducible rfl
    rotate_left
    · simp only [Act.put, List.setIfInBounds_toArray, List.set_cons_zero, List.set_cons_succ, i64_w, i32_w]
      rfl
    refine pure_ (i := 15) (N := some 76) (v := ?_) (a' := ?_) #[true, true, true, true, true, true, true, true, true, true, true, true, true, true, true, true, false, false, false, false, false, false, false, false, false, false, false, false] rfl rfl (by kernel_rfl) (fun _ _ _ h => h) (Or.inl ⟨by rfl, ?_⟩) ?_ ?_
    rotate_left
    · intro w'
      go_simp
      with_reducible rfl
    rotate_left
    · simp only [Act.put, List.setIfInBounds_toArray, List.set_cons_zero, List.set_cons_succ, i64_w, i32_w]
      rfl
    refine pure_ (i := 16) (N := some 77) (v := undef) (a' := ?_) #[true, true, true, true, true, true, true, true, true, true, true, true, true, true, true, true, true, false, false, false, false, false, false, false, false, false, false, false] rfl rfl (by kernel_rfl) (fun _ _ _ h => h) (Or.inr ⟨by rfl, rfl⟩) ?_ ?_
    rotate_left
    · simp only [Act.put, List.setIfInBounds_toArray, List.set_cons_zero, List.set_cons_succ, i64_w, i32_w]
      rfl
    refine pure_ (i := 17) (N := some 78) (v := undef) (a' := ?_) #[true, true, true, true, true, true, true, true, true, true, true, true, true, true, true, true, true, true, false, false, false, false, false, false, false, false, false, false] rfl rfl (by kernel_rfl) (fun _ _ _ h => h) (Or.inr ⟨by rfl, rfl⟩) ?_ ?_
    rotate_left
    · simp only [Act.put, List.setIfInBounds_toArray, List.set_cons_zero, List.set_cons_succ, i64_w, i32_w]
      rfl
    refine pure_ (i := 18) (N := some 79) (v := undef) (a' := ?_) #[true, true, true, true, true, true, true, true, true, true, true, true, true, true, true, true, true, true, true, false, false, false, false, false, false, false, false, false] rfl rfl (by kernel_rfl) (fun _ _ _ h => h) (Or.inr ⟨by rfl, rfl⟩) ?_ ?_
    rotate_left
    · simp only [Act.put, List.setIfInBounds_toArray, List.set_cons_zero, List.set_cons_succ, i64_w, i32_w]
      rfl
    refine pure_ (i := 19) (N := some 80) (v := undef) (a' := ?_) #[true, true, true, true, true, true, true, true, true, true, true, true, true, true, true, true, true, true, true, true, false, false, false, false, false, false, false, false] rfl rfl (by kernel_rfl) (fun _ _ _ h => h) (Or.inr ⟨by rfl, rfl⟩) ?_ ?_
    rotate_left
    · simp only [Act.put, List.setIfInBounds_toArray, List.set_cons_zero, List.set_cons_succ, i64_w, i32_w]
      rfl
    refine pure_ (i := 20) (N := some 81) (v := undef) (a' := ?_) #[true, true, true, true, true, true, true, true, true, true, true, true, true, true, true, true, true, true, true, true, true, false, false, false, false, false, false, false] rfl rfl (by kernel_rfl) (fun _ _ _ h => h) (Or.inr ⟨by rfl, rfl⟩) ?_ ?_
    rotate_left
    · simp only [Act.put, List.setIfInBounds_toArray, List.set_cons_zero, List.set_cons_succ, i64_w, i32_w]
      rfl
    refine pure_ (i := 21) (N := some 82) (v := undef) (a' := ?_) #[true, true, true, true, true, true, true, true, true, true, true, true, true, true, true, true, true, true, true, true, true, true, false, false, false, false, false, false] rfl rfl (by kernel_rfl) (fun _ _ _ h => h) (Or.inr ⟨by rfl, rfl⟩) ?_ ?_
    rotate_left
    · simp only [Act.put, List.setIfInBounds_toArray, List.set_cons_zero, List.set_cons_succ, i64_w, i32_w]
      rfl
    refine pure_ (i := 22) (N := some 83) (v := undef) (a' := ?_) #[true, true, true, true, true, true, true, true, true, true, true, true, true, true, true, true, true, true, true, true, true, true, true, false, false, false, false, false] rfl rfl (by kernel_rfl) (fun _ _ _ h => h) (Or.inr ⟨by rfl, rfl⟩) ?_ ?_
    rotate_left
    · simp only [Act.put, List.setIfInBounds_toArray, List.set_cons_zero, List.set_cons_succ, i64_w, i32_w]
      rfl
    refine pure_ (i := 23) (N := some 84) (v := undef) (a' := ?_) #[true, true, true, true, true, true, true, true, true, true, true, true, true, true, true, true, true, true, true, true, true, true, true, true, false, false, false, false] rfl rfl (by kernel_rfl) (fun _ _ _ h => h) (Or.inr ⟨by rfl, rfl⟩) ?_ ?_
    rotate_left
    · simp only [Act.put, List.setIfInBounds_toArray, List.set_cons_zero, List.set_cons_succ, i64_w, i32_w]
      rfl
    refine pure_ (i := 24) (N := some 85) (v := undef) (a' := ?_) #[true, true, true, true, true, true, true, true, true, true, true, true, true, true, true, true, true, true, true, true, true, true, true, true, true, false, false, false] rfl rfl (by kernel_rfl) (fun _ _ _ h => h) (Or.inr ⟨by rfl, rfl⟩) ?_ ?_
    rotate_left
    · simp only [Act.put, List.setIfInBounds_toArray, List.set_cons_zero, List.set_cons_succ, i64_w, i32_w]
      rfl
    refine pure_ (i := 25) (N := some 86) (v := undef) (a' := ?_) #[true, true, true, true, true, true, true, true, true, true, true, true, true, true, true, true, true, true, true, true, true, true, true, true, true, true, false, false] rfl rfl (by kernel_rfl) (fun _ _ _ h => h) (Or.inr ⟨by rfl, rfl⟩) ?_ ?_
    rotate_left
    · simp only [Act.put, List.setIfInBounds_toArray, List.set_cons_zero, List.set_cons_succ, i64_w, i32_w]
      rfl
    refine pure_ (i := 26) (N := some 87) (v := ?_) (a' := ?_) #[true, true, true, true, true, true, true, true, true, true, true, true, true, true, true, true, true, true, true, true, true, true, true, true, true, true, true, false] rfl rfl (by kernel_rfl) (fun _ _ _ h => h) (Or.inl ⟨by rfl, ?_⟩) ?_ ?_
    rotate_left
    · intro w'
      go_simp
      with_reducible rfl
    rotate_left
    · simp only [Act.put, List.setIfInBounds_toArray, List.set_cons_zero, List.set_cons_succ, i64_w, i32_w]
      rfl
    refine pure_ (i := 27) (N := some 2) (v := ?_) (a' := ?_) #[true, true, true, true, true, true, true, true, true, true, true, true, true, true, true, true, true, true, true, true, true, true, true, true, true, true, true, true] rfl rfl (by kernel_rfl) (fun _ _ _ h => h) (Or.inl ⟨by rfl, ?_⟩) ?_ ?_
    rotate_left
    · intro w'
      go_simp
      with_reducible rfl
    rotate_left
    · simp only [Act.put, List.setIfInBounds_toArray, List.set_cons_zero, List.set_cons_succ, i64_w, i32_w]
      rfl
    refine done_ (by kernel_rfl) ?_
    go_wp2
    go_ret
    exact ⟨by rw [HDD.out]; rfl, hb.trans (hbR.mono hb.size)⟩
  | true =>
    have hmx : m = x.f3.length := by have := beq_iff_eq.1 b2; omega
    have hmx' := Lib.hid hmx
    have HDD : Hid (listV x = decide (rL x.f1 x.f2 x.f3 x.f3.length = x.f3)) := Lib.hid (by rw [HD1c.out, b1, hm.out, b2]; rfl)
    clear HD1c hmx
    have hA : A3 = none → x.f3.length = 0 := fun h => by
      rcases Nat.eq_zero_or_pos x.f3.length with h0 | h0
      · exact h0
      · obtain ⟨ad, e, _⟩ := H3.out.2.2 h0
        rw [h] at e
        cases e
    have hbnd : x.f3.length ≤ 140737488355328 := by have := bytesOf_le x.f1 x.f2 r0 (by omega); have := hm.out; have := hmx'.out; omega
    have hlst : Ls.trimL x.f1 x.f2 x.f3 = rL x.f1 x.f2 x.f3 x.f3.length := (rL_eq x.f1 x.f2 p0 p5 r0 x.f3 x.f3.length (by have := hm.out; have := hmx'.out; omega) (Nat.le_refl _)).symm
    obtain ⟨ys, hys⟩ : ∃ ys, rL x.f1 x.f2 x.f3 x.f3.length = ys := ⟨_, rfl⟩
    have hyl : ys.length = x.f3.length := by rw [← hys]; exact rL_length _ _ _ _
    have hyr : ∀ y ∈ ys, 0 ≤ y ∧ y ≤ 255 := by rw [← hys]; exact rL_range HX.out (Nat.le_refl _)
    have HLS := Lib.hid (hlst.trans hys)
    have HDY : Hid (listV x = decide (ys = x.f3)) := Lib.hid (by rw [HDD.out, hys])
    have HYL := Lib.hid hyl; have HYR := Lib.hid hyr
    clear HDD hlst hys hyl hyr
    go_enter Tryd.func22, Tryd.ntmps22
    go_upto_region 8 with fail
    refine wp_at (fun W1 hW => ?_)
    have hb : Below W.heap.size W W1 := by rw [hW]; exact (Below.refl _ _).alloc (Nat.le_refl _) _
    have hB : W1.heap[W.heap.size]? = some (.cells #[.int .i64 x.f0, .int .i64 x.f1, .int .i64 x.f2, .slice A3 x.f3.length c3, .slice A4 x.f4.length c4] 25 (0, 0)) := by rw [hW]; exact heap_alloc_new _ _
    clear hW
    have l_b := blk_lt hB
    have q0 : W1.cell? ⟨W.heap.size, 0, none⟩ = some (.int .i64 x.f0) := (blk_cell hB 0).trans rfl
    have q1 : W1.cell? ⟨W.heap.size, 1, none⟩ = some (.int .i64 x.f1) := (blk_cell hB 1).trans rfl
    have q2 : W1.cell? ⟨W.heap.size, 2, none⟩ = some (.int .i64 x.f2) := (blk_cell hB 2).trans rfl
    have q3 : W1.cell? ⟨W.heap.size, 3, none⟩ = some (.slice A3 x.f3.length c3) := (blk_cell hB 3).trans rfl
    have q4 : W1.cell? ⟨W.heap.size, 4, none⟩ = some (.slice A4 x.f4.length c4) := (blk_cell hB 4).trans rfl
    clear hB
    have HRd := Lib.hid (Rd_of_C H3.out HX.out)
    refine start_ (n := 28) (S := fun w' => w'.cell? ⟨W.heap.size, 0, none⟩ = some (.int .i64 x.f0) ∧ w'.cell? ⟨W.heap.size, 1, none⟩ = some (.int .i64 x.f1) ∧ w'.cell? ⟨W.heap.size, 2, none⟩ = some (.int .i64 x.f2) ∧ w'.cell? ⟨W.heap.size, 3, none⟩ = some (.slice A3 x.f3.length c3) ∧ w'.cell? ⟨W.heap.size, 4, none⟩ = some (.slice A4 x.f4.length c4)) (ds := []) #[false, false, false, false, false, false, false, false, false, false, false, false, false, false, false, false, false, false, false, false, false, false, false, false, false, false, false, false] (by kernel_rfl) rfl rfl ⟨q0, q1, q2, q3, q4⟩ (fun hHeld => ?_)
    obtain ⟨wd, hwd⟩ : ∃ W', W' = W1.drew := ⟨_, rfl⟩
    rw [← hwd] at hHeld ⊢
    have hbR : Below W1.heap.size W1 wd := by rw [hwd]; exact (Below.refl _ _).drew
    clear hwd
    refine pure_ (i := 0) (N := some 61) (v := ?_) (a' := ?_) #[true, false, false, false, false, false, false, false, false, false, false, false, false, false, false, false, false, false, false, false, false, false, false, false, false, false, false, false] rfl rfl (by kernel_rfl) (fun _ _ _ h => h) (Or.inl ⟨by rfl, ?_⟩) ?_ ?_
    rotate_left
    · intro w'
      go_simp
      with_reducible rfl
    rotate_left
    · simp only [Act.put, List.setIfInBounds_toArray, List.set_cons_zero, List.set_cons_succ, i64_w, i32_w]
      rfl
    refine take_ (i := 1) (N := some 62) (v := ?_) (a' := ?_) #[true, true, false, false, false, false, false, false, false, false, false, false, false, false, false, false, false, false, false, false, false, false, false, false, false, false, false, false] rfl rfl (by kernel_rfl) (fun _ _ _ h => h) (Or.inl ⟨by rfl, ?_⟩) hHeld ?_ ?_
    rotate_left
    · rintro w' ⟨s0, s1, s2, s3, s4⟩
      go_simp
      with_reducible rfl
    rotate_left
    · simp only [Act.put, List.setIfInBounds_toArray, List.set_cons_zero, List.set_cons_succ, i64_w, i32_w]
      rfl
    refine pure_ (i := 2) (N := some 63) (v := ?_) (a' := ?_) #[true, true, true, false, false, false, false, false, false, false, false, false, false, false, false, false, false, false, false, false, false, false, false, false, false, false, false, false] rfl rfl (by kernel_rfl) (fun _ _ _ h => h) (Or.inl ⟨by rfl, ?_⟩) ?_ ?_
    rotate_left
    · intro w'
      go_simp
      with_reducible rfl
    rotate_left
    · simp only [Act.put, List.setIfInBounds_toArray, List.set_cons_zero, List.set_cons_succ, i64_w, i32_w]
      rfl
    refine pure_ (i := 3) (N := some 64) (v := ?_) (a' := ?_) #[true, true, true, true, false, false, false, false, false, false, false, false, false, false, false, false, false, false, false, false, false, false, false, false, false, false, false, false] rfl rfl (by kernel_rfl) (fun _ _ _ h => h) (Or.inl ⟨by rfl, ?_⟩) ?_ ?_
    rotate_left
    · intro w'
      go_simp
      with_reducible rfl
    rotate_left
    · simp only [Act.put, List.setIfInBounds_toArray, List.set_cons_zero, List.set_cons_succ, i64_w, i32_w]
      rfl
    refine pure_ (i := 4) (N := some 65) (v := ?_) (a' := ?_) #[true, true, true, true, true, false, false, false, false, false, false, false, false, false, false, false, false, false, false, false, false, false, false, false, false, false, false, false] rfl rfl (by kernel_rfl) (fun _ _ _ h => h) (Or.inl ⟨by rfl, ?_⟩) ?_ ?_
    rotate_left
    · intro w'
      go_simp
      with_reducible rfl
    rotate_left
    · simp only [Act.put, List.setIfInBounds_toArray, List.set_cons_zero, List.set_cons_succ, i64_w, i32_w]
      rfl
    refine pure_ (i := 5) (N := some 66) (v := ?_) (a' := ?_) #[true, true, true, true, true, true, false, false, false, false, false, false, false, false, false, false, false, false, false, false, false, false, false, false, false, false, false, false] rfl rfl (by kernel_rfl) (fun _ _ _ h => h) (Or.inl ⟨by rfl, ?_⟩) ?_ ?_
    rotate_left
    · intro w'
      go_simp
      with_reducible rfl
    rotate_left
    · simp only [Act.put, List.setIfInBounds_toArray, List.set_cons_zero, List.set_cons_succ, i64_w, i32_w]
      rfl
    refine pure_ (i := 8) (N := some 69) (v := ?_) (a' := ?_) #[true, true, true, true, true, true, false, false, true, false, false, false, false, false, false, false, false, false, false, false, false, false, false, false, false, false, false, false] rfl rfl (by kernel_rfl) (fun _ _ _ h => h) (Or.inl ⟨by rfl, ?_⟩) ?_ ?_
    rotate_left
    · intro w'
      go_simp
      with_reducible rfl
    rotate_left
    · simp only [Act.put, List.setIfInBounds_toArray, List.set_cons_zero, List.set_cons_succ, i64_w, i32_w]
      rfl
    refine pure_ (i := 10) (N := some 71) (v := ?_) (a' := ?_) #[true, true, true, true, true, true, false, false, true, false, true, false, false, false, false, false, false, false, false, false, false, false, false, false, false, false, false, false] rfl rfl (by kernel_rfl) (fun _ _ _ h => h) (Or.inl ⟨by rfl, ?_⟩) ?_ ?_
    rotate_left
    · intro w'
      go_simp
      with_reducible rfl
    rotate_left
    · simp only [Act.put, List.setIfInBounds_toArray, List.set_cons_zero, List.set_cons_succ, i64_w, i32_w]
      rfl
    refine take_ (i := 6) (N := some 67) (v := ?_) (a' := ?_) #[true, true, true, true, true, true, true, false, true, false, true, false, false, false, false, false, false, false, false, false, false, false, false, false, false, false, false, false] rfl rfl (by kernel_rfl) (fun _ _ _ h => h) (Or.inl ⟨by rfl, ?_⟩) hHeld ?_ ?_
    rotate_left
    · rintro w' ⟨s0, s1, s2, s3, s4⟩
      go_simp
      with_reducible rfl
    rotate_left
    · simp only [Act.put, List.setIfInBounds_toArray, List.set_cons_zero, List.set_cons_succ, i64_w, i32_w]
      rfl
    refine pure_ (i := 7) (N := some 68) (v := ?_) (a' := ?_) #[true, true, true, true, true, true, true, true, true, false, true, false, false, false, false, false, false, false, false, false, false, false, false, false, false, false, false, false] rfl rfl (by kernel_rfl) (fun _ _ _ h => h) (Or.inl ⟨by rfl, ?_⟩) ?_ ?_
    rotate_left
    · intro w'
      go_simp
      with_reducible rfl
    rotate_left
    · simp only [Act.put, List.setIfInBounds_toArray, List.set_cons_zero, List.set_cons_succ, i64_w, i32_w]
      rfl
    refine take_ (i := 9) (N := some 70) (v := ?_) (a' := ?_) #[true, true, true, true, true, true, true, true, true, true, true, false, false, false, false, false, false, false, false, false, false, false, false, false, false, false, false, false] rfl rfl (by kernel_rfl) (fun _ _ _ h => h) (Or.inl ⟨by rfl, ?_⟩) hHeld ?_ ?_
    rotate_left
    · rintro w' ⟨s0, s1, s2, s3, s4⟩
      go_simp
      with_reducible rfl
    rotate_left
    · simp only [Act.put, List.setIfInBounds_toArray, List.set_cons_zero, List.set_cons_succ, i64_w, i32_w]
      rfl
    refine take_ (i := 11) (N := some 72) (v := ?_) (a' := ?_) #[true, true, true, true, true, true, true, true, true, true, true, true, false, false, false, false, false, false, false, false, false, false, false, false, false, false, false, false] rfl rfl (by kernel_rfl) (fun _ _ _ h => h) (Or.inl ⟨by rfl, ?_⟩) hHeld ?_ ?_
    rotate_left
    · rintro w' ⟨s0, s1, s2, s3, s4⟩
      go_simp
      with_reducible rfl
    rotate_left
    · simp only [Act.put, List.setIfInBounds_toArray, List.set_cons_zero, List.set_cons_succ, i64_w, i32_w]
      rfl
    refine one_ (i := 12) (N := some 73) #[true, true, true, true, true, true, true, true, true, true, true, true, true, false, false, false, false, false, false, false, false, false, false, false, false, false, false, false] rfl rfl (by kernel_rfl) (by decide) (fun K hK => ?_)
    refine goes_ Tryd.func32 (by kernel_rfl) rfl #[.int .i64 x.f1, .int .i64 x.f2] (by rfl) rfl rfl (by simp only [List.map_toArray, List.map_cons, List.map_nil]; rfl) ?_
    with_reducible refine (Ls.bytes_any x.f1 x.f2 p0 (by omega) r0 (by omega) _ (HT.out.below (hb.trans (hbR.mono hb.size)))).mono ?_
    rintro e r1_ ⟨rfl, rfl⟩
    rw [bytes_same, hm.out]
    refine ⟨_, rfl, ?_⟩
    refine hK.out _ _ ⟨(hbR.cell (p := ⟨W.heap.size, 0, none⟩) l_b).trans q0, (hbR.cell (p := ⟨W.heap.size, 1, none⟩) l_b).trans q1, (hbR.cell (p := ⟨W.heap.size, 2, none⟩) l_b).trans q2, (hbR.cell (p := ⟨W.heap.size, 3, none⟩) l_b).trans q3, (hbR.cell (p := ⟨W.heap.size, 4, none⟩) l_b).trans q4⟩ (fun hHeld => ?_)
    clear hK K
    refine norm_ (a' := ?_) ?_ ?_
    rotate_left
    · show Act.put _ (some 73) _ = _
      simp only [Act.put, List.setIfInBounds_toArray, List.set_cons_zero, List.set_cons_succ, i64_w, i32_w]
      rfl
    refine pure_ (i := 13) (N := some 74) (v := ?_) (a' := ?_) #[true, true, true, true, true, true, true, true, true, true, true, true, true, true, false, false, false, false, false, false, false, false, false, false, false, false, false, false] rfl rfl (by kernel_rfl) (fun _ _ _ h => h) (Or.inl ⟨by rfl, ?_⟩) ?_ ?_
    rotate_left
    · intro w'
      go_simp
      with_reducible rfl
    rotate_left
    · simp only [Act.put, List.setIfInBounds_toArray, List.set_cons_zero, List.set_cons_succ, i64_w, i32_w]
      rfl
    refine pure_ (i := 14) (N := some 75) (v := ?_) (a' := ?_) #[true, true, true, true, true, true, true, true, true, true, true, true, true, true, true, false, false, false, false, false, false, false, false, false, false, false, false, false] rfl rfl (by kernel_rfl) (fun _ _ _ h => h) (Or.inl ⟨by rfl, ?_⟩) ?_ ?_
    rotate_left
    · intro w'
      go_simp
      with_reducible rfl
    rotate_left
    · simp only [Act.put, List.setIfInBounds_toArray, List.set_cons_zero, List.set_cons_succ, i64_w, i32_w]
      rfl
    refine pure_ (i := 15) (N := some 76) (v := ?_) (a' := ?_) #[true, true, true, true, true, true, true, true, true, true, true, true, true, true, true, true, false, false, false, false, false, false, false, false, false, false, false, false] rfl rfl (by kernel_rfl) (fun _ _ _ h => h) (Or.inl ⟨by rfl, ?_⟩) ?_ ?_
    rotate_left
    · intro w'
      go_simp
      with_reducible rfl
    rotate_left
    · simp only [Act.put, List.setIfInBounds_toArray, List.set_cons_zero, List.set_cons_succ, i64_w, i32_w]
      rfl
    refine pure_ (i := 16) (N := some 77) (v := ?_) (a' := ?_) #[true, true, true, true, true, true, true, true, true, true, true, true, true, true, true, true, true, false, false, false, false, false, false, false, false, false, false, false] rfl rfl (by kernel_rfl) (fun _ _ _ h => h) (Or.inl ⟨by rfl, ?_⟩) ?_ ?_
    rotate_left
    · intro w'
      go_simp
      with_reducible rfl
    rotate_left
    · simp only [Act.put, List.setIfInBounds_toArray, List.set_cons_zero, List.set_cons_succ, i64_w, i32_w]
      rfl
    refine pure_ (i := 18) (N := some 79) (v := ?_) (a' := ?_) #[true, true, true, true, true, true, true, true, true, true, true, true, true, true, true, true, true, false, true, false, false, false, false, false, false, false, false, false] rfl rfl (by kernel_rfl) (fun _ _ _ h => h) (Or.inl ⟨by rfl, ?_⟩) ?_ ?_
    rotate_left
    · intro w'
      go_simp
      with_reducible rfl
    rotate_left
    · simp only [Act.put, List.setIfInBounds_toArray, List.set_cons_zero, List.set_cons_succ, i64_w, i32_w]
      rfl
    refine pure_ (i := 20) (N := some 81) (v := ?_) (a' := ?_) #[true, true, true, true, true, true, true, true, true, true, true, true, true, true, true, true, true, false, true, false, true, false, false, false, false, false, false, false] rfl rfl (by kernel_rfl) (fun _ _ _ h => h) (Or.inl ⟨by rfl, ?_⟩) ?_ ?_
    rotate_left
    · intro w'
      go_simp
      with_reducible rfl
    rotate_left
    · simp only [Act.put, List.setIfInBounds_toArray, List.set_cons_zero, List.set_cons_succ, i64_w, i32_w]
      rfl
    refine pure_ (i := 23) (N := some 84) (v := ?_) (a' := ?_) #[true, true, true, true, true, true, true, true, true, true, true, true, true, true, true, true, true, false, true, false, true, false, false, true, false, false, false, false] rfl rfl (by kernel_rfl) (fun _ _ _ h => h) (Or.inl ⟨by rfl, ?_⟩) ?_ ?_
    rotate_left
    · intro w'
      go_simp
      with_reducible rfl
    rotate_left
    · simp only [Act.put, List.setIfInBounds_toArray, List.set_cons_zero, List.set_cons_succ, i64_w, i32_w]
      rfl
    refine take_ (i := 17) (N := some 78) (v := ?_) (a' := ?_) #[true, true, true, true, true, true, true, true, true, true, true, true, true, true, true, true, true, true, true, false, true, false, false, true, false, false, false, false] rfl rfl (by kernel_rfl) (fun _ _ _ h => h) (Or.inl ⟨by rfl, ?_⟩) hHeld ?_ ?_
    rotate_left
    · rintro w' ⟨s0, s1, s2, s3, s4⟩
      go_simp
      with_reducible rfl
    rotate_left
    · simp only [Act.put, List.setIfInBounds_toArray, List.set_cons_zero, List.set_cons_succ, i64_w, i32_w]
      rfl
    refine take_ (i := 19) (N := some 80) (v := ?_) (a' := ?_) #[true, true, true, true, true, true, true, true, true, true, true, true, true, true, true, true, true, true, true, true, true, false, false, true, false, false, false, false] rfl rfl (by kernel_rfl) (fun _ _ _ h => h) (Or.inl ⟨by rfl, ?_⟩) hHeld ?_ ?_
    rotate_left
    · rintro w' ⟨s0, s1, s2, s3, s4⟩
      go_simp
      with_reducible rfl
    rotate_left
    · simp only [Act.put, List.setIfInBounds_toArray, List.set_cons_zero, List.set_cons_succ, i64_w, i32_w]
      rfl
    refine take_ (i := 21) (N := some 82) (v := ?_) (a' := ?_) #[true, true, true, true, true, true, true, true, true, true, true, true, true, true, true, true, true, true, true, true, true, true, false, true, false, false, false, false] rfl rfl (by kernel_rfl) (fun _ _ _ h => h) (Or.inl ⟨by rfl, ?_⟩) hHeld ?_ ?_
    rotate_left
    · rintro w' ⟨s0, s1, s2, s3, s4⟩
      go_simp
      with_reducible rfl
    rotate_left
    · simp only [Act.put, List.setIfInBounds_toArray, List.set_cons_zero, List.set_cons_succ, i64_w, i32_w]
      rfl
    refine take_ (i := 24) (N := some 85) (v := ?_) (a' := ?_) #[true, true, true, true, true, true, true, true, true, true, true, true, true, true, true, true, true, true, true, true, true, true, false, true, true, false, false, false] rfl rfl (by kernel_rfl) (fun _ _ _ h => h) (Or.inl ⟨by rfl, ?_⟩) hHeld ?_ ?_
    rotate_left
    · rintro w' ⟨s0, s1, s2, s3, s4⟩
      go_simp
      with_reducible rfl
    rotate_left
    · simp only [Act.put, List.setIfInBounds_toArray, List.set_cons_zero, List.set_cons_succ, i64_w, i32_w]
      rfl
    refine one_ (i := 22) (N := some 83) #[true, true, true, true, true, true, true, true, true, true, true, true, true, true, true, true, true, true, true, true, true, true, true, true, true, false, false, false] rfl rfl (by kernel_rfl) (by decide) (fun K hK => ?_)
    refine goes_ Tryd.func33 (by kernel_rfl) rfl #[.int .i64 x.f1, .int .i64 x.f2, .slice A3 x.f3.length c3] (by rfl) rfl rfl (by simp only [List.map_toArray, List.map_cons, List.map_nil]; rfl) ?_
    with_reducible refine (Ls.trim_any x.f1 x.f2 p0 p5 r0 (by omega) A3 x.f3.length c3 x.f3 _ (HT.out.below (hb.trans (hbR.mono hb.size))) hbnd hA l3 (HRd.out.below (hb.trans (hbR.mono hb.size))) x.f3.length (by rw [bytes_same, hm.out, hmx'.out]) (Nat.le_refl _)).mono ?_
    rintro e r2_ ⟨⟨v, rfl, hown⟩, hb2⟩
    rw [HLS.out] at hown
    obtain ⟨B3, d3, rfl, hd3, hC⟩ := own_reads hown HYL.out
    replace hbR := hbR.trans (hb2.mono hbR.size)
    have HC := Lib.hid hC
    clear hC hown hb2
    refine ⟨_, rfl, ?_⟩
    refine hK.out _ _ ⟨(hbR.cell (p := ⟨W.heap.size, 0, none⟩) l_b).trans q0, (hbR.cell (p := ⟨W.heap.size, 1, none⟩) l_b).trans q1, (hbR.cell (p := ⟨W.heap.size, 2, none⟩) l_b).trans q2, (hbR.cell (p := ⟨W.heap.size, 3, none⟩) l_b).trans q3, (hbR.cell (p := ⟨W.heap.size, 4, none⟩) l_b).trans q4⟩ (fun hHeld => ?_)
    clear hK K
    refine norm_ (a' := ?_) ?_ ?_
    rotate_left
    · show Act.put _ (some 83) _ = _
      simp only [Act.put, List.setIfInBounds_toArray, List.set_cons_zero, List.set_cons_succ, i64_w, i32_w]
      rfl
    refine one_ (i := 25) (N := some 86) #[true, true, true, true, true, true, true, true, true, true, true, true, true, true, true, true, true, true, true, true, true, true, true, true, true, true, false, false] rfl rfl (by kernel_rfl) (by decide) (fun K hK => ?_)
    refine goes_ Tryd.func26 (by kernel_rfl) rfl #[.slice B3 ys.length d3, .slice A3 x.f3.length c3] (by rfl) rfl rfl (by simp only [List.map_toArray, List.map_cons, List.map_nil]; rfl) ?_
    with_reducible refine (bytes_Equal.calls B3 d3 ys A3 c3 x.f3 (decide (ys = x.f3)) _ HC.out hd3 (Kd.C_below H3.out (hb.trans (hbR.mono hb.size))) l3 (by unfold bytes_Equal.f; rw [same_bytes HYR.out HX.out])).mono ?_
    rintro e r3_ ⟨rfl, hb3⟩
    replace hbR := hbR.trans (hb3.below.mono hbR.size)
    clear hb3
    refine ⟨_, rfl, ?_⟩
    refine hK.out _ _ ⟨(hbR.cell (p := ⟨W.heap.size, 0, none⟩) l_b).trans q0, (hbR.cell (p := ⟨W.heap.size, 1, none⟩) l_b).trans q1, (hbR.cell (p := ⟨W.heap.size, 2, none⟩) l_b).trans q2, (hbR.cell (p := ⟨W.heap.size, 3, none⟩) l_b).trans q3, (hbR.cell (p := ⟨W.heap.size, 4, none⟩) l_b).trans q4⟩ (fun hHeld => ?_)
    clear hK K
    refine norm_ (a' := ?_) ?_ ?_
    rotate_left
    · show Act.put _ (some 86) _ = _
      simp only [Act.put, List.setIfInBounds_toArray, List.set_cons_zero, List.set_cons_succ, i64_w, i32_w]
      rfl
    refine pure_ (i := 26) (N := some 87) (v := ?_) (a' := ?_) #[true, true, true, true, true, true, true, true, true, true, true, true, true, true, true, true, true, true, true, true, true, true, true, true, true, true, true, false] rfl rfl (by kernel_rfl) (fun _ _ _ h => h) (Or.inl ⟨by rfl, ?_⟩) ?_ ?_
    rotate_left
    · intro w'
      go_simp
      with_reducible rfl
    rotate_left
    · simp only [Act.put, List.setIfInBounds_toArray, List.set_cons_zero, List.set_cons_succ, i64_w, i32_w]
      rfl
    refine pure_ (i := 27) (N := some 2) (v := ?_) (a' := ?_) #[true, true, true, true, true, true, true, true, true, true, true, true, true, true, true, true, true, true, true, true, true, true, true, true, true, true, true, true] rfl rfl (by kernel_rfl) (fun _ _ _ h => h) (Or.inl ⟨by rfl, ?_⟩) ?_ ?_
    rotate_left
    · intro w'
      go_simp
      with_reducible rfl
    rotate_left
    · simp only [Act.put, List.setIfInBounds_toArray, List.set_cons_zero, List.set_cons_succ, i64_w, i32_w]
      rfl
    refine done_ (by kernel_rfl) ?_
    go_wp2
    go_ret
    exact ⟨by rw [HDY.out]; rfl, hb.trans (hbR.mono hb.size)⟩
end Go.Proofs.YtmbockhcmhghlaaDoor.Pr
end
section
namespace Go.Proofs.YtmbockhcmhghlaaDoor.Pr
open Go.RowKit Go.Proofs.YtmbockhcmhghlaaDoorW.PrintWords Go.Proofs.YtmbockhcmhghlaaDoorW.PrintLast Go.Proofs.YtmbockhcmhghlaaDoorW.PrintMore
set_option linter.unusedVariables false
set_option linter.unusedSimpArgs false
theorem tvalids_false : ∀ l : List S25, tvalids false l = l.all tvalid
  | [] => rfl
  | x :: l => by simp [tvalids, tvalids_false l]
theorem tvalids_true : ∀ l : List S25, tvalids true l = l.all (fun k => tvalid k && (k.f0 == 1))
  | [] => rfl
  | x :: l => by simp [tvalids, tvalids_true l, bne]
theorem tvalid_struct (x : S25) (h : x.f0 = 1) : tvalid x = structV x := by
  rw [tvalid_eq]
  unfold topV structV
  rw [h, if_neg (by decide), if_pos rfl]
  simp only [show ((1 : Int) == 2) = false from rfl, Bool.false_and, tvalids_false]
  cases x.f4.all tvalid <;> simp
theorem elem_same (k : S25) : elemV k = (tvalid k && (k.f0 == 1)) := by
  unfold elemV
  by_cases h : k.f0 = 1
  · rw [tvalid_struct k h, h]; cases structV k <;> rfl
  · have : (k.f0 == 1) = false := beq_eq_false_iff_ne.2 h
    rw [this]; simp
theorem all_elem (l : List S25) : l.all elemV = tvalids true l := by
  rw [tvalids_true]
  congr 1
  funext k
  exact elem_same k
theorem tvalid_list (x : S25) (h : x.f0 = 2) : tvalid x = listV x := by
  rw [tvalid_eq]
  unfold topV listV
  rw [h, if_neg (by decide), if_neg (by decide), if_pos rfl]
  by_cases hb : x.f2 < 0 ∨ 536870911 < x.f2 ∨ x.f1 < 0 ∨ 7 < x.f1
  · rw [if_pos hb, if_pos hb]; simp
  · rw [if_neg hb, if_neg hb]
    by_cases h6 : x.f1 = 6
    · rw [if_pos h6, if_pos (by omega), h6]
      rw [show ((2 : Int) == 2 && (6 : Int) == 7) = false from rfl, tvalids_false]
      cases x.f4.all tvalid <;> simp
    · rw [if_neg h6]
      by_cases h7 : x.f1 = 7
      · rw [if_pos h7, if_pos (by omega), h7]
        rw [show ((2 : Int) == 2 && (7 : Int) == 7) = true from rfl, ← all_elem]
        cases x.f4.all elemV <;> simp
      · have e7 : (x.f1 == 7) = false := beq_eq_false_iff_ne.2 h7
        rw [if_neg h7, if_neg (by omega), e7, Bool.and_false, tvalids_false]
        by_cases h4 : x.f4.length = 0
        · have e4 : ((x.f4.length : Int) == 0) = true := by rw [beq_iff_eq]; omega
          have e5 : x.f4.all tvalid = true := by rw [List.length_eq_zero_iff.1 h4]; rfl
          rw [e4, e5]
          by_cases h3 : (x.f3.length : Int) = bytesOf x.f1 x.f2
          · rw [if_neg (by rintro (h | h); exact h h4; exact h h3), beq_iff_eq.2 h3]; rfl
          · rw [if_pos (.inr h3), beq_eq_false_iff_ne.2 h3]; rfl
        · have e4 : ((x.f4.length : Int) == 0) = false := by rw [beq_eq_false_iff_ne]; omega
          rw [e4, if_pos (.inl h4)]; simp
theorem tvalid_null (x : S25) (h : x.f0 = 0) : tvalid x = ((x.f1 == 0) && ((x.f2 == 0) && (((x.f3.length : Int) == 0) && ((x.f4.length : Int) == 0)))) := by
  rw [tvalid_eq]
  unfold topV
  rw [h, if_pos rfl]
  simp only [show ((0 : Int) == 2) = false from rfl, Bool.false_and, tvalids_false]
  by_cases h4 : x.f4.length = 0
  · rw [List.length_eq_zero_iff.1 h4]; rfl
  · have e4 : ((x.f4.length : Int) == 0) = false := by rw [beq_eq_false_iff_ne]; omega
    rw [e4]; simp
theorem tvalid_other (x : S25) (h0 : ¬ x.f0 = 0) (h1 : ¬ x.f0 = 1) (h2 : ¬ x.f0 = 2) : tvalid x = false := by
  rw [tvalid_eq]
  unfold topV
  rw [if_neg h0, if_neg h1, if_neg h2]; simp
set_option maxHeartbeats 2000000 in
theorem valid_step (x : S25) (hS : NodeC 21 (structV x) x) (hL : NodeC 22 (listV x) x) : NodeC 10 (tvalid x) x := by
  intro A3 c3 A4 c4 W h3 l3 h4 l4 ht
  have H3 := Lib.hid h3; have H4 := Lib.hid h4; have HT := Lib.hid ht; have HS := Lib.hid hS; have HL := Lib.hid hL
  have hm3 : x.f3.length ≤ 9223372036854775807 := h3.2.1
  have hm4 : x.f4.length ≤ 9223372036854775807 := h4.2.1
  clear h3 h4 ht hS hL
  by_cases k0 : x.f0 = 0
  · have HD := Lib.hid (tvalid_null x k0)
    have g0 : (x.f0 == 0) = true := beq_iff_eq.2 k0
    clear k0
    cases b1 : (x.f1 == 0) with
    | false =>
      have HDD : Hid (tvalid x = false) := Lib.hid (by rw [HD.out, b1]; rfl)
      clear HD
      go_enter Tryd.func10, Tryd.ntmps10
      go_wp2
      go_ret
      exact ⟨by rw [HDD.out]; rfl, (Below.refl _ _).alloc (Nat.le_refl _) _⟩
    | true =>
    cases b2 : (x.f2 == 0) with
    | false =>
      have HDD : Hid (tvalid x = false) := Lib.hid (by rw [HD.out, b1, b2]; rfl)
      clear HD
      go_enter Tryd.func10, Tryd.ntmps10
      go_wp2
      go_ret
      exact ⟨by rw [HDD.out]; rfl, (Below.refl _ _).alloc (Nat.le_refl _) _⟩
    | true =>
    cases b3 : ((x.f3.length : Int) == 0) with
    | false =>
      have HDD : Hid (tvalid x = false) := Lib.hid (by rw [HD.out, b1, b2, b3]; rfl)
      clear HD
      go_enter Tryd.func10, Tryd.ntmps10
      go_wp2
      go_ret
      exact ⟨by rw [HDD.out]; rfl, (Below.refl _ _).alloc (Nat.le_refl _) _⟩
    | true =>
    cases b4 : ((x.f4.length : Int) == 0)
    all_goals
      have HDD : Hid (tvalid x = _) := Lib.hid (HD.out.trans (by rw [b1, b2, b3, b4]))
      clear HD
      go_enter Tryd.func10, Tryd.ntmps10
      go_wp2
      go_ret
      exact ⟨by rw [HDD.out]; rfl, (Below.refl _ _).alloc (Nat.le_refl _) _⟩
  · have g0 : (x.f0 == 0) = false := beq_eq_false_iff_ne.2 k0
    by_cases k1 : x.f0 = 1
    · have HD := Lib.hid (tvalid_struct x k1)
      have g1 : (x.f0 == 1) = true := beq_iff_eq.2 k1
      clear k1 k0
      go_enter Tryd.func10, Tryd.ntmps10
      go_wp2_with fail
      refine calls_at (fun W1 hW => ?_)
      have hb : Below W.heap.size W W1 := by rw [hW]; exact (Below.refl _ _).alloc (Nat.le_refl _) _
      clear hW
      refine (HS.out _ _ _ _ W1 (Kd.C_below H3.out hb) l3 (Kd.C_below H4.out hb) l4 (HT.out.below hb)).mono ?_
      rintro e w1 ⟨rfl, hb1⟩
      go_wp2
      go_ret
      exact ⟨by rw [HD.out]; rfl, hb.trans (hb1.mono hb.size)⟩
    · have g1 : (x.f0 == 1) = false := beq_eq_false_iff_ne.2 k1
      by_cases k2 : x.f0 = 2
      · have HD := Lib.hid (tvalid_list x k2)
        have g2 : (x.f0 == 2) = true := beq_iff_eq.2 k2
        clear k2 k1 k0
        go_enter Tryd.func10, Tryd.ntmps10
        go_wp2_with fail
        refine calls_at (fun W1 hW => ?_)
        have hb : Below W.heap.size W W1 := by rw [hW]; exact (Below.refl _ _).alloc (Nat.le_refl _) _
        clear hW
        refine (HL.out _ _ _ _ W1 (Kd.C_below H3.out hb) l3 (Kd.C_below H4.out hb) l4 (HT.out.below hb)).mono ?_
        rintro e w1 ⟨rfl, hb1⟩
        go_wp2
        go_ret
        exact ⟨by rw [HD.out]; rfl, hb.trans (hb1.mono hb.size)⟩
      · have HD := Lib.hid (tvalid_other x k0 k1 k2)
        have g2 : (x.f0 == 2) = false := beq_eq_false_iff_ne.2 k2
        clear k2 k1 k0
        go_enter Tryd.func10, Tryd.ntmps10
        go_wp2
        go_ret
        exact ⟨by rw [HD.out]; rfl, (Below.refl _ _).alloc (Nat.le_refl _) _⟩
theorem valid_both : ∀ (n : Nat) (x : S25), tsize x ≤ n → okT x → NodeC 10 (tvalid x) x ∧ NodeC 21 (structV x) x
  | 0, x, h, _ => by have := tsize_eq x; omega
  | n + 1, x, h, hok => by
    have hk : ∀ y ∈ x.f4, NodeC 10 (tvalid y) y ∧ NodeC 21 (structV y) y := fun y hy => valid_both n y (by have := tsize_kid hy; omega) (hok.kids y hy)
    have hS := structure_any x fun y hy => (hk y hy).1
    exact ⟨valid_step x hS (list_any x (fun y hy => (hk y hy).1) (fun y hy => element_any y (hk y hy).2) hok.here), hS⟩
end Go.Proofs.YtmbockhcmhghlaaDoor.Pr
end
section
namespace Go.Proofs.YtmbockhcmhghlaaDoor.Pr
open Go.RowKit Go.Shelf Go.Proofs.YtmbockhcmhghlaaDoorW.PrintWords Go.Proofs.YtmbockhcmhghlaaDoorW.PrintLast Go.Proofs.YtmbockhcmhghlaaDoorW.PrintMore
set_option linter.unusedVariables false
set_option linter.unusedSimpArgs false
attribute [local go_sem] Oper.semAt_some
def NodeI (f : FuncId) (b : Nat) (x : S25) : Prop := ∀ (A3 : Option Addr) (c3 : Nat) (A4 : Option Addr) (c4 : Nat) (W : World), Kd.C (Kd.int .u8) W A3 x.f3.length x.f3 → x.f3.length ≤ c3 → Kd.C k25 W A4 x.f4.length x.f4 → x.f4.length ≤ c4 →
  Calls Tryd.prog f #[.agg #[.int .i64 x.f0, .int .i64 x.f1, .int .i64 x.f2, .slice A3 x.f3.length c3, .slice A4 x.f4.length c4]] W fun e w' => e = .returned (.int .i64 (b : Int)) ∧ Below W.heap.size W w'
theorem targets_is (n : Nat) (v0 v1 v2 v3 v4 : Value) (w : World) :
    CallsIn Fence.wide n Tryd.prog 28 #[.agg #[v0, v1, v2, v3, v4]] w fun e w' => e = .returned (.func (.func 35) #[] #[.pointer (some ⟨w.heap.size, 0, none⟩)]) ∧ w' = w.alloc (.cells #[v0, v1, v2, v3, v4] 25) := by
  refine callsIn_of_wp Tryd.func28 rfl trivial ?_ rfl
  simp only [Tryd.ntmps28, List.size_toArray, List.length_cons, List.length_nil, Nat.reduceAdd, Nat.reduceSub, Array.replicate_succ, Array.replicate_zero, List.push_toArray, List.append_toArray, List.nil_append, List.cons_append]
  gi_wp2
  go_ret
  exact ⟨rfl, rfl⟩
def elX {w : World} {T : List S25} (l : List (Els w T)) : List S25 := l.map (fun y => y.1.x)
theorem elX_snoc {w : World} {T : List S25} (l : List (Els w T)) (y : Els w T) : elX (l ++ [y]) = elX l ++ [y.1.x] := by unfold elX; rw [List.map_append]; rfl
theorem targets_stops (n : Nat) (hn : 1 ≤ n) (Bn : Nat) (w w1 : World) (x : S25) (A3 : Option Addr) (c3 : Nat) (A4 : Option Addr) (c4 : Nat) (hv : x.f1 = 7 → x.f0 = 2) (hC : Kd.C k25 w A4 x.f4.length x.f4) (hb : Below w.heap.size w w1)
    (hB : w1.heap[Bn]? = some (.cells #[.int .i64 x.f0, .int .i64 x.f1, .int .i64 x.f2, .slice A3 x.f3.length c3, .slice A4 x.f4.length c4] 25 (0, 0))) :
    SeqStopsK Fence.wide n Tryd.prog 35 #[.pointer (some ⟨Bn, 0, none⟩)] (fun y : Els w (ttargets x) => #[y.1.enc]) (KpN w.heap.size Bn) (fun ys => elX ys = ttargets x) (fun _ => True) (ttargets x).length w1 := by
  by_cases h7 : x.f1 = 7
  · have hT : ttargets x = tkids x.f4 := by unfold ttargets; rw [if_pos ⟨hv h7, h7⟩]
    rw [hT]
    intro l J Jx W hW hJ hJx hY h0
    exact targets1_comp n hn l Bn w x A3 c3 A4 c4 (by simp [h7]) hC J Jx W hJ (hb.trans (hW.mono hb.size)) hY ((hW.block Bn (blk_lt hB)).trans hB) h0
  · have hT : ttargets x = x.f4 := by unfold ttargets; rw [if_neg (fun h => h7 h.2)]
    rw [hT]
    intro l J Jx W hW hJ hJx hY h0
    exact targets1_plain n hn l Bn w x A3 c3 A4 c4 (by simp [h7]) hC J Jx W hJ (hb.trans (hW.mono hb.size)) hY ((hW.block Bn (blk_lt hB)).trans hB) h0
theorem KpN.trans {n B : Nat} {X Y Z : World} (h : KpN n B X Y) (k : KpN n B Y Z) : KpN n B X Z := ⟨h.1.trans k.1, k.2.trans h.2⟩
theorem KpN.box {n B : Nat} {w1 : World} (hn : n ≤ w1.heap.size) (hB : B < w1.heap.size) (W : World) (l : Nat) (o o' : Obj) (hl : w1.heap.size ≤ l) (ho : W.heap[l]? = some o) (hc : o.isCells = false) (hw : o.isWalk = false) : KpN n B W (W.putObj l o') :=
  ⟨belowK_b hn W l o o' hl ho hc hw, World.putObj_heap_other (fun e => by omega)⟩
set_option maxHeartbeats 2000000 in
theorem depth_null (x : S25) (h : x.f0 = 0) : NodeI 14 (tdepth x) x := by
  intro A3 c3 A4 c4 W h3 l3 h4 l4
  have hD := Lib.hid (show tdepth x = 0 by rw [tdepth_eq, if_pos h])
  have g : (x.f0 == 0) = true := beq_iff_eq.2 h
  clear h h3 h4
  go_enter Tryd.func14, Tryd.ntmps14
  go_wp2
  go_ret
  exact ⟨by rw [hD.out]; rfl, (Below.refl _ _).alloc (Nat.le_refl _) _⟩
theorem blk_own {vs : Array Value} {t : TypeId} {B : Nat} {X Y : World} {row : Option Nat} (h : X.heap[B]? = some (.cells vs t (0, 0))) (hg : X.grownBy Y row) (hr : ∀ r, row = some r → ∃ o : Obj, X.heap[r]? = some o ∧ o.isCells = false) : Y.heap[B]? = some (.cells vs t (0, 0)) :=
  (hg.block B (blk_lt h) (fun e => by obtain ⟨o, ho, hc⟩ := hr B e.symm; rw [h] at ho; cases ho; cases hc)).trans h
def dW (l : List S25) : Int := l.foldl (fun d y => max d (tdepth y : Int)) 0
theorem dW_snoc (l : List S25) (y : S25) : dW (l ++ [y]) = max (dW l) (tdepth y : Int) := by simp [dW]
theorem dW_fold : ∀ (l : List S25) (d : Int), 0 ≤ d → l.foldl (fun d y => max d (tdepth y : Int)) d = max d (tdeeps l : Int)
  | [], d, h => by simp [tdeeps]; omega
  | y :: l, d, h => by
    rw [List.foldl_cons, dW_fold l _ (by omega)]
    simp only [tdeeps]
    omega
theorem dW_eq (l : List S25) : dW l = (tdeeps l : Int) := by unfold dW; rw [dW_fold l 0 (by omega)]; omega
set_option maxRecDepth 100000 in
set_option maxHeartbeats 4000000 in
theorem depth_step (x : S25) (hv : x.f1 = 7 → x.f0 = 2) (h0 : ¬ x.f0 = 0) (hs : tsize x ≤ 4611686018427387904) (ih : ∀ y ∈ ttargets x, NodeI 14 (tdepth y) y) : NodeI 14 (tdepth x) x := by
  intro A3 c3 A4 c4 w h3 l3 h4 l4
  have H3 := Lib.hid h3; have H4 := Lib.hid h4; have IH := Lib.hid ih
  have g : (x.f0 == 0) = false := beq_eq_false_iff_ne.2 h0
  clear h3 h4 ih h0
  refine (callsIn_wide (n := 6)).1 ?_
  refine callsIn_of_wp_marks Tryd.func14 rfl trivial ?_ rfl
  simp only [Tryd.ntmps14, List.size_toArray, List.length_cons, List.length_nil, Nat.reduceAdd, Nat.reduceSub, Array.replicate_succ, Array.replicate_zero, List.push_toArray, List.append_toArray, List.nil_append, List.cons_append]
  gi_wp2_with (refine ⟨trivial, ?_⟩; gi_at_call 28; refine (targets_is _ _ _ _ _ _ _).mono ?_; rintro e w' ⟨rfl, rfl⟩)
  have bD : Boxed (((w.alloc (.cells #[.int .i64 x.f0, .int .i64 x.f1, .int .i64 x.f2, .slice A3 x.f3.length c3, .slice A4 x.f4.length c4] 25)).alloc (.cells #[.int .i64 0] 3)).alloc (.cells #[.int .i64 x.f0, .int .i64 x.f1, .int .i64 x.f2, .slice A3 x.f3.length c3, .slice A4 x.f4.length c4] 25)) (w.heap.size + 1) 3 (.int .i64 0) := by
    have := (Boxed.new (w.alloc (.cells #[.int .i64 x.f0, .int .i64 x.f1, .int .i64 x.f2, .slice A3 x.f3.length c3, .slice A4 x.f4.length c4] 25)) 3 (.int .i64 0)).alloc (.cells #[.int .i64 x.f0, .int .i64 x.f1, .int .i64 x.f2, .slice A3 x.f3.length c3, .slice A4 x.f4.length c4] 25)
    simp only [World.size_alloc] at this
    exact this
  have hB0 : Below w.heap.size w (((w.alloc (.cells #[.int .i64 x.f0, .int .i64 x.f1, .int .i64 x.f2, .slice A3 x.f3.length c3, .slice A4 x.f4.length c4] 25)).alloc (.cells #[.int .i64 0] 3)).alloc (.cells #[.int .i64 x.f0, .int .i64 x.f1, .int .i64 x.f2, .slice A3 x.f3.length c3, .slice A4 x.f4.length c4] 25)) := (((Below.refl _ w).alloc (Nat.le_refl _) _).alloc (by simp) _).alloc (by simp; omega) _
  have hsz : (((w.alloc (.cells #[.int .i64 x.f0, .int .i64 x.f1, .int .i64 x.f2, .slice A3 x.f3.length c3, .slice A4 x.f4.length c4] 25)).alloc (.cells #[.int .i64 0] 3)).alloc (.cells #[.int .i64 x.f0, .int .i64 x.f1, .int .i64 x.f2, .slice A3 x.f3.length c3, .slice A4 x.f4.length c4] 25)).heap.size = w.heap.size + 3 := by simp
  have hBn : (((w.alloc (.cells #[.int .i64 x.f0, .int .i64 x.f1, .int .i64 x.f2, .slice A3 x.f3.length c3, .slice A4 x.f4.length c4] 25)).alloc (.cells #[.int .i64 0] 3)).alloc (.cells #[.int .i64 x.f0, .int .i64 x.f1, .int .i64 x.f2, .slice A3 x.f3.length c3, .slice A4 x.f4.length c4] 25)).heap[w.heap.size + 1 + 1]? = some (.cells #[.int .i64 x.f0, .int .i64 x.f1, .int .i64 x.f2, .slice A3 x.f3.length c3, .slice A4 x.f4.length c4] 25 (0, 0)) := blk_new _ _ _ (by simp)
  obtain ⟨W0, hW0⟩ : ∃ W0, ((w.alloc (.cells #[.int .i64 x.f0, .int .i64 x.f1, .int .i64 x.f2, .slice A3 x.f3.length c3, .slice A4 x.f4.length c4] 25)).alloc (.cells #[.int .i64 0] 3)).alloc (.cells #[.int .i64 x.f0, .int .i64 x.f1, .int .i64 x.f2, .slice A3 x.f3.length c3, .slice A4 x.f4.length c4] 25) = W0 := ⟨_, rfl⟩
  rw [hW0] at bD hB0 hsz hBn ⊢
  clear hW0
  have hst := targets_stops 5 (by omega) (w.heap.size + 1 + 1) w W0 x A3 c3 A4 c4 hv H4.out hB0 hBn
  refine wpIn_rangeFunc_ownH rfl (by omega) (gf := 35) (lb := #[.pointer (some ⟨w.heap.size + 1 + 1, 0, none⟩)]) rfl trivial (enters_of Tryd.func35 (by kernel_rfl) rfl)
    hst KpN.trans (KpN.box (by omega) (by omega)) (Below.refl _ _) (fun _ => rfl)
    (fun pre W => (Boxed W (w.heap.size + 1) 3 (.int .i64 (dW (elX pre))) ∧ Below w.heap.size w W) ∧ w.heap.size + 3 ≤ W.heap.size)
    (fun _ _ _ => False)
    (OwnFrom.and (OwnFrom.and (Own.from (boxed_own _ _ _) _) (ownFrom_below (Nat.le_refl _) (by omega))) (fun s X Y row hs hg hr => Nat.le_trans hs hg.size))
    (fun _ _ _ _ _ hs _ _ => hs)
    ⟨⟨bD, hB0⟩, by omega⟩
    (fun y a' W => ∃ Bx, w.heap.size + 2 < Bx ∧ W.heap[Bx]? = some (.cells #[.int .i64 y.1.x.f0, .int .i64 y.1.x.f1, .int .i64 y.1.x.f2, .slice y.1.A3 y.1.x.f3.length y.1.c3, .slice y.1.A4 y.1.x.f4.length y.1.c4] 25 (0, 0)) ∧
      a' = { tmps := #[.agg #[.int .i64 x.f0, .int .i64 x.f1, .int .i64 x.f2, .slice A3 x.f3.length c3, .slice A4 x.f4.length c4], .pointer (some ⟨w.heap.size, 0, none⟩), .int .i64 0, .pointer (some ⟨w.heap.size + 1, 0, none⟩), .pointer (some ⟨Bx, 0, none⟩), .pointer (some ⟨w.heap.size, 0, none⟩), .int .i64 x.f0, .bool false,
        .agg #[.int .i64 x.f0, .int .i64 x.f1, .int .i64 x.f2, .slice A3 x.f3.length c3, .slice A4 x.f4.length c4], .func (.func 35) #[] #[.pointer (some ⟨w.heap.size + 1 + 1, 0, none⟩)], y.1.enc, undef, undef, undef, undef, undef, undef], defers := [] })
    (fun y a' _ X Y row hs hg hr => by obtain ⟨Bx, q1, q2, q3⟩ := hs; exact ⟨Bx, q1, blk_own q2 hg (fun r e => (hr r e).2), q3⟩)
    ?assign ?body ?done ?stop
  case assign =>
    rintro l pre y W K ⟨⟨bD1, hB1⟩, hz⟩ hK
    obtain ⟨⟨z, C3, e3, C4, e4⟩, hok, hmem⟩ := y
    gi_wp2
    exact hK _ _ ((KeepsOthers.alloc _ _).from _) ⟨(Below.refl _ W).alloc hB1.size _, Below.heap_alloc W _ _ (by omega)⟩ ⟨⟨bD1.alloc _, hB1.alloc hB1.size _⟩, by simp; omega⟩ ⟨W.heap.size, by omega, heap_alloc_new _ _, rfl⟩
  case body =>
    rintro l pre y a' W hl ⟨r, hr⟩ ⟨⟨bD1, hB1⟩, hz⟩ ⟨Bx, hBx, bX, rfl⟩ hlt
    obtain ⟨⟨z, C3, e3, C4, e4⟩, hok, hmem⟩ := y
    dsimp only at bX
    have d1 : 1 ≤ 6 - 1 - 1 := by omega
    have hmx : Tryd.prog.follows .mixedOrders = true := by kernel_rfl
    obtain ⟨q, hq⟩ : ∃ q, Hid (dW (elX pre) = q) := ⟨_, Lib.hid rfl⟩
    rw [hq.out] at bD1
    have cD := bD1.cell
    have fD := bD1.frozen
    have x0 : W.cell? ⟨Bx, 0, none⟩ = some (.int .i64 z.f0) := (blk_cell bX 0).trans rfl
    have x1 : W.cell? ⟨Bx, 1, none⟩ = some (.int .i64 z.f1) := (blk_cell bX 1).trans rfl
    have x2 : W.cell? ⟨Bx, 2, none⟩ = some (.int .i64 z.f2) := (blk_cell bX 2).trans rfl
    have x3 : W.cell? ⟨Bx, 3, none⟩ = some (.slice C3 z.f3.length e3) := (blk_cell bX 3).trans rfl
    have x4 : W.cell? ⟨Bx, 4, none⟩ = some (.slice C4 z.f4.length e4) := (blk_cell bX 4).trans rfl
    have lD := bD1.lt
    have hbd : Below W.heap.size W W.drew := (Below.refl _ _).drew
    have hB2 : Below w.heap.size w W.drew := hB1.trans (hbd.mono hB1.size)
    have hokW := El.ok_below (n := 0) hok hB2
    have HZ := (IH.out z hmem C3 e3 C4 e4 W.drew hokW.1 hokW.2.1 hokW.2.2.1 hokW.2.2.2).mono (R' := fun e w1 => e = .returned (.int .i64 (tdepth z : Int)) ∧ Below W.heap.size W w1 ∧ Boxed w1 (w.heap.size + 1) 3 (.int .i64 q) ∧ w1.cell? ⟨w.heap.size + 1, 0, none⟩ = some (.int .i64 q) ∧ w1.frozen? ⟨w.heap.size + 1, 0, none⟩ = false)
      (fun e w1 h => by
        have hb : Below W.heap.size W w1 := hbd.trans h.2
        have hx : Boxed w1 (w.heap.size + 1) 3 (.int .i64 q) := (hb.block _ lD).trans bD1
        exact ⟨h.1, hb, hx, hx.cell, hx.frozen⟩)
    clear hokW hB2 hbd
    gi_wp2
    gi_region_with_o (refine ⟨trivial, ?_⟩; gi_at_call 14; refine (CallsIn.inRound l (callsIn_wide.2 HZ)).mono ?_; rintro e w1 ⟨rfl, hb1, bD2, cD2, fD2⟩)
    all_goals gi_wp2
    all_goals (try go_bits)
    all_goals
      refine ⟨(KeepsOthers.setCell _ _ _).from _ |> KeepsFrom.trans ⟨hb1.size, fun k o _ hk _ => (hb1.block k (Array.getElem?_eq_some_iff.1 hk).1).trans hk⟩, ⟨(hb1.mono hB1.size).setCell (p := ⟨w.heap.size + 1, 0, none⟩) (by simp) _, ?_⟩, ⟨?_, (hB1.trans (hb1.mono hB1.size)).setCell (p := ⟨w.heap.size + 1, 0, none⟩) (by simp) _⟩, ?_⟩
      · exact ((grownBy_setCell' w1 (w.heap.size + 1) _).block _ (by have := hb1.size; omega) (fun e => by injection e; omega)).trans (hb1.block _ (by omega))
      · rw [elX_snoc, dW_snoc, hq.out]
        dsimp only
        first
        | rw [show max q (tdepth z : Int) = (tdepth z : Int) by omega]; exact bD2.set _
        | rw [show max q (tdepth z : Int) = q by omega]; exact bD2.set _
      · have := hb1.size
        have h2 := (KeepsOthers.setCell w1 ⟨w.heap.size + 1, 0, none⟩ (.int .i64 q)).size
        simp
        omega
  case done =>
    rintro D ys W hD hys ⟨⟨bD1, hB1⟩, hz⟩ hK
    have cD := bD1.cell
    gi_wp2
    refine ⟨by simp, .inl ⟨_, _, rfl, run_takeDeferred hK, ?_⟩⟩
    refine ⟨_, results_tmp rfl _ _ _, ?_, hB1.trans (belowK_b (w := w) (Nat.le_refl _) W D _ _ (by omega) hK rfl rfl)⟩
    have h1 := tdepth_objs x
    have h2 := tobjs_size x
    have h3 := tdepth_eq x
    rw [if_neg (by intro h; rw [h] at g; cases g)] at h3
    show Ending.returned (.int .i64 (wrap64 (dW (ttargets x) + 1))) = _
    rw [h3, dW_eq, w64 (by omega) (by omega)]
    congr 2
    omega
  case stop =>
    rintro D c pre W _ _ h _
    exact h.elim
set_option maxHeartbeats 2000000 in
theorem objs_null (x : S25) (h : x.f0 = 0) : NodeI 16 (tobjs x) x := by
  intro A3 c3 A4 c4 W h3 l3 h4 l4
  have hD := Lib.hid (show tobjs x = 0 by rw [tobjs_eq, if_pos h])
  have g : (x.f0 == 0) = true := beq_iff_eq.2 h
  clear h h3 h4
  go_enter Tryd.func16, Tryd.ntmps16
  go_wp2
  go_ret
  exact ⟨by rw [hD.out]; rfl, (Below.refl _ _).alloc (Nat.le_refl _) _⟩
def sW (l : List S25) : Int := l.foldl (fun d y => wrap64 (d + (tobjs y : Int))) 1
theorem sW_snoc (l : List S25) (y : S25) : sW (l ++ [y]) = wrap64 (sW l + (tobjs y : Int)) := by simp [sW]
theorem sW_fold : ∀ (l : List S25) (d : Int), 0 ≤ d → d + (tobjss l : Int) ≤ 9223372036854775807 → l.foldl (fun d y => wrap64 (d + (tobjs y : Int))) d = d + (tobjss l : Int)
  | [], d, h, _ => by simp [tobjss]
  | y :: l, d, h, hb => by
    simp only [tobjss, Int.natCast_add] at hb ⊢
    rw [List.foldl_cons, w64 (by omega) (by omega), sW_fold l _ (by omega) (by omega)]
    omega
theorem sW_eq (l : List S25) (h : tobjss l ≤ 4611686018427387904) : sW l = 1 + (tobjss l : Int) := by unfold sW; rw [sW_fold l 1 (by omega) (by omega)]
set_option maxRecDepth 100000 in
set_option maxHeartbeats 4000000 in
theorem objs_step (x : S25) (hv : x.f1 = 7 → x.f0 = 2) (h0 : ¬ x.f0 = 0) (hs : tsize x ≤ 4611686018427387904) (ih : ∀ y ∈ ttargets x, NodeI 16 (tobjs y) y) : NodeI 16 (tobjs x) x := by
  intro A3 c3 A4 c4 w h3 l3 h4 l4
  have H3 := Lib.hid h3; have H4 := Lib.hid h4; have IH := Lib.hid ih
  have g : (x.f0 == 0) = false := beq_eq_false_iff_ne.2 h0
  clear h3 h4 ih h0
  refine (callsIn_wide (n := 6)).1 ?_
  refine callsIn_of_wp_marks Tryd.func16 rfl trivial ?_ rfl
  simp only [Tryd.ntmps16, List.size_toArray, List.length_cons, List.length_nil, Nat.reduceAdd, Nat.reduceSub, Array.replicate_succ, Array.replicate_zero, List.push_toArray, List.append_toArray, List.nil_append, List.cons_append]
  gi_wp2_with (refine ⟨trivial, ?_⟩; gi_at_call 28; refine (targets_is _ _ _ _ _ _ _).mono ?_; rintro e w' ⟨rfl, rfl⟩)
  have bD : Boxed (((w.alloc (.cells #[.int .i64 x.f0, .int .i64 x.f1, .int .i64 x.f2, .slice A3 x.f3.length c3, .slice A4 x.f4.length c4] 25)).alloc (.cells #[.int .i64 1] 3)).alloc (.cells #[.int .i64 x.f0, .int .i64 x.f1, .int .i64 x.f2, .slice A3 x.f3.length c3, .slice A4 x.f4.length c4] 25)) (w.heap.size + 1) 3 (.int .i64 1) := by
    have := (Boxed.new (w.alloc (.cells #[.int .i64 x.f0, .int .i64 x.f1, .int .i64 x.f2, .slice A3 x.f3.length c3, .slice A4 x.f4.length c4] 25)) 3 (.int .i64 1)).alloc (.cells #[.int .i64 x.f0, .int .i64 x.f1, .int .i64 x.f2, .slice A3 x.f3.length c3, .slice A4 x.f4.length c4] 25)
    simp only [World.size_alloc] at this
    exact this
  have hB0 : Below w.heap.size w (((w.alloc (.cells #[.int .i64 x.f0, .int .i64 x.f1, .int .i64 x.f2, .slice A3 x.f3.length c3, .slice A4 x.f4.length c4] 25)).alloc (.cells #[.int .i64 1] 3)).alloc (.cells #[.int .i64 x.f0, .int .i64 x.f1, .int .i64 x.f2, .slice A3 x.f3.length c3, .slice A4 x.f4.length c4] 25)) := (((Below.refl _ w).alloc (Nat.le_refl _) _).alloc (by simp) _).alloc (by simp; omega) _
  have hsz : (((w.alloc (.cells #[.int .i64 x.f0, .int .i64 x.f1, .int .i64 x.f2, .slice A3 x.f3.length c3, .slice A4 x.f4.length c4] 25)).alloc (.cells #[.int .i64 1] 3)).alloc (.cells #[.int .i64 x.f0, .int .i64 x.f1, .int .i64 x.f2, .slice A3 x.f3.length c3, .slice A4 x.f4.length c4] 25)).heap.size = w.heap.size + 3 := by simp
  have hBn : (((w.alloc (.cells #[.int .i64 x.f0, .int .i64 x.f1, .int .i64 x.f2, .slice A3 x.f3.length c3, .slice A4 x.f4.length c4] 25)).alloc (.cells #[.int .i64 1] 3)).alloc (.cells #[.int .i64 x.f0, .int .i64 x.f1, .int .i64 x.f2, .slice A3 x.f3.length c3, .slice A4 x.f4.length c4] 25)).heap[w.heap.size + 1 + 1]? = some (.cells #[.int .i64 x.f0, .int .i64 x.f1, .int .i64 x.f2, .slice A3 x.f3.length c3, .slice A4 x.f4.length c4] 25 (0, 0)) := blk_new _ _ _ (by simp)
  obtain ⟨W0, hW0⟩ : ∃ W0, ((w.alloc (.cells #[.int .i64 x.f0, .int .i64 x.f1, .int .i64 x.f2, .slice A3 x.f3.length c3, .slice A4 x.f4.length c4] 25)).alloc (.cells #[.int .i64 1] 3)).alloc (.cells #[.int .i64 x.f0, .int .i64 x.f1, .int .i64 x.f2, .slice A3 x.f3.length c3, .slice A4 x.f4.length c4] 25) = W0 := ⟨_, rfl⟩
  rw [hW0] at bD hB0 hsz hBn ⊢
  clear hW0
  have hst := targets_stops 5 (by omega) (w.heap.size + 1 + 1) w W0 x A3 c3 A4 c4 hv H4.out hB0 hBn
  refine wpIn_rangeFunc_ownH rfl (by omega) (gf := 35) (lb := #[.pointer (some ⟨w.heap.size + 1 + 1, 0, none⟩)]) rfl trivial (enters_of Tryd.func35 (by kernel_rfl) rfl)
    hst KpN.trans (KpN.box (by omega) (by omega)) (Below.refl _ _) (fun _ => rfl)
    (fun pre W => (Boxed W (w.heap.size + 1) 3 (.int .i64 (sW (elX pre))) ∧ Below w.heap.size w W) ∧ w.heap.size + 3 ≤ W.heap.size)
    (fun _ _ _ => False)
    (OwnFrom.and (OwnFrom.and (Own.from (boxed_own _ _ _) _) (ownFrom_below (Nat.le_refl _) (by omega))) (fun s X Y row hs hg hr => Nat.le_trans hs hg.size))
    (fun _ _ _ _ _ hs _ _ => hs)
    ⟨⟨bD, hB0⟩, by omega⟩
    (fun y a' W => ∃ Bx, w.heap.size + 2 < Bx ∧ W.heap[Bx]? = some (.cells #[.int .i64 y.1.x.f0, .int .i64 y.1.x.f1, .int .i64 y.1.x.f2, .slice y.1.A3 y.1.x.f3.length y.1.c3, .slice y.1.A4 y.1.x.f4.length y.1.c4] 25 (0, 0)) ∧
      a' = { tmps := #[.agg #[.int .i64 x.f0, .int .i64 x.f1, .int .i64 x.f2, .slice A3 x.f3.length c3, .slice A4 x.f4.length c4], .pointer (some ⟨w.heap.size, 0, none⟩), .int .i64 0, .pointer (some ⟨w.heap.size + 1, 0, none⟩), .pointer (some ⟨Bx, 0, none⟩), .pointer (some ⟨w.heap.size, 0, none⟩), .int .i64 x.f0, .bool false,
        .agg #[.int .i64 x.f0, .int .i64 x.f1, .int .i64 x.f2, .slice A3 x.f3.length c3, .slice A4 x.f4.length c4], .func (.func 35) #[] #[.pointer (some ⟨w.heap.size + 1 + 1, 0, none⟩)], y.1.enc, undef, undef, undef, undef, undef], defers := [] })
    (fun y a' _ X Y row hs hg hr => by obtain ⟨Bx, q1, q2, q3⟩ := hs; exact ⟨Bx, q1, blk_own q2 hg (fun r e => (hr r e).2), q3⟩)
    ?assign ?body ?done ?stop
  case assign =>
    rintro l pre y W K ⟨⟨bD1, hB1⟩, hz⟩ hK
    obtain ⟨⟨z, C3, e3, C4, e4⟩, hok, hmem⟩ := y
    gi_wp2
    exact hK _ _ ((KeepsOthers.alloc _ _).from _) ⟨(Below.refl _ W).alloc hB1.size _, Below.heap_alloc W _ _ (by omega)⟩ ⟨⟨bD1.alloc _, hB1.alloc hB1.size _⟩, by simp; omega⟩ ⟨W.heap.size, by omega, heap_alloc_new _ _, rfl⟩
  case body =>
    rintro l pre y a' W hl ⟨r, hr⟩ ⟨⟨bD1, hB1⟩, hz⟩ ⟨Bx, hBx, bX, rfl⟩ hlt
    obtain ⟨⟨z, C3, e3, C4, e4⟩, hok, hmem⟩ := y
    dsimp only at bX
    have d1 : 1 ≤ 6 - 1 - 1 := by omega
    have hmx : Tryd.prog.follows .mixedOrders = true := by kernel_rfl
    obtain ⟨q, hq⟩ : ∃ q, Hid (sW (elX pre) = q) := ⟨_, Lib.hid rfl⟩
    rw [hq.out] at bD1
    have cD := bD1.cell
    have fD := bD1.frozen
    have x0 : W.cell? ⟨Bx, 0, none⟩ = some (.int .i64 z.f0) := (blk_cell bX 0).trans rfl
    have x1 : W.cell? ⟨Bx, 1, none⟩ = some (.int .i64 z.f1) := (blk_cell bX 1).trans rfl
    have x2 : W.cell? ⟨Bx, 2, none⟩ = some (.int .i64 z.f2) := (blk_cell bX 2).trans rfl
    have x3 : W.cell? ⟨Bx, 3, none⟩ = some (.slice C3 z.f3.length e3) := (blk_cell bX 3).trans rfl
    have x4 : W.cell? ⟨Bx, 4, none⟩ = some (.slice C4 z.f4.length e4) := (blk_cell bX 4).trans rfl
    have lD := bD1.lt
    have hbd : Below W.heap.size W W.drew := (Below.refl _ _).drew
    have hB2 : Below w.heap.size w W.drew := hB1.trans (hbd.mono hB1.size)
    have hokW := El.ok_below (n := 0) hok hB2
    have HZ := (IH.out z hmem C3 e3 C4 e4 W.drew hokW.1 hokW.2.1 hokW.2.2.1 hokW.2.2.2).mono (R' := fun e w1 => e = .returned (.int .i64 (tobjs z : Int)) ∧ Below W.heap.size W w1 ∧ Boxed w1 (w.heap.size + 1) 3 (.int .i64 q) ∧ w1.cell? ⟨w.heap.size + 1, 0, none⟩ = some (.int .i64 q) ∧ w1.frozen? ⟨w.heap.size + 1, 0, none⟩ = false)
      (fun e w1 h => by
        have hb : Below W.heap.size W w1 := hbd.trans h.2
        have hx : Boxed w1 (w.heap.size + 1) 3 (.int .i64 q) := (hb.block _ lD).trans bD1
        exact ⟨h.1, hb, hx, hx.cell, hx.frozen⟩)
    clear hokW hB2 hbd
    gi_wp2
    gi_region_with_o (refine ⟨trivial, ?_⟩; gi_at_call 16; refine (CallsIn.inRound l (callsIn_wide.2 HZ)).mono ?_; rintro e w1 ⟨rfl, hb1, bD2, cD2, fD2⟩)
    all_goals gi_wp2
    all_goals (try go_bits)
    all_goals
      refine ⟨(KeepsOthers.setCell _ _ _).from _ |> KeepsFrom.trans ⟨hb1.size, fun k o _ hk _ => (hb1.block k (Array.getElem?_eq_some_iff.1 hk).1).trans hk⟩, ⟨(hb1.mono hB1.size).setCell (p := ⟨w.heap.size + 1, 0, none⟩) (by simp) _, ?_⟩, ⟨?_, (hB1.trans (hb1.mono hB1.size)).setCell (p := ⟨w.heap.size + 1, 0, none⟩) (by simp) _⟩, ?_⟩
      · exact ((grownBy_setCell' w1 (w.heap.size + 1) _).block _ (by have := hb1.size; omega) (fun e => by injection e; omega)).trans (hb1.block _ (by omega))
      · rw [elX_snoc, sW_snoc, hq.out]
        exact bD2.set _
      · have := hb1.size
        have h2 := (KeepsOthers.setCell w1 ⟨w.heap.size + 1, 0, none⟩ (.int .i64 q)).size
        simp
        omega
  case done =>
    rintro D ys W hD hys ⟨⟨bD1, hB1⟩, hz⟩ hK
    have cD := bD1.cell
    gi_wp2
    refine ⟨by simp, .inl ⟨_, _, rfl, run_takeDeferred hK, ?_⟩⟩
    refine ⟨_, results_tmp rfl _ _ _, ?_, hB1.trans (belowK_b (w := w) (Nat.le_refl _) W D _ _ (by omega) hK rfl rfl)⟩
    have h2 := tobjs_size x
    have h3 := tobjs_eq x
    rw [if_neg (by intro h; rw [h] at g; cases g)] at h3
    show Ending.returned (.int .i64 (sW (ttargets x))) = _
    rw [h3, sW_eq _ (by omega)]
    congr 2
  case stop =>
    rintro D c pre W _ _ h _
    exact h.elim
theorem valid_el (x : S25) (h : tvalid x = true) : x.f1 = 7 → x.f0 = 2 := by
  intro h7
  by_cases h2 : x.f0 = 2
  · exact h2
  · by_cases h0 : x.f0 = 0
    · rw [tvalid_null x h0, h7] at h; simp at h
    · by_cases h1 : x.f0 = 1
      · rw [tvalid_struct x h1] at h; unfold structV at h; rw [h7] at h; simp at h
      · rw [tvalid_other x h0 h1 h2] at h; cases h
theorem valid_kids (x : S25) (h : tvalid x = true) : ∀ y ∈ x.f4, tvalid y = true := by
  rw [tvalid_eq, Bool.and_eq_true] at h
  exact fun y hy => (((tvalids_all _ _).1 h.1) y hy).1
theorem valid_targets (x : S25) (h : tvalid x = true) : ∀ y ∈ ttargets x, tvalid y = true := by
  unfold ttargets
  split
  · intro y hy
    obtain ⟨z, hz, hy⟩ := mem_tkids.1 hy
    exact valid_kids z (valid_kids x h z hz) y hy
  · exact valid_kids x h
theorem depth_all : ∀ (n : Nat) (x : S25), tsize x ≤ n → tvalid x = true → tsize x ≤ 4611686018427387904 → NodeI 14 (tdepth x) x
  | 0, x, h, _, _ => by have := tsize_eq x; omega
  | n + 1, x, h, hv, hs => by
    by_cases h0 : x.f0 = 0
    · exact depth_null x h0
    · exact depth_step x (valid_el x hv) h0 hs fun y hy => depth_all n y (by have := ttargets_size hy; omega) (valid_targets x hv y hy) (by have := ttargets_size hy; omega)
theorem objs_all : ∀ (n : Nat) (x : S25), tsize x ≤ n → tvalid x = true → tsize x ≤ 4611686018427387904 → NodeI 16 (tobjs x) x
  | 0, x, h, _, _ => by have := tsize_eq x; omega
  | n + 1, x, h, hv, hs => by
    by_cases h0 : x.f0 = 0
    · exact objs_null x h0
    · exact objs_step x (valid_el x hv) h0 hs fun y hy => objs_all n y (by have := ttargets_size hy; omega) (valid_targets x hv y hy) (by have := ttargets_size hy; omega)
end Go.Proofs.YtmbockhcmhghlaaDoor.Pr
end
section
namespace Go.Proofs.YtmbockhcmhghlaaDoor.Pr
open Go.RowKit Go.Proofs.YtmbockhcmhghlaaDoorW.PrintWords Go.Proofs.YtmbockhcmhghlaaDoorW.PrintLast Go.Proofs.YtmbockhcmhghlaaDoorW.PrintMore
set_option linter.unusedVariables false
set_option linter.unusedSimpArgs false
noncomputable section
open Classical
def node_Valid.f (_ : Nat) (a0 a1 a2 : Int) (l3 : List Int) (l4 : List S25) : Option Bool := if okT ⟨a0, a1, a2, l3, l4⟩ then some (tvalid ⟨a0, a1, a2, l3, l4⟩) else none
def node_Equal.f (_ : Nat) (a0 a1 a2 : Int) (l3 : List Int) (l4 : List S25) (b0 b1 b2 : Int) (m3 : List Int) (m4 : List S25) : Option Bool := if okT ⟨a0, a1, a2, l3, l4⟩ ∧ okT ⟨b0, b1, b2, m3, m4⟩ then some (eqT ⟨a0, a1, a2, l3, l4⟩ ⟨b0, b1, b2, m3, m4⟩) else none
def node_Depth.f (_ : Nat) (a0 a1 a2 : Int) (l3 : List Int) (l4 : List S25) : Option Int := if tvalid ⟨a0, a1, a2, l3, l4⟩ = true ∧ tsize ⟨a0, a1, a2, l3, l4⟩ ≤ 4611686018427387904 then some (tdepth ⟨a0, a1, a2, l3, l4⟩ : Int) else none
def node_Objects.f (_ : Nat) (a0 a1 a2 : Int) (l3 : List Int) (l4 : List S25) : Option Int := if tvalid ⟨a0, a1, a2, l3, l4⟩ = true ∧ tsize ⟨a0, a1, a2, l3, l4⟩ ≤ 4611686018427387904 then some (tobjs ⟨a0, a1, a2, l3, l4⟩ : Int) else none
theorem node_Valid.calls (k : Nat) (a0 a1 a2 : Int) (A3 : Option Addr) (c3 : Nat) (l3 : List Int) (A4 : Option Addr) (c4 : Nat) (l4 : List S25) (r : Bool) (w : World) (h3 : Kd.C (Kd.int .u8) w A3 l3.length l3) (g3 : l3.length ≤ c3) (h4 : Kd.C k25 w A4 l4.length l4) (g4 : l4.length ≤ c4)
    (h : node_Valid.f k a0 a1 a2 l3 l4 = some r) (ht : Ls.Tab w) :
    Calls Tryd.prog 10 #[.agg #[.int .i64 a0, .int .i64 a1, .int .i64 a2, .slice A3 l3.length c3, .slice A4 l4.length c4]] w fun e w' => e = .returned (.bool r) ∧ Below w.heap.size w w' := by
  unfold node_Valid.f at h
  split at h
  · rename_i hok
    cases h
    exact (valid_both _ ⟨a0, a1, a2, l3, l4⟩ (Nat.le_refl _) hok).1 A3 c3 A4 c4 w h3 g3 h4 g4 ht
  · cases h
theorem node_Equal.calls (k : Nat) (a0 a1 a2 : Int) (A3 : Option Addr) (c3 : Nat) (l3 : List Int) (A4 : Option Addr) (c4 : Nat) (l4 : List S25) (b0 b1 b2 : Int) (B3 : Option Addr) (d3 : Nat) (m3 : List Int) (B4 : Option Addr) (d4 : Nat) (m4 : List S25) (r : Bool) (w : World)
    (h3 : Kd.C (Kd.int .u8) w A3 l3.length l3) (g3 : l3.length ≤ c3) (h4 : Kd.C k25 w A4 l4.length l4) (g4 : l4.length ≤ c4) (k3 : Kd.C (Kd.int .u8) w B3 m3.length m3) (f3 : m3.length ≤ d3) (k4 : Kd.C k25 w B4 m4.length m4) (f4 : m4.length ≤ d4)
    (h : node_Equal.f k a0 a1 a2 l3 l4 b0 b1 b2 m3 m4 = some r) :
    Calls Tryd.prog 12 #[.agg #[.int .i64 a0, .int .i64 a1, .int .i64 a2, .slice A3 l3.length c3, .slice A4 l4.length c4], .agg #[.int .i64 b0, .int .i64 b1, .int .i64 b2, .slice B3 m3.length d3, .slice B4 m4.length d4]] w fun e w' => e = .returned (.bool r) ∧ Below w.heap.size w w' := by
  unfold node_Equal.f at h
  split at h
  · rename_i hok
    cases h
    exact nequal_all ⟨a0, a1, a2, l3, l4⟩ ⟨b0, b1, b2, m3, m4⟩ hok.1 hok.2 A3 c3 A4 c4 B3 d3 B4 d4 w h3 g3 h4 g4 k3 f3 k4 f4
  · cases h
theorem node_Depth.calls (k : Nat) (a0 a1 a2 : Int) (A3 : Option Addr) (c3 : Nat) (l3 : List Int) (A4 : Option Addr) (c4 : Nat) (l4 : List S25) (r : Int) (w : World) (h3 : Kd.C (Kd.int .u8) w A3 l3.length l3) (g3 : l3.length ≤ c3) (h4 : Kd.C k25 w A4 l4.length l4) (g4 : l4.length ≤ c4)
    (h : node_Depth.f k a0 a1 a2 l3 l4 = some r) :
    Calls Tryd.prog 14 #[.agg #[.int .i64 a0, .int .i64 a1, .int .i64 a2, .slice A3 l3.length c3, .slice A4 l4.length c4]] w fun e w' => e = .returned (.int .i64 r) ∧ Below w.heap.size w w' := by
  unfold node_Depth.f at h
  split at h
  · rename_i hok
    cases h
    exact depth_all _ ⟨a0, a1, a2, l3, l4⟩ (Nat.le_refl _) hok.1 hok.2 A3 c3 A4 c4 w h3 g3 h4 g4
  · cases h
theorem node_Objects.calls (k : Nat) (a0 a1 a2 : Int) (A3 : Option Addr) (c3 : Nat) (l3 : List Int) (A4 : Option Addr) (c4 : Nat) (l4 : List S25) (r : Int) (w : World) (h3 : Kd.C (Kd.int .u8) w A3 l3.length l3) (g3 : l3.length ≤ c3) (h4 : Kd.C k25 w A4 l4.length l4) (g4 : l4.length ≤ c4)
    (h : node_Objects.f k a0 a1 a2 l3 l4 = some r) :
    Calls Tryd.prog 16 #[.agg #[.int .i64 a0, .int .i64 a1, .int .i64 a2, .slice A3 l3.length c3, .slice A4 l4.length c4]] w fun e w' => e = .returned (.int .i64 r) ∧ Below w.heap.size w w' := by
  unfold node_Objects.f at h
  split at h
  · rename_i hok
    cases h
    exact objs_all _ ⟨a0, a1, a2, l3, l4⟩ (Nat.le_refl _) hok.1 hok.2 A3 c3 A4 c4 w h3 g3 h4 g4
  · cases h
end
end Go.Proofs.YtmbockhcmhghlaaDoor.Pr
end
section
namespace Go.Proofs.YtmbockhcmhghlaaDoor.Pr
open Go.RowKit Go.Proofs.YtmbockhcmhghlaaDoorW.PrintWords Go.Proofs.YtmbockhcmhghlaaDoorW.PrintLast Go.Proofs.YtmbockhcmhghlaaDoorW.PrintMore
set_option linter.unusedVariables false
set_option linter.unusedSimpArgs false
def capnplaw10_awake.f : Option Bool := some true
abbrev exZ : S25 := ⟨0, 0, 0, [], []⟩
abbrev exN : S25 := ⟨1, 0, 0, [], []⟩
abbrev exS : S25 := ⟨1, 0, 0, [], [z25]⟩
abbrev exE : S25 := ⟨1, 0, 0, [0, 0, 0, 0, 0, 0, 0, 0], [exS]⟩
abbrev exL : S25 := ⟨2, 7, 2, [], [exN, exE]⟩
abbrev exB : S25 := ⟨2, 1, 3, [7], []⟩
abbrev exD : S25 := ⟨2, 1, 3, [8], []⟩
abbrev exO : S25 := ⟨2, 7, 2, [], [exN, exZ]⟩
theorem ok_leaf (a0 a1 a2 : Int) (l3 : List Int) (h : ∀ x ∈ l3, 0 ≤ x ∧ x ≤ 255) : okT ⟨a0, a1, a2, l3, []⟩ := AllT.mk h (fun _ hx => by cases hx)
theorem ok_z : okT z25 := ok_leaf 0 0 0 [] (by decide)
theorem ok_s : okT exS := AllT.mk (by decide) (fun x hx => by rw [List.mem_singleton.1 hx]; exact ok_z)
theorem ok_e : okT exE := AllT.mk (by decide) (fun x hx => by rw [List.mem_singleton.1 hx]; exact ok_s)
theorem ok_n : okT exN := ok_leaf 1 0 0 [] (by decide)
theorem ok_two {a0 a1 a2 : Int} {x y : S25} (hx : okT x) (hy : okT y) : okT ⟨a0, a1, a2, [], [x, y]⟩ := AllT.mk (fun z hz => by cases hz) (fun z hz => by
  rcases List.mem_cons.1 hz with rfl | hz
  · exact hx
  · rw [List.mem_singleton.1 hz]; exact hy)
theorem ok_l : okT exL := ok_two ok_n ok_e
theorem ok_o : okT exO := ok_two ok_n ok_z
theorem ok_b : okT exB := ok_leaf 2 1 3 [7] (by decide)
theorem ok_d : okT exD := ok_leaf 2 1 3 [8] (by decide)
theorem val_f {k : Nat} {a0 a1 a2 : Int} {l3 : List Int} {l4 : List S25} (b : Bool) (ho : okT ⟨a0, a1, a2, l3, l4⟩) (hb : tvalid ⟨a0, a1, a2, l3, l4⟩ = b) : node_Valid.f k a0 a1 a2 l3 l4 = some b := by unfold node_Valid.f; rw [if_pos ho, hb]
theorem dep_f {k : Nat} {a0 a1 a2 : Int} {l3 : List Int} {l4 : List S25} (r : Int) (hv : tvalid ⟨a0, a1, a2, l3, l4⟩ = true) (hs : Nat.ble (tsize ⟨a0, a1, a2, l3, l4⟩) 4611686018427387904 = true) (hr : (tdepth ⟨a0, a1, a2, l3, l4⟩ : Int) = r) : node_Depth.f k a0 a1 a2 l3 l4 = some r := by unfold node_Depth.f; rw [if_pos ⟨hv, Nat.le_of_ble_eq_true hs⟩, hr]
theorem obj_f {k : Nat} {a0 a1 a2 : Int} {l3 : List Int} {l4 : List S25} (r : Int) (hv : tvalid ⟨a0, a1, a2, l3, l4⟩ = true) (hs : Nat.ble (tsize ⟨a0, a1, a2, l3, l4⟩) 4611686018427387904 = true) (hr : (tobjs ⟨a0, a1, a2, l3, l4⟩ : Int) = r) : node_Objects.f k a0 a1 a2 l3 l4 = some r := by unfold node_Objects.f; rw [if_pos ⟨hv, Nat.le_of_ble_eq_true hs⟩, hr]
theorem equ_f {k : Nat} {a0 a1 a2 : Int} {l3 : List Int} {l4 : List S25} {b0 b1 b2 : Int} {m3 : List Int} {m4 : List S25} (r : Bool) (ho : okT ⟨a0, a1, a2, l3, l4⟩) (hp : okT ⟨b0, b1, b2, m3, m4⟩) (hr : eqT ⟨a0, a1, a2, l3, l4⟩ ⟨b0, b1, b2, m3, m4⟩ = r) : node_Equal.f k a0 a1 a2 l3 l4 b0 b1 b2 m3 m4 = some r := by unfold node_Equal.f; rw [if_pos ⟨ho, hp⟩, hr]
theorem fx1 : node_Valid.f 0 0 0 0 [] [] = some true := val_f _ ok_z (by kernel_rfl)
theorem fx2 : node_Valid.f 0 1 0 0 [] [z25] = some true := val_f _ ok_s (by kernel_rfl)
theorem fx3 : node_Valid.f 0 2 7 2 [] [exN, exE] = some true := val_f _ ok_l (by kernel_rfl)
theorem fx4 : node_Valid.f 0 2 1 3 [7] [] = some true := val_f _ ok_b (by kernel_rfl)
theorem fx5 : node_Valid.f 0 2 1 3 [8] [] = some false := val_f _ ok_d (by kernel_rfl)
theorem fx6 : node_Valid.f 0 2 7 2 [] [exN, exZ] = some false := val_f _ ok_o (by kernel_rfl)
theorem fx7 : node_Valid.f 0 3 0 0 [] [] = some false := val_f _ (ok_leaf 3 0 0 [] (by decide)) (by kernel_rfl)
theorem fx8 : node_Valid.f 0 1 0 0 [0, 0, 0, 0] [] = some false := val_f _ (ok_leaf 1 0 0 [0, 0, 0, 0] (by decide)) (by kernel_rfl)
theorem fx9 : node_Depth.f 0 1 0 0 [] [z25] = some 1 := dep_f _ (by kernel_rfl) (by kernel_rfl) (by kernel_rfl)
theorem fx10 : node_Objects.f 0 1 0 0 [] [z25] = some 1 := obj_f _ (by kernel_rfl) (by kernel_rfl) (by kernel_rfl)
theorem fx11 : node_Depth.f 0 2 7 2 [] [exN, exE] = some 2 := dep_f _ (by kernel_rfl) (by kernel_rfl) (by kernel_rfl)
theorem fx12 : node_Objects.f 0 2 7 2 [] [exN, exE] = some 2 := obj_f _ (by kernel_rfl) (by kernel_rfl) (by kernel_rfl)
theorem fx13 : node_Depth.f 0 0 0 0 [] [] = some 0 := dep_f _ (by kernel_rfl) (by kernel_rfl) (by kernel_rfl)
theorem fx14 : node_Equal.f 0 2 7 2 [] [exN, exE] 2 7 2 [] [exN, exE] = some true := equ_f _ ok_l ok_l (eqT_true rfl)
theorem fx15 : node_Equal.f 0 2 7 2 [] [exN, exE] 2 1 3 [7] [] = some false := equ_f _ ok_l ok_b (eqT_false fun h => absurd (congrArg S25.f1 h) (by decide))
theorem fx16 : node_Equal.f 0 2 1 3 [7] [] 2 1 3 [8] [] = some false := equ_f _ ok_b ok_d (eqT_false fun h => absurd (congrArg S25.f3 h) (by decide))
theorem at_world {α : Type} {K : α → World → Prop} {a : α} {w : World} (h : ∀ W, W = w → K a W) : K a w := h w rfl
set_option maxRecDepth 100000 in
set_option maxHeartbeats 16000000 in
theorem capnplaw10_awake.calls (r : Bool) (w : World) (h : capnplaw10_awake.f = some r) (ht : Ls.Tab w) : Calls Tryd.prog 8 #[] w fun e w' => e = .returned (.bool r) ∧ Below w.heap.size w w' := by
  obtain rfl : true = r := Option.some.inj h
  clear h
  have mk1 : ∀ W : World, (Instr.makeSlice 23 (.int .i64 1) (.int .i64 1)).run Tryd.prog W = .ok (.slice (some ⟨W.heap.size, 0, none⟩) 1 1) (W.alloc (.cells #[.int .i64 0, .int .i64 0, .int .i64 0, .slice none 0 0, .slice none 0 0] 25)) := fun _ => by kernel_rfl
  have mk2 : ∀ W : World, (Instr.makeSlice 22 (.int .i64 8) (.int .i64 8)).run Tryd.prog W = .ok (.slice (some ⟨W.heap.size, 0, none⟩) 8 8) (W.alloc (.cells #[.int .u8 0, .int .u8 0, .int .u8 0, .int .u8 0, .int .u8 0, .int .u8 0, .int .u8 0, .int .u8 0] 5)) := fun _ => by kernel_rfl
  have mk3 : ∀ W : World, (Instr.makeSlice 22 (.int .i64 4) (.int .i64 4)).run Tryd.prog W = .ok (.slice (some ⟨W.heap.size, 0, none⟩) 4 4) (W.alloc (.cells #[.int .u8 0, .int .u8 0, .int .u8 0, .int .u8 0] 5)) := fun _ => by kernel_rfl
  have HT := Lib.hid ht
  clear ht
  have HB := Lib.hid (Below.refl w.heap.size w)
  go_enter Tryd.func8, Tryd.ntmps8
  go_upto_region 2 with fail
  refine wp_at (fun W1 hW => ?_)
  have hb : Below w.heap.size w W1 := by rw [hW]; repeat (first | exact Below.refl _ _ | refine Below.alloc ?_ (by first | exact Nat.le_refl _ | (simp <;> omega)) _)
  have nB6 : W1.heap[w.heap.size]? = some (.cells #[.int .i64 0, .int .i64 0, .int .i64 0, .slice none 0 0, .slice none 0 0] 25 (0, 0)) := by rw [hW]; repeat (first | exact heap_alloc_new _ _ | exact blk_new _ _ _ (by simp) | refine blk_alloc ?_ _)
  have nBS : W1.heap[w.heap.size + 1]? = some (.cells #[.int .i64 1, .int .i64 0, .int .i64 0, .slice none 0 0, .slice (some ⟨w.heap.size, 0, none⟩) 1 1] 25 (0, 0)) := by rw [hW]; repeat (first | exact heap_alloc_new _ _ | exact blk_new _ _ _ (by simp) | refine blk_alloc ?_ _)
  clear hW
  replace HT := Lib.hid (HT.out.below hb)
  replace HB := Lib.hid (below_step HB.out hb)
  clear hb
  have B6 := Lib.hid nB6
  clear nB6
  have BS := Lib.hid nBS
  clear nBS
  have l_BS : w.heap.size + 1 < W1.heap.size := blk_lt BS.out
  have q_BS_0 : W1.cell? ⟨w.heap.size + 1, 0, none⟩ = some (.int .i64 1) := (blk_cell BS.out 0).trans rfl
  have q_BS_1 : W1.cell? ⟨w.heap.size + 1, 1, none⟩ = some (.int .i64 0) := (blk_cell BS.out 1).trans rfl
  have q_BS_2 : W1.cell? ⟨w.heap.size + 1, 2, none⟩ = some (.int .i64 0) := (blk_cell BS.out 2).trans rfl
  have q_BS_3 : W1.cell? ⟨w.heap.size + 1, 3, none⟩ = some (.slice none 0 0) := (blk_cell BS.out 3).trans rfl
  have q_BS_4 : W1.cell? ⟨w.heap.size + 1, 4, none⟩ = some (.slice (some ⟨w.heap.size, 0, none⟩) 1 1) := (blk_cell BS.out 4).trans rfl
  refine start_ (n := 9) (S := fun w' => w'.cell? ⟨w.heap.size + 1, 0, none⟩ = some (.int .i64 1) ∧ w'.cell? ⟨w.heap.size + 1, 1, none⟩ = some (.int .i64 0) ∧ w'.cell? ⟨w.heap.size + 1, 2, none⟩ = some (.int .i64 0) ∧ w'.cell? ⟨w.heap.size + 1, 3, none⟩ = some (.slice none 0 0) ∧ w'.cell? ⟨w.heap.size + 1, 4, none⟩ = some (.slice (some ⟨w.heap.size, 0, none⟩) 1 1)) (ds := [8]) #[false, false, false, false, false, false, false, false, false] (by kernel_rfl) rfl rfl ⟨q_BS_0, q_BS_1, q_BS_2, q_BS_3, q_BS_4⟩ (fun hHeld => ?_)
  obtain ⟨wd, hwd⟩ : ∃ W, W = W1.drew := ⟨_, rfl⟩
  rw [← hwd] at hHeld ⊢
  have hb1d : Below W1.heap.size W1 wd := by rw [hwd]; exact (Below.refl _ _).drew
  clear hwd
  clear l_BS q_BS_0 q_BS_1 q_BS_2 q_BS_3 q_BS_4
  replace HT := Lib.hid (HT.out.below hb1d)
  replace HB := Lib.hid (below_step HB.out hb1d)
  replace B6 := Lib.hid (blk_below B6.out hb1d)
  replace BS := Lib.hid (blk_below BS.out hb1d)
  clear hb1d
  have l_BSd : w.heap.size + 1 < wd.heap.size := blk_lt BS.out
  have hbR := Below.refl wd.heap.size wd
  have qd_0 : wd.cell? ⟨w.heap.size + 1, 0, none⟩ = some (.int .i64 1) := (blk_cell BS.out 0).trans rfl
  have qd_1 : wd.cell? ⟨w.heap.size + 1, 1, none⟩ = some (.int .i64 0) := (blk_cell BS.out 1).trans rfl
  have qd_2 : wd.cell? ⟨w.heap.size + 1, 2, none⟩ = some (.int .i64 0) := (blk_cell BS.out 2).trans rfl
  have qd_3 : wd.cell? ⟨w.heap.size + 1, 3, none⟩ = some (.slice none 0 0) := (blk_cell BS.out 3).trans rfl
  have qd_4 : wd.cell? ⟨w.heap.size + 1, 4, none⟩ = some (.slice (some ⟨w.heap.size, 0, none⟩) 1 1) := (blk_cell BS.out 4).trans rfl
  refine pure_ (i := 0) (N := some 8) (v := ?_) (a' := ?_) #[true, false, false, false, false, false, false, false, false] rfl rfl (by kernel_rfl) (fun _ _ _ h => h) (Or.inl ⟨by rfl, ?_⟩) ?_ ?_
  rotate_left
  · intro w'
    go_simp
    with_reducible rfl
  rotate_left
  · simp only [Act.put, List.setIfInBounds_toArray, List.set_cons_zero, List.set_cons_succ, i64_w, i32_w]
    rfl
  refine take_ (i := 2) (N := some 10) (v := ?_) (a' := ?_) #[true, false, true, false, false, false, false, false, false] rfl rfl (by kernel_rfl) (fun _ _ _ h => h) (Or.inl ⟨by rfl, ?_⟩) hHeld ?_ ?_
  rotate_left
  · rintro w' ⟨s0, s1, s2, s3, s4⟩
    go_simp
    with_reducible rfl
  rotate_left
  · simp only [Act.put, List.setIfInBounds_toArray, List.set_cons_zero, List.set_cons_succ, i64_w, i32_w]
    rfl
  refine join_ (σ := Nat × Nat × Nat × Nat) 1 #[true, true, true, true, true, true, true, true, false] (fun s_ => [(9, .slice (some ⟨s_.1, 0, none⟩) 8 8), (11, .slice (some ⟨s_.2.1, 0, none⟩) 1 1), (12, .agg #[.int .i64 1, .int .i64 0, .int .i64 0, .slice (some ⟨s_.1, 0, none⟩) 8 8, .slice (some ⟨s_.2.1, 0, none⟩) 1 1]), (13, .slice (some ⟨s_.2.2.1, 0, none⟩) 2 2), (14, .agg #[.int .i64 2, .int .i64 7, .int .i64 2, .slice none 0 0, .slice (some ⟨s_.2.2.1, 0, none⟩) 2 2]), (2, .pointer (some ⟨s_.2.2.2, 0, none⟩))]) (fun s_ w' => (w'.cell? ⟨w.heap.size + 1, 0, none⟩ = some (.int .i64 1) ∧ w'.cell? ⟨w.heap.size + 1, 1, none⟩ = some (.int .i64 0) ∧ w'.cell? ⟨w.heap.size + 1, 2, none⟩ = some (.int .i64 0) ∧ w'.cell? ⟨w.heap.size + 1, 3, none⟩ = some (.slice none 0 0) ∧ w'.cell? ⟨w.heap.size + 1, 4, none⟩ = some (.slice (some ⟨w.heap.size, 0, none⟩) 1 1)) ∧ Below wd.heap.size wd w' ∧ wd.heap.size ≤ s_.2.2.2 ∧ Hid (w'.heap[s_.1]? = some (.cells #[(.int .u8 0), (.int .u8 0), (.int .u8 0), (.int .u8 0), (.int .u8 0), (.int .u8 0), (.int .u8 0), (.int .u8 0)] 5 (0, 0))) ∧ Hid (w'.heap[s_.2.1]? = some (.cells #[.int .i64 1, .int .i64 0, .int .i64 0, .slice none 0 0, .slice (some ⟨w.heap.size, 0, none⟩) 1 1] 25 (0, 0))) ∧ Hid (w'.heap[s_.2.2.1]? = some (.cells #[.int .i64 1, .int .i64 0, .int .i64 0, .slice none 0 0, .slice none 0 0, .int .i64 1, .int .i64 0, .int .i64 0, .slice (some ⟨s_.1, 0, none⟩) 8 8, .slice (some ⟨s_.2.1, 0, none⟩) 1 1] 25 (0, 0))) ∧ Hid (w'.heap[s_.2.2.2]? = some (.cells #[.int .i64 0, .int .i64 0, .int .i64 0, .slice none 0 0, .slice none 0 0] 25 (0, 0)))) ?_ ?_
  rotate_left
  · intro hCont
    refine three_ (i := 1) (j := 3) (k := 7) (Ni := some 9) (Nj := some 11) (Nk := some 2) #[true, true, true, false, false, false, false, false, false] #[true, false, true, true, false, false, false, false, false] #[true, false, true, false, false, false, false, true, false] rfl rfl rfl rfl rfl rfl (by kernel_rfl) (by decide) (by decide) (by decide) (fun K hK => ?_) (fun K hK => ?_) (fun K hK => ?_)
    · skip
      refine value_ (w1 := ?_) (v := ?_) (by rfl) rfl ?_ ?_
      rotate_left 2
      · go_simp
        constructor
        · rfl
        · rfl
      refine at_world (fun e1 he => ?_)
      have nD : e1.heap[wd.heap.size]? = some (.cells #[(.int .u8 0), (.int .u8 0), (.int .u8 0), (.int .u8 0), (.int .u8 0), (.int .u8 0), (.int .u8 0), (.int .u8 0)] 5 (0, 0)) := by rw [he]; exact heap_alloc_new _ _
      have hbE : Below wd.heap.size wd e1 := by rw [he]; exact (Below.refl _ _).alloc (Nat.le_refl _) _
      clear he
      have D9 := Lib.hid nD
      replace hbR := hbR.trans (hbE.mono hbR.size)
      clear nD hbE
      refine hK.out _ _ ⟨(hbR.cell (p := ⟨w.heap.size + 1, 0, none⟩) l_BSd).trans qd_0, (hbR.cell (p := ⟨w.heap.size + 1, 1, none⟩) l_BSd).trans qd_1, (hbR.cell (p := ⟨w.heap.size + 1, 2, none⟩) l_BSd).trans qd_2, (hbR.cell (p := ⟨w.heap.size + 1, 3, none⟩) l_BSd).trans qd_3, (hbR.cell (p := ⟨w.heap.size + 1, 4, none⟩) l_BSd).trans qd_4⟩ (fun hHeld => ?_)
      clear hK K
      refine norm_ (a' := ?_) ?_ ?_
      rotate_left
      · show Act.put _ (some 9) _ = _
        simp only [Act.put, List.setIfInBounds_toArray, List.set_cons_zero, List.set_cons_succ, i64_w, i32_w]
        rfl
      refine two_ (i := 3) (j := 7) (Ni := some 11) (Nj := some 2) #[true, true, true, true, false, false, false, false, false] #[true, true, true, false, false, false, false, true, false] rfl rfl rfl rfl (by kernel_rfl) (by decide) (by decide) (fun K hK => ?_) (fun K hK => ?_)
      · skip
        refine value_ (w1 := ?_) (v := ?_) (by rfl) rfl ?_ ?_
        rotate_left 2
        · go_simp
          constructor
          · rfl
          · rfl
        refine at_world (fun e2 he => ?_)
        have nD : e2.heap[e1.heap.size]? = some (.cells #[.int .i64 1, .int .i64 0, .int .i64 0, .slice none 0 0, .slice (some ⟨w.heap.size, 0, none⟩) 1 1] 25 (0, 0)) := by rw [he]; exact heap_alloc_new _ _
        have hbE : Below e1.heap.size e1 e2 := by rw [he]; exact (Below.refl _ _).alloc (Nat.le_refl _) _
        clear he
        replace D9 := Lib.hid (blk_below D9.out hbE)
        have D11 := Lib.hid nD
        replace hbR := hbR.trans (hbE.mono hbR.size)
        clear nD hbE
        refine hK.out _ _ ⟨(hbR.cell (p := ⟨w.heap.size + 1, 0, none⟩) l_BSd).trans qd_0, (hbR.cell (p := ⟨w.heap.size + 1, 1, none⟩) l_BSd).trans qd_1, (hbR.cell (p := ⟨w.heap.size + 1, 2, none⟩) l_BSd).trans qd_2, (hbR.cell (p := ⟨w.heap.size + 1, 3, none⟩) l_BSd).trans qd_3, (hbR.cell (p := ⟨w.heap.size + 1, 4, none⟩) l_BSd).trans qd_4⟩ (fun hHeld => ?_)
        clear hK K
        refine norm_ (a' := ?_) ?_ ?_
        rotate_left
        · show Act.put _ (some 11) _ = _
          simp only [Act.put, List.setIfInBounds_toArray, List.set_cons_zero, List.set_cons_succ, i64_w, i32_w]
          rfl
        refine pure_ (i := 4) (N := some 12) (v := ?_) (a' := ?_) #[true, true, true, true, true, false, false, false, false] rfl rfl (by kernel_rfl) (fun _ _ _ h => h) (Or.inl ⟨by rfl, ?_⟩) ?_ ?_
        rotate_left
        · intro w'
          go_simp
          with_reducible rfl
        rotate_left
        · simp only [Act.put, List.setIfInBounds_toArray, List.set_cons_zero, List.set_cons_succ, i64_w, i32_w]
          rfl
        refine two_ (i := 5) (j := 7) (Ni := some 13) (Nj := some 2) #[true, true, true, true, true, true, false, false, false] #[true, true, true, true, true, false, false, true, false] rfl rfl rfl rfl (by kernel_rfl) (by decide) (by decide) (fun K hK => ?_) (fun K hK => ?_)
        · skip
          refine value_ (w1 := ?_) (v := ?_) (by rfl) rfl ?_ ?_
          rotate_left 2
          · go_simp
            constructor
            · rfl
            · rfl
          refine at_world (fun e3 he => ?_)
          have nD : e3.heap[e2.heap.size]? = some (.cells #[.int .i64 1, .int .i64 0, .int .i64 0, .slice none 0 0, .slice none 0 0, .int .i64 1, .int .i64 0, .int .i64 0, .slice (some ⟨wd.heap.size, 0, none⟩) 8 8, .slice (some ⟨e1.heap.size, 0, none⟩) 1 1] 25 (0, 0)) := by rw [he]; exact heap_alloc_new _ _
          have hbE : Below e2.heap.size e2 e3 := by rw [he]; exact (Below.refl _ _).alloc (Nat.le_refl _) _
          clear he
          replace D9 := Lib.hid (blk_below D9.out hbE)
          replace D11 := Lib.hid (blk_below D11.out hbE)
          have D13 := Lib.hid nD
          replace hbR := hbR.trans (hbE.mono hbR.size)
          clear nD hbE
          refine hK.out _ _ ⟨(hbR.cell (p := ⟨w.heap.size + 1, 0, none⟩) l_BSd).trans qd_0, (hbR.cell (p := ⟨w.heap.size + 1, 1, none⟩) l_BSd).trans qd_1, (hbR.cell (p := ⟨w.heap.size + 1, 2, none⟩) l_BSd).trans qd_2, (hbR.cell (p := ⟨w.heap.size + 1, 3, none⟩) l_BSd).trans qd_3, (hbR.cell (p := ⟨w.heap.size + 1, 4, none⟩) l_BSd).trans qd_4⟩ (fun hHeld => ?_)
          clear hK K
          refine norm_ (a' := ?_) ?_ ?_
          rotate_left
          · show Act.put _ (some 13) _ = _
            simp only [Act.put, List.setIfInBounds_toArray, List.set_cons_zero, List.set_cons_succ, i64_w, i32_w]
            rfl
          refine pure_ (i := 6) (N := some 14) (v := ?_) (a' := ?_) #[true, true, true, true, true, true, true, false, false] rfl rfl (by kernel_rfl) (fun _ _ _ h => h) (Or.inl ⟨by rfl, ?_⟩) ?_ ?_
          rotate_left
          · intro w'
            go_simp
            with_reducible rfl
          rotate_left
          · simp only [Act.put, List.setIfInBounds_toArray, List.set_cons_zero, List.set_cons_succ, i64_w, i32_w]
            rfl
          refine one_ (i := 7) (N := some 2) #[true, true, true, true, true, true, true, true, false] rfl rfl (by kernel_rfl) (by decide) (fun K hK => ?_)
          refine value_ (w1 := ?_) (v := ?_) (by rfl) rfl ?_ ?_
          rotate_left 2
          · go_simp
            constructor
            · rfl
            · rfl
          refine at_world (fun e4 he => ?_)
          have nD : e4.heap[e3.heap.size]? = some (.cells #[.int .i64 0, .int .i64 0, .int .i64 0, .slice none 0 0, .slice none 0 0] 25 (0, 0)) := by rw [he]; exact heap_alloc_new _ _
          have hbE : Below e3.heap.size e3 e4 := by rw [he]; exact (Below.refl _ _).alloc (Nat.le_refl _) _
          clear he
          have hgl : wd.heap.size ≤ e3.heap.size := hbR.size
          replace D9 := Lib.hid (blk_below D9.out hbE)
          replace D11 := Lib.hid (blk_below D11.out hbE)
          replace D13 := Lib.hid (blk_below D13.out hbE)
          have Dl := Lib.hid nD
          replace hbR := hbR.trans (hbE.mono hbR.size)
          clear nD hbE
          refine hK.out _ _ ⟨(hbR.cell (p := ⟨w.heap.size + 1, 0, none⟩) l_BSd).trans qd_0, (hbR.cell (p := ⟨w.heap.size + 1, 1, none⟩) l_BSd).trans qd_1, (hbR.cell (p := ⟨w.heap.size + 1, 2, none⟩) l_BSd).trans qd_2, (hbR.cell (p := ⟨w.heap.size + 1, 3, none⟩) l_BSd).trans qd_3, (hbR.cell (p := ⟨w.heap.size + 1, 4, none⟩) l_BSd).trans qd_4⟩ (fun hHeld => ?_)
          clear hK K
          refine norm_ (a' := ?_) ?_ ?_
          rotate_left
          · show Act.put _ (some 2) _ = _
            simp only [Act.put, List.setIfInBounds_toArray, List.set_cons_zero, List.set_cons_succ, i64_w, i32_w]
            rfl
          exact norm_ (by simp only [putAll, Act.put, List.setIfInBounds_toArray, List.set_cons_zero, List.set_cons_succ]) (hCont (wd.heap.size, e1.heap.size, e2.heap.size, e3.heap.size) _ ⟨⟨(hbR.cell (p := ⟨w.heap.size + 1, 0, none⟩) l_BSd).trans qd_0, (hbR.cell (p := ⟨w.heap.size + 1, 1, none⟩) l_BSd).trans qd_1, (hbR.cell (p := ⟨w.heap.size + 1, 2, none⟩) l_BSd).trans qd_2, (hbR.cell (p := ⟨w.heap.size + 1, 3, none⟩) l_BSd).trans qd_3, (hbR.cell (p := ⟨w.heap.size + 1, 4, none⟩) l_BSd).trans qd_4⟩, hbR, hgl, D9, D11, D13, Dl⟩)
        · skip
          refine value_ (w1 := ?_) (v := ?_) (by rfl) rfl ?_ ?_
          rotate_left 2
          · go_simp
            constructor
            · rfl
            · rfl
          refine at_world (fun e3 he => ?_)
          have nD : e3.heap[e2.heap.size]? = some (.cells #[.int .i64 0, .int .i64 0, .int .i64 0, .slice none 0 0, .slice none 0 0] 25 (0, 0)) := by rw [he]; exact heap_alloc_new _ _
          have hbE : Below e2.heap.size e2 e3 := by rw [he]; exact (Below.refl _ _).alloc (Nat.le_refl _) _
          clear he
          have hgl : wd.heap.size ≤ e2.heap.size := hbR.size
          replace D9 := Lib.hid (blk_below D9.out hbE)
          replace D11 := Lib.hid (blk_below D11.out hbE)
          have Dl := Lib.hid nD
          replace hbR := hbR.trans (hbE.mono hbR.size)
          clear nD hbE
          refine hK.out _ _ ⟨(hbR.cell (p := ⟨w.heap.size + 1, 0, none⟩) l_BSd).trans qd_0, (hbR.cell (p := ⟨w.heap.size + 1, 1, none⟩) l_BSd).trans qd_1, (hbR.cell (p := ⟨w.heap.size + 1, 2, none⟩) l_BSd).trans qd_2, (hbR.cell (p := ⟨w.heap.size + 1, 3, none⟩) l_BSd).trans qd_3, (hbR.cell (p := ⟨w.heap.size + 1, 4, none⟩) l_BSd).trans qd_4⟩ (fun hHeld => ?_)
          clear hK K
          refine norm_ (a' := ?_) ?_ ?_
          rotate_left
          · show Act.put _ (some 2) _ = _
            simp only [Act.put, List.setIfInBounds_toArray, List.set_cons_zero, List.set_cons_succ, i64_w, i32_w]
            rfl
          refine one_ (i := 5) (N := some 13) #[true, true, true, true, true, true, false, true, false] rfl rfl (by kernel_rfl) (by decide) (fun K hK => ?_)
          refine value_ (w1 := ?_) (v := ?_) (by rfl) rfl ?_ ?_
          rotate_left 2
          · go_simp
            constructor
            · rfl
            · rfl
          refine at_world (fun e4 he => ?_)
          have nD : e4.heap[e3.heap.size]? = some (.cells #[.int .i64 1, .int .i64 0, .int .i64 0, .slice none 0 0, .slice none 0 0, .int .i64 1, .int .i64 0, .int .i64 0, .slice (some ⟨wd.heap.size, 0, none⟩) 8 8, .slice (some ⟨e1.heap.size, 0, none⟩) 1 1] 25 (0, 0)) := by rw [he]; exact heap_alloc_new _ _
          have hbE : Below e3.heap.size e3 e4 := by rw [he]; exact (Below.refl _ _).alloc (Nat.le_refl _) _
          clear he
          replace D9 := Lib.hid (blk_below D9.out hbE)
          replace D11 := Lib.hid (blk_below D11.out hbE)
          replace Dl := Lib.hid (blk_below Dl.out hbE)
          have D13 := Lib.hid nD
          replace hbR := hbR.trans (hbE.mono hbR.size)
          clear nD hbE
          refine hK.out _ _ ⟨(hbR.cell (p := ⟨w.heap.size + 1, 0, none⟩) l_BSd).trans qd_0, (hbR.cell (p := ⟨w.heap.size + 1, 1, none⟩) l_BSd).trans qd_1, (hbR.cell (p := ⟨w.heap.size + 1, 2, none⟩) l_BSd).trans qd_2, (hbR.cell (p := ⟨w.heap.size + 1, 3, none⟩) l_BSd).trans qd_3, (hbR.cell (p := ⟨w.heap.size + 1, 4, none⟩) l_BSd).trans qd_4⟩ (fun hHeld => ?_)
          clear hK K
          refine norm_ (a' := ?_) ?_ ?_
          rotate_left
          · show Act.put _ (some 13) _ = _
            simp only [Act.put, List.setIfInBounds_toArray, List.set_cons_zero, List.set_cons_succ, i64_w, i32_w]
            rfl
          refine pure_ (i := 6) (N := some 14) (v := ?_) (a' := ?_) #[true, true, true, true, true, true, true, true, false] rfl rfl (by kernel_rfl) (fun _ _ _ h => h) (Or.inl ⟨by rfl, ?_⟩) ?_ ?_
          rotate_left
          · intro w'
            go_simp
            with_reducible rfl
          rotate_left
          · simp only [Act.put, List.setIfInBounds_toArray, List.set_cons_zero, List.set_cons_succ, i64_w, i32_w]
            rfl
          exact norm_ (by simp only [putAll, Act.put, List.setIfInBounds_toArray, List.set_cons_zero, List.set_cons_succ]) (hCont (wd.heap.size, e1.heap.size, e3.heap.size, e2.heap.size) _ ⟨⟨(hbR.cell (p := ⟨w.heap.size + 1, 0, none⟩) l_BSd).trans qd_0, (hbR.cell (p := ⟨w.heap.size + 1, 1, none⟩) l_BSd).trans qd_1, (hbR.cell (p := ⟨w.heap.size + 1, 2, none⟩) l_BSd).trans qd_2, (hbR.cell (p := ⟨w.heap.size + 1, 3, none⟩) l_BSd).trans qd_3, (hbR.cell (p := ⟨w.heap.size + 1, 4, none⟩) l_BSd).trans qd_4⟩, hbR, hgl, D9, D11, D13, Dl⟩)
      · skip
        refine value_ (w1 := ?_) (v := ?_) (by rfl) rfl ?_ ?_
        rotate_left 2
        · go_simp
          constructor
          · rfl
          · rfl
        refine at_world (fun e2 he => ?_)
        have nD : e2.heap[e1.heap.size]? = some (.cells #[.int .i64 0, .int .i64 0, .int .i64 0, .slice none 0 0, .slice none 0 0] 25 (0, 0)) := by rw [he]; exact heap_alloc_new _ _
        have hbE : Below e1.heap.size e1 e2 := by rw [he]; exact (Below.refl _ _).alloc (Nat.le_refl _) _
        clear he
        have hgl : wd.heap.size ≤ e1.heap.size := hbR.size
        replace D9 := Lib.hid (blk_below D9.out hbE)
        have Dl := Lib.hid nD
        replace hbR := hbR.trans (hbE.mono hbR.size)
        clear nD hbE
        refine hK.out _ _ ⟨(hbR.cell (p := ⟨w.heap.size + 1, 0, none⟩) l_BSd).trans qd_0, (hbR.cell (p := ⟨w.heap.size + 1, 1, none⟩) l_BSd).trans qd_1, (hbR.cell (p := ⟨w.heap.size + 1, 2, none⟩) l_BSd).trans qd_2, (hbR.cell (p := ⟨w.heap.size + 1, 3, none⟩) l_BSd).trans qd_3, (hbR.cell (p := ⟨w.heap.size + 1, 4, none⟩) l_BSd).trans qd_4⟩ (fun hHeld => ?_)
        clear hK K
        refine norm_ (a' := ?_) ?_ ?_
        rotate_left
        · show Act.put _ (some 2) _ = _
          simp only [Act.put, List.setIfInBounds_toArray, List.set_cons_zero, List.set_cons_succ, i64_w, i32_w]
          rfl
        refine one_ (i := 3) (N := some 11) #[true, true, true, true, false, false, false, true, false] rfl rfl (by kernel_rfl) (by decide) (fun K hK => ?_)
        refine value_ (w1 := ?_) (v := ?_) (by rfl) rfl ?_ ?_
        rotate_left 2
        · go_simp
          constructor
          · rfl
          · rfl
        refine at_world (fun e3 he => ?_)
        have nD : e3.heap[e2.heap.size]? = some (.cells #[.int .i64 1, .int .i64 0, .int .i64 0, .slice none 0 0, .slice (some ⟨w.heap.size, 0, none⟩) 1 1] 25 (0, 0)) := by rw [he]; exact heap_alloc_new _ _
        have hbE : Below e2.heap.size e2 e3 := by rw [he]; exact (Below.refl _ _).alloc (Nat.le_refl _) _
        clear he
        replace D9 := Lib.hid (blk_below D9.out hbE)
        replace Dl := Lib.hid (blk_below Dl.out hbE)
        have D11 := Lib.hid nD
        replace hbR := hbR.trans (hbE.mono hbR.size)
        clear nD hbE
        refine hK.out _ _ ⟨(hbR.cell (p := ⟨w.heap.size + 1, 0, none⟩) l_BSd).trans qd_0, (hbR.cell (p := ⟨w.heap.size + 1, 1, none⟩) l_BSd).trans qd_1, (hbR.cell (p := ⟨w.heap.size + 1, 2, none⟩) l_BSd).trans qd_2, (hbR.cell (p := ⟨w.heap.size + 1, 3, none⟩) l_BSd).trans qd_3, (hbR.cell (p := ⟨w.heap.size + 1, 4, none⟩) l_BSd).trans qd_4⟩ (fun hHeld => ?_)
        clear hK K
        refine norm_ (a' := ?_) ?_ ?_
        rotate_left
        · show Act.put _ (some 11) _ = _
          simp only [Act.put, List.setIfInBounds_toArray, List.set_cons_zero, List.set_cons_succ, i64_w, i32_w]
          rfl
        refine pure_ (i := 4) (N := some 12) (v := ?_) (a' := ?_) #[true, true, true, true, true, false, false, true, false] rfl rfl (by kernel_rfl) (fun _ _ _ h => h) (Or.inl ⟨by rfl, ?_⟩) ?_ ?_
        rotate_left
        · intro w'
          go_simp
          with_reducible rfl
        rotate_left
        · simp only [Act.put, List.setIfInBounds_toArray, List.set_cons_zero, List.set_cons_succ, i64_w, i32_w]
          rfl
        refine one_ (i := 5) (N := some 13) #[true, true, true, true, true, true, false, true, false] rfl rfl (by kernel_rfl) (by decide) (fun K hK => ?_)
        refine value_ (w1 := ?_) (v := ?_) (by rfl) rfl ?_ ?_
        rotate_left 2
        · go_simp
          constructor
          · rfl
          · rfl
        refine at_world (fun e4 he => ?_)
        have nD : e4.heap[e3.heap.size]? = some (.cells #[.int .i64 1, .int .i64 0, .int .i64 0, .slice none 0 0, .slice none 0 0, .int .i64 1, .int .i64 0, .int .i64 0, .slice (some ⟨wd.heap.size, 0, none⟩) 8 8, .slice (some ⟨e2.heap.size, 0, none⟩) 1 1] 25 (0, 0)) := by rw [he]; exact heap_alloc_new _ _
        have hbE : Below e3.heap.size e3 e4 := by rw [he]; exact (Below.refl _ _).alloc (Nat.le_refl _) _
        clear he
        replace D9 := Lib.hid (blk_below D9.out hbE)
        replace Dl := Lib.hid (blk_below Dl.out hbE)
        replace D11 := Lib.hid (blk_below D11.out hbE)
        have D13 := Lib.hid nD
        replace hbR := hbR.trans (hbE.mono hbR.size)
        clear nD hbE
        refine hK.out _ _ ⟨(hbR.cell (p := ⟨w.heap.size + 1, 0, none⟩) l_BSd).trans qd_0, (hbR.cell (p := ⟨w.heap.size + 1, 1, none⟩) l_BSd).trans qd_1, (hbR.cell (p := ⟨w.heap.size + 1, 2, none⟩) l_BSd).trans qd_2, (hbR.cell (p := ⟨w.heap.size + 1, 3, none⟩) l_BSd).trans qd_3, (hbR.cell (p := ⟨w.heap.size + 1, 4, none⟩) l_BSd).trans qd_4⟩ (fun hHeld => ?_)
        clear hK K
        refine norm_ (a' := ?_) ?_ ?_
        rotate_left
        · show Act.put _ (some 13) _ = _
          simp only [Act.put, List.setIfInBounds_toArray, List.set_cons_zero, List.set_cons_succ, i64_w, i32_w]
          rfl
        refine pure_ (i := 6) (N := some 14) (v := ?_) (a' := ?_) #[true, true, true, true, true, true, true, true, false] rfl rfl (by kernel_rfl) (fun _ _ _ h => h) (Or.inl ⟨by rfl, ?_⟩) ?_ ?_
        rotate_left
        · intro w'
          go_simp
          with_reducible rfl
        rotate_left
        · simp only [Act.put, List.setIfInBounds_toArray, List.set_cons_zero, List.set_cons_succ, i64_w, i32_w]
          rfl
        exact norm_ (by simp only [putAll, Act.put, List.setIfInBounds_toArray, List.set_cons_zero, List.set_cons_succ]) (hCont (wd.heap.size, e2.heap.size, e3.heap.size, e1.heap.size) _ ⟨⟨(hbR.cell (p := ⟨w.heap.size + 1, 0, none⟩) l_BSd).trans qd_0, (hbR.cell (p := ⟨w.heap.size + 1, 1, none⟩) l_BSd).trans qd_1, (hbR.cell (p := ⟨w.heap.size + 1, 2, none⟩) l_BSd).trans qd_2, (hbR.cell (p := ⟨w.heap.size + 1, 3, none⟩) l_BSd).trans qd_3, (hbR.cell (p := ⟨w.heap.size + 1, 4, none⟩) l_BSd).trans qd_4⟩, hbR, hgl, D9, D11, D13, Dl⟩)
    · skip
      refine value_ (w1 := ?_) (v := ?_) (by rfl) rfl ?_ ?_
      rotate_left 2
      · go_simp
        constructor
        · rfl
        · rfl
      refine at_world (fun e1 he => ?_)
      have nD : e1.heap[wd.heap.size]? = some (.cells #[.int .i64 1, .int .i64 0, .int .i64 0, .slice none 0 0, .slice (some ⟨w.heap.size, 0, none⟩) 1 1] 25 (0, 0)) := by rw [he]; exact heap_alloc_new _ _
      have hbE : Below wd.heap.size wd e1 := by rw [he]; exact (Below.refl _ _).alloc (Nat.le_refl _) _
      clear he
      have D11 := Lib.hid nD
      replace hbR := hbR.trans (hbE.mono hbR.size)
      clear nD hbE
      refine hK.out _ _ ⟨(hbR.cell (p := ⟨w.heap.size + 1, 0, none⟩) l_BSd).trans qd_0, (hbR.cell (p := ⟨w.heap.size + 1, 1, none⟩) l_BSd).trans qd_1, (hbR.cell (p := ⟨w.heap.size + 1, 2, none⟩) l_BSd).trans qd_2, (hbR.cell (p := ⟨w.heap.size + 1, 3, none⟩) l_BSd).trans qd_3, (hbR.cell (p := ⟨w.heap.size + 1, 4, none⟩) l_BSd).trans qd_4⟩ (fun hHeld => ?_)
      clear hK K
      refine norm_ (a' := ?_) ?_ ?_
      rotate_left
      · show Act.put _ (some 11) _ = _
        simp only [Act.put, List.setIfInBounds_toArray, List.set_cons_zero, List.set_cons_succ, i64_w, i32_w]
        rfl
      refine two_ (i := 1) (j := 7) (Ni := some 9) (Nj := some 2) #[true, true, true, true, false, false, false, false, false] #[true, false, true, true, false, false, false, true, false] rfl rfl rfl rfl (by kernel_rfl) (by decide) (by decide) (fun K hK => ?_) (fun K hK => ?_)
      · skip
        refine value_ (w1 := ?_) (v := ?_) (by rfl) rfl ?_ ?_
        rotate_left 2
        · go_simp
          constructor
          · rfl
          · rfl
        refine at_world (fun e2 he => ?_)
        have nD : e2.heap[e1.heap.size]? = some (.cells #[(.int .u8 0), (.int .u8 0), (.int .u8 0), (.int .u8 0), (.int .u8 0), (.int .u8 0), (.int .u8 0), (.int .u8 0)] 5 (0, 0)) := by rw [he]; exact heap_alloc_new _ _
        have hbE : Below e1.heap.size e1 e2 := by rw [he]; exact (Below.refl _ _).alloc (Nat.le_refl _) _
        clear he
        replace D11 := Lib.hid (blk_below D11.out hbE)
        have D9 := Lib.hid nD
        replace hbR := hbR.trans (hbE.mono hbR.size)
        clear nD hbE
        refine hK.out _ _ ⟨(hbR.cell (p := ⟨w.heap.size + 1, 0, none⟩) l_BSd).trans qd_0, (hbR.cell (p := ⟨w.heap.size + 1, 1, none⟩) l_BSd).trans qd_1, (hbR.cell (p := ⟨w.heap.size + 1, 2, none⟩) l_BSd).trans qd_2, (hbR.cell (p := ⟨w.heap.size + 1, 3, none⟩) l_BSd).trans qd_3, (hbR.cell (p := ⟨w.heap.size + 1, 4, none⟩) l_BSd).trans qd_4⟩ (fun hHeld => ?_)
        clear hK K
        refine norm_ (a' := ?_) ?_ ?_
        rotate_left
        · show Act.put _ (some 9) _ = _
          simp only [Act.put, List.setIfInBounds_toArray, List.set_cons_zero, List.set_cons_succ, i64_w, i32_w]
          rfl
        refine pure_ (i := 4) (N := some 12) (v := ?_) (a' := ?_) #[true, true, true, true, true, false, false, false, false] rfl rfl (by kernel_rfl) (fun _ _ _ h => h) (Or.inl ⟨by rfl, ?_⟩) ?_ ?_
        rotate_left
        · intro w'
          go_simp
          with_reducible rfl
        rotate_left
        · simp only [Act.put, List.setIfInBounds_toArray, List.set_cons_zero, List.set_cons_succ, i64_w, i32_w]
          rfl
        refine two_ (i := 5) (j := 7) (Ni := some 13) (Nj := some 2) #[true, true, true, true, true, true, false, false, false] #[true, true, true, true, true, false, false, true, false] rfl rfl rfl rfl (by kernel_rfl) (by decide) (by decide) (fun K hK => ?_) (fun K hK => ?_)
        · skip
          refine value_ (w1 := ?_) (v := ?_) (by rfl) rfl ?_ ?_
          rotate_left 2
          · go_simp
            constructor
            · rfl
            · rfl
          refine at_world (fun e3 he => ?_)
          have nD : e3.heap[e2.heap.size]? = some (.cells #[.int .i64 1, .int .i64 0, .int .i64 0, .slice none 0 0, .slice none 0 0, .int .i64 1, .int .i64 0, .int .i64 0, .slice (some ⟨e1.heap.size, 0, none⟩) 8 8, .slice (some ⟨wd.heap.size, 0, none⟩) 1 1] 25 (0, 0)) := by rw [he]; exact heap_alloc_new _ _
          have hbE : Below e2.heap.size e2 e3 := by rw [he]; exact (Below.refl _ _).alloc (Nat.le_refl _) _
          clear he
          replace D11 := Lib.hid (blk_below D11.out hbE)
          replace D9 := Lib.hid (blk_below D9.out hbE)
          have D13 := Lib.hid nD
          replace hbR := hbR.trans (hbE.mono hbR.size)
          clear nD hbE
          refine hK.out _ _ ⟨(hbR.cell (p := ⟨w.heap.size + 1, 0, none⟩) l_BSd).trans qd_0, (hbR.cell (p := ⟨w.heap.size + 1, 1, none⟩) l_BSd).trans qd_1, (hbR.cell (p := ⟨w.heap.size + 1, 2, none⟩) l_BSd).trans qd_2, (hbR.cell (p := ⟨w.heap.size + 1, 3, none⟩) l_BSd).trans qd_3, (hbR.cell (p := ⟨w.heap.size + 1, 4, none⟩) l_BSd).trans qd_4⟩ (fun hHeld => ?_)
          clear hK K
          refine norm_ (a' := ?_) ?_ ?_
          rotate_left
          · show Act.put _ (some 13) _ = _
            simp only [Act.put, List.setIfInBounds_toArray, List.set_cons_zero, List.set_cons_succ, i64_w, i32_w]
            rfl
          refine pure_ (i := 6) (N := some 14) (v := ?_) (a' := ?_) #[true, true, true, true, true, true, true, false, false] rfl rfl (by kernel_rfl) (fun _ _ _ h => h) (Or.inl ⟨by rfl, ?_⟩) ?_ ?_
          rotate_left
          · intro w'
            go_simp
            with_reducible rfl
          rotate_left
          · simp only [Act.put, List.setIfInBounds_toArray, List.set_cons_zero, List.set_cons_succ, i64_w, i32_w]
            rfl
          refine one_ (i := 7) (N := some 2) #[true, true, true, true, true, true, true, true, false] rfl rfl (by kernel_rfl) (by decide) (fun K hK => ?_)
          refine value_ (w1 := ?_) (v := ?_) (by rfl) rfl ?_ ?_
          rotate_left 2
          · go_simp
            constructor
            · rfl
            · rfl
          refine at_world (fun e4 he => ?_)
          have nD : e4.heap[e3.heap.size]? = some (.cells #[.int .i64 0, .int .i64 0, .int .i64 0, .slice none 0 0, .slice none 0 0] 25 (0, 0)) := by rw [he]; exact heap_alloc_new _ _
          have hbE : Below e3.heap.size e3 e4 := by rw [he]; exact (Below.refl _ _).alloc (Nat.le_refl _) _
          clear he
          have hgl : wd.heap.size ≤ e3.heap.size := hbR.size
          replace D11 := Lib.hid (blk_below D11.out hbE)
          replace D9 := Lib.hid (blk_below D9.out hbE)
          replace D13 := Lib.hid (blk_below D13.out hbE)
          have Dl := Lib.hid nD
          replace hbR := hbR.trans (hbE.mono hbR.size)
          clear nD hbE
          refine hK.out _ _ ⟨(hbR.cell (p := ⟨w.heap.size + 1, 0, none⟩) l_BSd).trans qd_0, (hbR.cell (p := ⟨w.heap.size + 1, 1, none⟩) l_BSd).trans qd_1, (hbR.cell (p := ⟨w.heap.size + 1, 2, none⟩) l_BSd).trans qd_2, (hbR.cell (p := ⟨w.heap.size + 1, 3, none⟩) l_BSd).trans qd_3, (hbR.cell (p := ⟨w.heap.size + 1, 4, none⟩) l_BSd).trans qd_4⟩ (fun hHeld => ?_)
          clear hK K
          refine norm_ (a' := ?_) ?_ ?_
          rotate_left
          · show Act.put _ (some 2) _ = _
            simp only [Act.put, List.setIfInBounds_toArray, List.set_cons_zero, List.set_cons_succ, i64_w, i32_w]
            rfl
          exact norm_ (by simp only [putAll, Act.put, List.setIfInBounds_toArray, List.set_cons_zero, List.set_cons_succ]) (hCont (e1.heap.size, wd.heap.size, e2.heap.size, e3.heap.size) _ ⟨⟨(hbR.cell (p := ⟨w.heap.size + 1, 0, none⟩) l_BSd).trans qd_0, (hbR.cell (p := ⟨w.heap.size + 1, 1, none⟩) l_BSd).trans qd_1, (hbR.cell (p := ⟨w.heap.size + 1, 2, none⟩) l_BSd).trans qd_2, (hbR.cell (p := ⟨w.heap.size + 1, 3, none⟩) l_BSd).trans qd_3, (hbR.cell (p := ⟨w.heap.size + 1, 4, none⟩) l_BSd).trans qd_4⟩, hbR, hgl, D9, D11, D13, Dl⟩)
        · skip
          refine value_ (w1 := ?_) (v := ?_) (by rfl) rfl ?_ ?_
          rotate_left 2
          · go_simp
            constructor
            · rfl
            · rfl
          refine at_world (fun e3 he => ?_)
          have nD : e3.heap[e2.heap.size]? = some (.cells #[.int .i64 0, .int .i64 0, .int .i64 0, .slice none 0 0, .slice none 0 0] 25 (0, 0)) := by rw [he]; exact heap_alloc_new _ _
          have hbE : Below e2.heap.size e2 e3 := by rw [he]; exact (Below.refl _ _).alloc (Nat.le_refl _) _
          clear he
          have hgl : wd.heap.size ≤ e2.heap.size := hbR.size
          replace D11 := Lib.hid (blk_below D11.out hbE)
          replace D9 := Lib.hid (blk_below D9.out hbE)
          have Dl := Lib.hid nD
          replace hbR := hbR.trans (hbE.mono hbR.size)
          clear nD hbE
          refine hK.out _ _ ⟨(hbR.cell (p := ⟨w.heap.size + 1, 0, none⟩) l_BSd).trans qd_0, (hbR.cell (p := ⟨w.heap.size + 1, 1, none⟩) l_BSd).trans qd_1, (hbR.cell (p := ⟨w.heap.size + 1, 2, none⟩) l_BSd).trans qd_2, (hbR.cell (p := ⟨w.heap.size + 1, 3, none⟩) l_BSd).trans qd_3, (hbR.cell (p := ⟨w.heap.size + 1, 4, none⟩) l_BSd).trans qd_4⟩ (fun hHeld => ?_)
          clear hK K
          refine norm_ (a' := ?_) ?_ ?_
          rotate_left
          · show Act.put _ (some 2) _ = _
            simp only [Act.put, List.setIfInBounds_toArray, List.set_cons_zero, List.set_cons_succ, i64_w, i32_w]
            rfl
          refine one_ (i := 5) (N := some 13) #[true, true, true, true, true, true, false, true, false] rfl rfl (by kernel_rfl) (by decide) (fun K hK => ?_)
          refine value_ (w1 := ?_) (v := ?_) (by rfl) rfl ?_ ?_
          rotate_left 2
          · go_simp
            constructor
            · rfl
            · rfl
          refine at_world (fun e4 he => ?_)
          have nD : e4.heap[e3.heap.size]? = some (.cells #[.int .i64 1, .int .i64 0, .int .i64 0, .slice none 0 0, .slice none 0 0, .int .i64 1, .int .i64 0, .int .i64 0, .slice (some ⟨e1.heap.size, 0, none⟩) 8 8, .slice (some ⟨wd.heap.size, 0, none⟩) 1 1] 25 (0, 0)) := by rw [he]; exact heap_alloc_new _ _
          have hbE : Below e3.heap.size e3 e4 := by rw [he]; exact (Below.refl _ _).alloc (Nat.le_refl _) _
          clear he
          replace D11 := Lib.hid (blk_below D11.out hbE)
          replace D9 := Lib.hid (blk_below D9.out hbE)
          replace Dl := Lib.hid (blk_below Dl.out hbE)
          have D13 := Lib.hid nD
          replace hbR := hbR.trans (hbE.mono hbR.size)
          clear nD hbE
          refine hK.out _ _ ⟨(hbR.cell (p := ⟨w.heap.size + 1, 0, none⟩) l_BSd).trans qd_0, (hbR.cell (p := ⟨w.heap.size + 1, 1, none⟩) l_BSd).trans qd_1, (hbR.cell (p := ⟨w.heap.size + 1, 2, none⟩) l_BSd).trans qd_2, (hbR.cell (p := ⟨w.heap.size + 1, 3, none⟩) l_BSd).trans qd_3, (hbR.cell (p := ⟨w.heap.size + 1, 4, none⟩) l_BSd).trans qd_4⟩ (fun hHeld => ?_)
          clear hK K
          refine norm_ (a' := ?_) ?_ ?_
          rotate_left
          · show Act.put _ (some 13) _ = _
            simp only [Act.put, List.setIfInBounds_toArray, List.set_cons_zero, List.set_cons_succ, i64_w, i32_w]
            rfl
          refine pure_ (i := 6) (N := some 14) (v := ?_) (a' := ?_) #[true, true, true, true, true, true, true, true, false] rfl rfl (by kernel_rfl) (fun _ _ _ h => h) (Or.inl ⟨by rfl, ?_⟩) ?_ ?_
          rotate_left
          · intro w'
            go_simp
            with_reducible rfl
          rotate_left
          · simp only [Act.put, List.setIfInBounds_toArray, List.set_cons_zero, List.set_cons_succ, i64_w, i32_w]
            rfl
          exact norm_ (by simp only [putAll, Act.put, List.setIfInBounds_toArray, List.set_cons_zero, List.set_cons_succ]) (hCont (e1.heap.size, wd.heap.size, e3.heap.size, e2.heap.size) _ ⟨⟨(hbR.cell (p := ⟨w.heap.size + 1, 0, none⟩) l_BSd).trans qd_0, (hbR.cell (p := ⟨w.heap.size + 1, 1, none⟩) l_BSd).trans qd_1, (hbR.cell (p := ⟨w.heap.size + 1, 2, none⟩) l_BSd).trans qd_2, (hbR.cell (p := ⟨w.heap.size + 1, 3, none⟩) l_BSd).trans qd_3, (hbR.cell (p := ⟨w.heap.size + 1, 4, none⟩) l_BSd).trans qd_4⟩, hbR, hgl, D9, D11, D13, Dl⟩)
      · skip
        refine value_ (w1 := ?_) (v := ?_) (by rfl) rfl ?_ ?_
        rotate_left 2
        · go_simp
          constructor
          · rfl
          · rfl
        refine at_world (fun e2 he => ?_)
        have nD : e2.heap[e1.heap.size]? = some (.cells #[.int .i64 0, .int .i64 0, .int .i64 0, .slice none 0 0, .slice none 0 0] 25 (0, 0)) := by rw [he]; exact heap_alloc_new _ _
        have hbE : Below e1.heap.size e1 e2 := by rw [he]; exact (Below.refl _ _).alloc (Nat.le_refl _) _
        clear he
        have hgl : wd.heap.size ≤ e1.heap.size := hbR.size
        replace D11 := Lib.hid (blk_below D11.out hbE)
        have Dl := Lib.hid nD
        replace hbR := hbR.trans (hbE.mono hbR.size)
        clear nD hbE
        refine hK.out _ _ ⟨(hbR.cell (p := ⟨w.heap.size + 1, 0, none⟩) l_BSd).trans qd_0, (hbR.cell (p := ⟨w.heap.size + 1, 1, none⟩) l_BSd).trans qd_1, (hbR.cell (p := ⟨w.heap.size + 1, 2, none⟩) l_BSd).trans qd_2, (hbR.cell (p := ⟨w.heap.size + 1, 3, none⟩) l_BSd).trans qd_3, (hbR.cell (p := ⟨w.heap.size + 1, 4, none⟩) l_BSd).trans qd_4⟩ (fun hHeld => ?_)
        clear hK K
        refine norm_ (a' := ?_) ?_ ?_
        rotate_left
        · show Act.put _ (some 2) _ = _
          simp only [Act.put, List.setIfInBounds_toArray, List.set_cons_zero, List.set_cons_succ, i64_w, i32_w]
          rfl
        refine one_ (i := 1) (N := some 9) #[true, true, true, true, false, false, false, true, false] rfl rfl (by kernel_rfl) (by decide) (fun K hK => ?_)
        refine value_ (w1 := ?_) (v := ?_) (by rfl) rfl ?_ ?_
        rotate_left 2
        · go_simp
          constructor
          · rfl
          · rfl
        refine at_world (fun e3 he => ?_)
        have nD : e3.heap[e2.heap.size]? = some (.cells #[(.int .u8 0), (.int .u8 0), (.int .u8 0), (.int .u8 0), (.int .u8 0), (.int .u8 0), (.int .u8 0), (.int .u8 0)] 5 (0, 0)) := by rw [he]; exact heap_alloc_new _ _
        have hbE : Below e2.heap.size e2 e3 := by rw [he]; exact (Below.refl _ _).alloc (Nat.le_refl _) _
        clear he
        replace D11 := Lib.hid (blk_below D11.out hbE)
        replace Dl := Lib.hid (blk_below Dl.out hbE)
        have D9 := Lib.hid nD
        replace hbR := hbR.trans (hbE.mono hbR.size)
        clear nD hbE
        refine hK.out _ _ ⟨(hbR.cell (p := ⟨w.heap.size + 1, 0, none⟩) l_BSd).trans qd_0, (hbR.cell (p := ⟨w.heap.size + 1, 1, none⟩) l_BSd).trans qd_1, (hbR.cell (p := ⟨w.heap.size + 1, 2, none⟩) l_BSd).trans qd_2, (hbR.cell (p := ⟨w.heap.size + 1, 3, none⟩) l_BSd).trans qd_3, (hbR.cell (p := ⟨w.heap.size + 1, 4, none⟩) l_BSd).trans qd_4⟩ (fun hHeld => ?_)
        clear hK K
        refine norm_ (a' := ?_) ?_ ?_
        rotate_left
        · show Act.put _ (some 9) _ = _
          simp only [Act.put, List.setIfInBounds_toArray, List.set_cons_zero, List.set_cons_succ, i64_w, i32_w]
          rfl
        refine pure_ (i := 4) (N := some 12) (v := ?_) (a' := ?_) #[true, true, true, true, true, false, false, true, false] rfl rfl (by kernel_rfl) (fun _ _ _ h => h) (Or.inl ⟨by rfl, ?_⟩) ?_ ?_
        rotate_left
        · intro w'
          go_simp
          with_reducible rfl
        rotate_left
        · simp only [Act.put, List.setIfInBounds_toArray, List.set_cons_zero, List.set_cons_succ, i64_w, i32_w]
          rfl
        refine one_ (i := 5) (N := some 13) #[true, true, true, true, true, true, false, true, false] rfl rfl (by kernel_rfl) (by decide) (fun K hK => ?_)
        refine value_ (w1 := ?_) (v := ?_) (by rfl) rfl ?_ ?_
        rotate_left 2
        · go_simp
          constructor
          · rfl
          · rfl
        refine at_world (fun e4 he => ?_)
        have nD : e4.heap[e3.heap.size]? = some (.cells #[.int .i64 1, .int .i64 0, .int .i64 0, .slice none 0 0, .slice none 0 0, .int .i64 1, .int .i64 0, .int .i64 0, .slice (some ⟨e2.heap.size, 0, none⟩) 8 8, .slice (some ⟨wd.heap.size, 0, none⟩) 1 1] 25 (0, 0)) := by rw [he]; exact heap_alloc_new _ _
        have hbE : Below e3.heap.size e3 e4 := by rw [he]; exact (Below.refl _ _).alloc (Nat.le_refl _) _
        clear he
        replace D11 := Lib.hid (blk_below D11.out hbE)
        replace Dl := Lib.hid (blk_below Dl.out hbE)
        replace D9 := Lib.hid (blk_below D9.out hbE)
        have D13 := Lib.hid nD
        replace hbR := hbR.trans (hbE.mono hbR.size)
        clear nD hbE
        refine hK.out _ _ ⟨(hbR.cell (p := ⟨w.heap.size + 1, 0, none⟩) l_BSd).trans qd_0, (hbR.cell (p := ⟨w.heap.size + 1, 1, none⟩) l_BSd).trans qd_1, (hbR.cell (p := ⟨w.heap.size + 1, 2, none⟩) l_BSd).trans qd_2, (hbR.cell (p := ⟨w.heap.size + 1, 3, none⟩) l_BSd).trans qd_3, (hbR.cell (p := ⟨w.heap.size + 1, 4, none⟩) l_BSd).trans qd_4⟩ (fun hHeld => ?_)
        clear hK K
        refine norm_ (a' := ?_) ?_ ?_
        rotate_left
        · show Act.put _ (some 13) _ = _
          simp only [Act.put, List.setIfInBounds_toArray, List.set_cons_zero, List.set_cons_succ, i64_w, i32_w]
          rfl
        refine pure_ (i := 6) (N := some 14) (v := ?_) (a' := ?_) #[true, true, true, true, true, true, true, true, false] rfl rfl (by kernel_rfl) (fun _ _ _ h => h) (Or.inl ⟨by rfl, ?_⟩) ?_ ?_
        rotate_left
        · intro w'
          go_simp
          with_reducible rfl
        rotate_left
        · simp only [Act.put, List.setIfInBounds_toArray, List.set_cons_zero, List.set_cons_succ, i64_w, i32_w]
          rfl
        exact norm_ (by simp only [putAll, Act.put, List.setIfInBounds_toArray, List.set_cons_zero, List.set_cons_succ]) (hCont (e2.heap.size, wd.heap.size, e3.heap.size, e1.heap.size) _ ⟨⟨(hbR.cell (p := ⟨w.heap.size + 1, 0, none⟩) l_BSd).trans qd_0, (hbR.cell (p := ⟨w.heap.size + 1, 1, none⟩) l_BSd).trans qd_1, (hbR.cell (p := ⟨w.heap.size + 1, 2, none⟩) l_BSd).trans qd_2, (hbR.cell (p := ⟨w.heap.size + 1, 3, none⟩) l_BSd).trans qd_3, (hbR.cell (p := ⟨w.heap.size + 1, 4, none⟩) l_BSd).trans qd_4⟩, hbR, hgl, D9, D11, D13, Dl⟩)
    · skip
      refine value_ (w1 := ?_) (v := ?_) (by rfl) rfl ?_ ?_
      rotate_left 2
      · go_simp
        constructor
        · rfl
        · rfl
      refine at_world (fun e1 he => ?_)
      have nD : e1.heap[wd.heap.size]? = some (.cells #[.int .i64 0, .int .i64 0, .int .i64 0, .slice none 0 0, .slice none 0 0] 25 (0, 0)) := by rw [he]; exact heap_alloc_new _ _
      have hbE : Below wd.heap.size wd e1 := by rw [he]; exact (Below.refl _ _).alloc (Nat.le_refl _) _
      clear he
      have hgl : wd.heap.size ≤ wd.heap.size := hbR.size
      have Dl := Lib.hid nD
      replace hbR := hbR.trans (hbE.mono hbR.size)
      clear nD hbE
      refine hK.out _ _ ⟨(hbR.cell (p := ⟨w.heap.size + 1, 0, none⟩) l_BSd).trans qd_0, (hbR.cell (p := ⟨w.heap.size + 1, 1, none⟩) l_BSd).trans qd_1, (hbR.cell (p := ⟨w.heap.size + 1, 2, none⟩) l_BSd).trans qd_2, (hbR.cell (p := ⟨w.heap.size + 1, 3, none⟩) l_BSd).trans qd_3, (hbR.cell (p := ⟨w.heap.size + 1, 4, none⟩) l_BSd).trans qd_4⟩ (fun hHeld => ?_)
      clear hK K
      refine norm_ (a' := ?_) ?_ ?_
      rotate_left
      · show Act.put _ (some 2) _ = _
        simp only [Act.put, List.setIfInBounds_toArray, List.set_cons_zero, List.set_cons_succ, i64_w, i32_w]
        rfl
      refine two_ (i := 1) (j := 3) (Ni := some 9) (Nj := some 11) #[true, true, true, false, false, false, false, true, false] #[true, false, true, true, false, false, false, true, false] rfl rfl rfl rfl (by kernel_rfl) (by decide) (by decide) (fun K hK => ?_) (fun K hK => ?_)
      · skip
        refine value_ (w1 := ?_) (v := ?_) (by rfl) rfl ?_ ?_
        rotate_left 2
        · go_simp
          constructor
          · rfl
          · rfl
        refine at_world (fun e2 he => ?_)
        have nD : e2.heap[e1.heap.size]? = some (.cells #[(.int .u8 0), (.int .u8 0), (.int .u8 0), (.int .u8 0), (.int .u8 0), (.int .u8 0), (.int .u8 0), (.int .u8 0)] 5 (0, 0)) := by rw [he]; exact heap_alloc_new _ _
        have hbE : Below e1.heap.size e1 e2 := by rw [he]; exact (Below.refl _ _).alloc (Nat.le_refl _) _
        clear he
        replace Dl := Lib.hid (blk_below Dl.out hbE)
        have D9 := Lib.hid nD
        replace hbR := hbR.trans (hbE.mono hbR.size)
        clear nD hbE
        refine hK.out _ _ ⟨(hbR.cell (p := ⟨w.heap.size + 1, 0, none⟩) l_BSd).trans qd_0, (hbR.cell (p := ⟨w.heap.size + 1, 1, none⟩) l_BSd).trans qd_1, (hbR.cell (p := ⟨w.heap.size + 1, 2, none⟩) l_BSd).trans qd_2, (hbR.cell (p := ⟨w.heap.size + 1, 3, none⟩) l_BSd).trans qd_3, (hbR.cell (p := ⟨w.heap.size + 1, 4, none⟩) l_BSd).trans qd_4⟩ (fun hHeld => ?_)
        clear hK K
        refine norm_ (a' := ?_) ?_ ?_
        rotate_left
        · show Act.put _ (some 9) _ = _
          simp only [Act.put, List.setIfInBounds_toArray, List.set_cons_zero, List.set_cons_succ, i64_w, i32_w]
          rfl
        refine one_ (i := 3) (N := some 11) #[true, true, true, true, false, false, false, true, false] rfl rfl (by kernel_rfl) (by decide) (fun K hK => ?_)
        refine value_ (w1 := ?_) (v := ?_) (by rfl) rfl ?_ ?_
        rotate_left 2
        · go_simp
          constructor
          · rfl
          · rfl
        refine at_world (fun e3 he => ?_)
        have nD : e3.heap[e2.heap.size]? = some (.cells #[.int .i64 1, .int .i64 0, .int .i64 0, .slice none 0 0, .slice (some ⟨w.heap.size, 0, none⟩) 1 1] 25 (0, 0)) := by rw [he]; exact heap_alloc_new _ _
        have hbE : Below e2.heap.size e2 e3 := by rw [he]; exact (Below.refl _ _).alloc (Nat.le_refl _) _
        clear he
        replace Dl := Lib.hid (blk_below Dl.out hbE)
        replace D9 := Lib.hid (blk_below D9.out hbE)
        have D11 := Lib.hid nD
        replace hbR := hbR.trans (hbE.mono hbR.size)
        clear nD hbE
        refine hK.out _ _ ⟨(hbR.cell (p := ⟨w.heap.size + 1, 0, none⟩) l_BSd).trans qd_0, (hbR.cell (p := ⟨w.heap.size + 1, 1, none⟩) l_BSd).trans qd_1, (hbR.cell (p := ⟨w.heap.size + 1, 2, none⟩) l_BSd).trans qd_2, (hbR.cell (p := ⟨w.heap.size + 1, 3, none⟩) l_BSd).trans qd_3, (hbR.cell (p := ⟨w.heap.size + 1, 4, none⟩) l_BSd).trans qd_4⟩ (fun hHeld => ?_)
        clear hK K
        refine norm_ (a' := ?_) ?_ ?_
        rotate_left
        · show Act.put _ (some 11) _ = _
          simp only [Act.put, List.setIfInBounds_toArray, List.set_cons_zero, List.set_cons_succ, i64_w, i32_w]
          rfl
        refine pure_ (i := 4) (N := some 12) (v := ?_) (a' := ?_) #[true, true, true, true, true, false, false, true, false] rfl rfl (by kernel_rfl) (fun _ _ _ h => h) (Or.inl ⟨by rfl, ?_⟩) ?_ ?_
        rotate_left
        · intro w'
          go_simp
          with_reducible rfl
        rotate_left
        · simp only [Act.put, List.setIfInBounds_toArray, List.set_cons_zero, List.set_cons_succ, i64_w, i32_w]
          rfl
        refine one_ (i := 5) (N := some 13) #[true, true, true, true, true, true, false, true, false] rfl rfl (by kernel_rfl) (by decide) (fun K hK => ?_)
        refine value_ (w1 := ?_) (v := ?_) (by rfl) rfl ?_ ?_
        rotate_left 2
        · go_simp
          constructor
          · rfl
          · rfl
        refine at_world (fun e4 he => ?_)
        have nD : e4.heap[e3.heap.size]? = some (.cells #[.int .i64 1, .int .i64 0, .int .i64 0, .slice none 0 0, .slice none 0 0, .int .i64 1, .int .i64 0, .int .i64 0, .slice (some ⟨e1.heap.size, 0, none⟩) 8 8, .slice (some ⟨e2.heap.size, 0, none⟩) 1 1] 25 (0, 0)) := by rw [he]; exact heap_alloc_new _ _
        have hbE : Below e3.heap.size e3 e4 := by rw [he]; exact (Below.refl _ _).alloc (Nat.le_refl _) _
        clear he
        replace Dl := Lib.hid (blk_below Dl.out hbE)
        replace D9 := Lib.hid (blk_below D9.out hbE)
        replace D11 := Lib.hid (blk_below D11.out hbE)
        have D13 := Lib.hid nD
        replace hbR := hbR.trans (hbE.mono hbR.size)
        clear nD hbE
        refine hK.out _ _ ⟨(hbR.cell (p := ⟨w.heap.size + 1, 0, none⟩) l_BSd).trans qd_0, (hbR.cell (p := ⟨w.heap.size + 1, 1, none⟩) l_BSd).trans qd_1, (hbR.cell (p := ⟨w.heap.size + 1, 2, none⟩) l_BSd).trans qd_2, (hbR.cell (p := ⟨w.heap.size + 1, 3, none⟩) l_BSd).trans qd_3, (hbR.cell (p := ⟨w.heap.size + 1, 4, none⟩) l_BSd).trans qd_4⟩ (fun hHeld => ?_)
        clear hK K
        refine norm_ (a' := ?_) ?_ ?_
        rotate_left
        · show Act.put _ (some 13) _ = _
          simp only [Act.put, List.setIfInBounds_toArray, List.set_cons_zero, List.set_cons_succ, i64_w, i32_w]
          rfl
        refine pure_ (i := 6) (N := some 14) (v := ?_) (a' := ?_) #[true, true, true, true, true, true, true, true, false] rfl rfl (by kernel_rfl) (fun _ _ _ h => h) (Or.inl ⟨by rfl, ?_⟩) ?_ ?_
        rotate_left
        · intro w'
          go_simp
          with_reducible rfl
        rotate_left
        · simp only [Act.put, List.setIfInBounds_toArray, List.set_cons_zero, List.set_cons_succ, i64_w, i32_w]
          rfl
        exact norm_ (by simp only [putAll, Act.put, List.setIfInBounds_toArray, List.set_cons_zero, List.set_cons_succ]) (hCont (e1.heap.size, e2.heap.size, e3.heap.size, wd.heap.size) _ ⟨⟨(hbR.cell (p := ⟨w.heap.size + 1, 0, none⟩) l_BSd).trans qd_0, (hbR.cell (p := ⟨w.heap.size + 1, 1, none⟩) l_BSd).trans qd_1, (hbR.cell (p := ⟨w.heap.size + 1, 2, none⟩) l_BSd).trans qd_2, (hbR.cell (p := ⟨w.heap.size + 1, 3, none⟩) l_BSd).trans qd_3, (hbR.cell (p := ⟨w.heap.size + 1, 4, none⟩) l_BSd).trans qd_4⟩, hbR, hgl, D9, D11, D13, Dl⟩)
      · skip
        refine value_ (w1 := ?_) (v := ?_) (by rfl) rfl ?_ ?_
        rotate_left 2
        · go_simp
          constructor
          · rfl
          · rfl
        refine at_world (fun e2 he => ?_)
        have nD : e2.heap[e1.heap.size]? = some (.cells #[.int .i64 1, .int .i64 0, .int .i64 0, .slice none 0 0, .slice (some ⟨w.heap.size, 0, none⟩) 1 1] 25 (0, 0)) := by rw [he]; exact heap_alloc_new _ _
        have hbE : Below e1.heap.size e1 e2 := by rw [he]; exact (Below.refl _ _).alloc (Nat.le_refl _) _
        clear he
        replace Dl := Lib.hid (blk_below Dl.out hbE)
        have D11 := Lib.hid nD
        replace hbR := hbR.trans (hbE.mono hbR.size)
        clear nD hbE
        refine hK.out _ _ ⟨(hbR.cell (p := ⟨w.heap.size + 1, 0, none⟩) l_BSd).trans qd_0, (hbR.cell (p := ⟨w.heap.size + 1, 1, none⟩) l_BSd).trans qd_1, (hbR.cell (p := ⟨w.heap.size + 1, 2, none⟩) l_BSd).trans qd_2, (hbR.cell (p := ⟨w.heap.size + 1, 3, none⟩) l_BSd).trans qd_3, (hbR.cell (p := ⟨w.heap.size + 1, 4, none⟩) l_BSd).trans qd_4⟩ (fun hHeld => ?_)
        clear hK K
        refine norm_ (a' := ?_) ?_ ?_
        rotate_left
        · show Act.put _ (some 11) _ = _
          simp only [Act.put, List.setIfInBounds_toArray, List.set_cons_zero, List.set_cons_succ, i64_w, i32_w]
          rfl
        refine one_ (i := 1) (N := some 9) #[true, true, true, true, false, false, false, true, false] rfl rfl (by kernel_rfl) (by decide) (fun K hK => ?_)
        refine value_ (w1 := ?_) (v := ?_) (by rfl) rfl ?_ ?_
        rotate_left 2
        · go_simp
          constructor
          · rfl
          · rfl
        refine at_world (fun e3 he => ?_)
        have nD : e3.heap[e2.heap.size]? = some (.cells #[(.int .u8 0), (.int .u8 0), (.int .u8 0), (.int .u8 0), (.int .u8 0), (.int .u8 0), (.int .u8 0), (.int .u8 0)] 5 (0, 0)) := by rw [he]; exact heap_alloc_new _ _
        have hbE : Below e2.heap.size e2 e3 := by rw [he]; exact (Below.refl _ _).alloc (Nat.le_refl _) _
        clear he
        replace Dl := Lib.hid (blk_below Dl.out hbE)
        replace D11 := Lib.hid (blk_below D11.out hbE)
        have D9 := Lib.hid nD
        replace hbR := hbR.trans (hbE.mono hbR.size)
        clear nD hbE
        refine hK.out _ _ ⟨(hbR.cell (p := ⟨w.heap.size + 1, 0, none⟩) l_BSd).trans qd_0, (hbR.cell (p := ⟨w.heap.size + 1, 1, none⟩) l_BSd).trans qd_1, (hbR.cell (p := ⟨w.heap.size + 1, 2, none⟩) l_BSd).trans qd_2, (hbR.cell (p := ⟨w.heap.size + 1, 3, none⟩) l_BSd).trans qd_3, (hbR.cell (p := ⟨w.heap.size + 1, 4, none⟩) l_BSd).trans qd_4⟩ (fun hHeld => ?_)
        clear hK K
        refine norm_ (a' := ?_) ?_ ?_
        rotate_left
        · show Act.put _ (some 9) _ = _
          simp only [Act.put, List.setIfInBounds_toArray, List.set_cons_zero, List.set_cons_succ, i64_w, i32_w]
          rfl
        refine pure_ (i := 4) (N := some 12) (v := ?_) (a' := ?_) #[true, true, true, true, true, false, false, true, false] rfl rfl (by kernel_rfl) (fun _ _ _ h => h) (Or.inl ⟨by rfl, ?_⟩) ?_ ?_
        rotate_left
        · intro w'
          go_simp
          with_reducible rfl
        rotate_left
        · simp only [Act.put, List.setIfInBounds_toArray, List.set_cons_zero, List.set_cons_succ, i64_w, i32_w]
          rfl
        refine one_ (i := 5) (N := some 13) #[true, true, true, true, true, true, false, true, false] rfl rfl (by kernel_rfl) (by decide) (fun K hK => ?_)
        refine value_ (w1 := ?_) (v := ?_) (by rfl) rfl ?_ ?_
        rotate_left 2
        · go_simp
          constructor
          · rfl
          · rfl
        refine at_world (fun e4 he => ?_)
        have nD : e4.heap[e3.heap.size]? = some (.cells #[.int .i64 1, .int .i64 0, .int .i64 0, .slice none 0 0, .slice none 0 0, .int .i64 1, .int .i64 0, .int .i64 0, .slice (some ⟨e2.heap.size, 0, none⟩) 8 8, .slice (some ⟨e1.heap.size, 0, none⟩) 1 1] 25 (0, 0)) := by rw [he]; exact heap_alloc_new _ _
        have hbE : Below e3.heap.size e3 e4 := by rw [he]; exact (Below.refl _ _).alloc (Nat.le_refl _) _
        clear he
        replace Dl := Lib.hid (blk_below Dl.out hbE)
        replace D11 := Lib.hid (blk_below D11.out hbE)
        replace D9 := Lib.hid (blk_below D9.out hbE)
        have D13 := Lib.hid nD
        replace hbR := hbR.trans (hbE.mono hbR.size)
        clear nD hbE
        refine hK.out _ _ ⟨(hbR.cell (p := ⟨w.heap.size + 1, 0, none⟩) l_BSd).trans qd_0, (hbR.cell (p := ⟨w.heap.size + 1, 1, none⟩) l_BSd).trans qd_1, (hbR.cell (p := ⟨w.heap.size + 1, 2, none⟩) l_BSd).trans qd_2, (hbR.cell (p := ⟨w.heap.size + 1, 3, none⟩) l_BSd).trans qd_3, (hbR.cell (p := ⟨w.heap.size + 1, 4, none⟩) l_BSd).trans qd_4⟩ (fun hHeld => ?_)
        clear hK K
        refine norm_ (a' := ?_) ?_ ?_
        rotate_left
        · show Act.put _ (some 13) _ = _
          simp only [Act.put, List.setIfInBounds_toArray, List.set_cons_zero, List.set_cons_succ, i64_w, i32_w]
          rfl
        refine pure_ (i := 6) (N := some 14) (v := ?_) (a' := ?_) #[true, true, true, true, true, true, true, true, false] rfl rfl (by kernel_rfl) (fun _ _ _ h => h) (Or.inl ⟨by rfl, ?_⟩) ?_ ?_
        rotate_left
        · intro w'
          go_simp
          with_reducible rfl
        rotate_left
        · simp only [Act.put, List.setIfInBounds_toArray, List.set_cons_zero, List.set_cons_succ, i64_w, i32_w]
          rfl
        exact norm_ (by simp only [putAll, Act.put, List.setIfInBounds_toArray, List.set_cons_zero, List.set_cons_succ]) (hCont (e2.heap.size, e1.heap.size, e3.heap.size, wd.heap.size) _ ⟨⟨(hbR.cell (p := ⟨w.heap.size + 1, 0, none⟩) l_BSd).trans qd_0, (hbR.cell (p := ⟨w.heap.size + 1, 1, none⟩) l_BSd).trans qd_1, (hbR.cell (p := ⟨w.heap.size + 1, 2, none⟩) l_BSd).trans qd_2, (hbR.cell (p := ⟨w.heap.size + 1, 3, none⟩) l_BSd).trans qd_3, (hbR.cell (p := ⟨w.heap.size + 1, 4, none⟩) l_BSd).trans qd_4⟩, hbR, hgl, D9, D11, D13, Dl⟩)
  rintro ⟨g9, g11, g13, gl⟩ wj ⟨hS_, hbj, hgl, D9, D11, D13, Dl⟩
  dsimp only at D9 D11 D13 Dl hgl
  have hHeld : wj.cell? ⟨w.heap.size + 1, 0, none⟩ = some (.int .i64 1) ∧ wj.cell? ⟨w.heap.size + 1, 1, none⟩ = some (.int .i64 0) ∧ wj.cell? ⟨w.heap.size + 1, 2, none⟩ = some (.int .i64 0) ∧ wj.cell? ⟨w.heap.size + 1, 3, none⟩ = some (.slice none 0 0) ∧ wj.cell? ⟨w.heap.size + 1, 4, none⟩ = some (.slice (some ⟨w.heap.size, 0, none⟩) 1 1) := hS_
  clear hS_
  refine norm_ (a' := ?_) ?_ ?_
  rotate_left
  · simp only [putAll, Act.put, List.setIfInBounds_toArray, List.set_cons_zero, List.set_cons_succ]
    rfl
  refine last_ (i := 8) (N := none) #[true, true, true, true, true, true, true, true, true] rfl rfl (by kernel_rfl) (by decide) (fun K hK => ?_)
  have z0 : wj.cell? ⟨gl, 0, none⟩ = some (.int .i64 0) := (blk_cell Dl.out 0).trans rfl
  have z1 : wj.cell? ⟨gl, 1, none⟩ = some (.int .i64 0) := (blk_cell Dl.out 1).trans rfl
  have z2 : wj.cell? ⟨gl, 2, none⟩ = some (.int .i64 0) := (blk_cell Dl.out 2).trans rfl
  have z3 : wj.cell? ⟨gl, 3, none⟩ = some (.slice none 0 0) := (blk_cell Dl.out 3).trans rfl
  have z4 : wj.cell? ⟨gl, 4, none⟩ = some (.slice none 0 0) := (blk_cell Dl.out 4).trans rfl
  have y0 := blk_frozen Dl.out 0
  have y1 := blk_frozen Dl.out 1
  have y2 := blk_frozen Dl.out 2
  have y3 := blk_frozen Dl.out 3
  have y4 := blk_frozen Dl.out 4
  have lg := blk_lt Dl.out
  refine skip_ (w1 := ?_) (by rfl) rfl ?_ ?_
  rotate_left
  · go_simp
    rfl
  refine hK.out _ _ ?_
  clear hK K
  refine done_ (by kernel_rfl) ?_
  clear z0 z1 z2 z3 z4 y0 y1 y2 y3 y4 lg hHeld qd_0 qd_1 qd_2 qd_3 qd_4 hbR
  have n9 : g9 ≠ gl := by rintro rfl; have hh := D9.out.symm.trans Dl.out; simp at hh
  have n11 : g11 ≠ gl := by rintro rfl; have hh := D11.out.symm.trans Dl.out; simp at hh
  have n13 : g13 ≠ gl := by rintro rfl; have hh := D13.out.symm.trans Dl.out; simp at hh
  obtain ⟨wf, hwf⟩ : ∃ W, W = (((((wj.setCell ⟨gl, 0, none⟩ (.int .i64 2)).setCell ⟨gl, 1, none⟩ (.int .i64 7)).setCell ⟨gl, 2, none⟩ (.int .i64 2)).setCell ⟨gl, 3, none⟩ (.slice none 0 0)).setCell ⟨gl, 4, none⟩ (.slice (some ⟨g13, 0, none⟩) 2 2)) := ⟨_, rfl⟩
  rw [← hwf]
  have hb : Below wd.heap.size wd wf := by rw [hwf]; exact (((((hbj.setCell (p := ⟨gl, 0, none⟩) hgl _).setCell (p := ⟨gl, 1, none⟩) hgl _).setCell (p := ⟨gl, 2, none⟩) hgl _).setCell (p := ⟨gl, 3, none⟩) hgl _).setCell (p := ⟨gl, 4, none⟩) hgl _)
  have nL : wf.heap[gl]? = some (.cells #[.int .i64 2, .int .i64 7, .int .i64 2, .slice none 0 0, .slice (some ⟨g13, 0, none⟩) 2 2] 25 (0, 0)) := by rw [hwf]; exact (blk_put (blk_put (blk_put (blk_put (blk_put Dl.out 0 _ rfl) 1 _ rfl) 2 _ rfl) 3 _ rfl) 4 _ rfl)
  have m9 : wf.heap[g9]? = some (.cells #[(.int .u8 0), (.int .u8 0), (.int .u8 0), (.int .u8 0), (.int .u8 0), (.int .u8 0), (.int .u8 0), (.int .u8 0)] 5 (0, 0)) := by rw [hwf]; exact (Below.heap_setCell _ ⟨gl, 4, none⟩ _ _ n9).trans ((Below.heap_setCell _ ⟨gl, 3, none⟩ _ _ n9).trans ((Below.heap_setCell _ ⟨gl, 2, none⟩ _ _ n9).trans ((Below.heap_setCell _ ⟨gl, 1, none⟩ _ _ n9).trans ((Below.heap_setCell _ ⟨gl, 0, none⟩ _ _ n9).trans (D9.out)))))
  have m11 : wf.heap[g11]? = some (.cells #[.int .i64 1, .int .i64 0, .int .i64 0, .slice none 0 0, .slice (some ⟨w.heap.size, 0, none⟩) 1 1] 25 (0, 0)) := by rw [hwf]; exact (Below.heap_setCell _ ⟨gl, 4, none⟩ _ _ n11).trans ((Below.heap_setCell _ ⟨gl, 3, none⟩ _ _ n11).trans ((Below.heap_setCell _ ⟨gl, 2, none⟩ _ _ n11).trans ((Below.heap_setCell _ ⟨gl, 1, none⟩ _ _ n11).trans ((Below.heap_setCell _ ⟨gl, 0, none⟩ _ _ n11).trans (D11.out)))))
  have m13 : wf.heap[g13]? = some (.cells #[.int .i64 1, .int .i64 0, .int .i64 0, .slice none 0 0, .slice none 0 0, .int .i64 1, .int .i64 0, .int .i64 0, .slice (some ⟨g9, 0, none⟩) 8 8, .slice (some ⟨g11, 0, none⟩) 1 1] 25 (0, 0)) := by rw [hwf]; exact (Below.heap_setCell _ ⟨gl, 4, none⟩ _ _ n13).trans ((Below.heap_setCell _ ⟨gl, 3, none⟩ _ _ n13).trans ((Below.heap_setCell _ ⟨gl, 2, none⟩ _ _ n13).trans ((Below.heap_setCell _ ⟨gl, 1, none⟩ _ _ n13).trans ((Below.heap_setCell _ ⟨gl, 0, none⟩ _ _ n13).trans (D13.out)))))
  clear hwf n9 n11 n13 D9 D11 D13 Dl hbj l_BSd
  replace HT := Lib.hid (HT.out.below hb)
  replace HB := Lib.hid (below_step HB.out hb)
  replace B6 := Lib.hid (blk_below B6.out hb)
  replace BS := Lib.hid (blk_below BS.out hb)
  have BL := Lib.hid nL
  clear nL hb hgl
  have C1 : k25.C wf (some ⟨w.heap.size, 0, none⟩) 1 [z25] := C_node1 (K_nil wf 0 0 0) B6.out
  have KS : k25.K wf (⟨1, 0, 0, [], [z25]⟩ : S25) [.int .i64 1, .int .i64 0, .int .i64 0, .slice none 0 0, .slice (some ⟨w.heap.size, 0, none⟩) 1 1] := k25_mk wf (⟨1, 0, 0, [], [z25]⟩ : S25) (c3 := 0) (Nat.le_refl _) (Kd.C_nil _ _) (c4 := 1) (Nat.le_refl _) C1
  have C11 : k25.C wf (some ⟨g11, 0, none⟩) 1 [(⟨1, 0, 0, [], [z25]⟩ : S25)] := C_node1 KS m11
  have C9 := C_ints (xs := [0, 0, 0, 0, 0, 0, 0, 0]) (k := .u8) m9 (by decide)
  have K8 : k25.K wf (⟨1, 0, 0, [0, 0, 0, 0, 0, 0, 0, 0], [(⟨1, 0, 0, [], [z25]⟩ : S25)]⟩ : S25) [.int .i64 1, .int .i64 0, .int .i64 0, .slice (some ⟨g9, 0, none⟩) 8 8, .slice (some ⟨g11, 0, none⟩) 1 1] := k25_mk wf (⟨1, 0, 0, [0, 0, 0, 0, 0, 0, 0, 0], [(⟨1, 0, 0, [], [z25]⟩ : S25)]⟩ : S25) (c3 := 8) (Nat.le_refl _) C9 (c4 := 1) (Nat.le_refl _) C11
  have C13 : k25.C wf (some ⟨g13, 0, none⟩) 2 [(⟨1, 0, 0, [], []⟩ : S25), (⟨1, 0, 0, [0, 0, 0, 0, 0, 0, 0, 0], [(⟨1, 0, 0, [], [z25]⟩ : S25)]⟩ : S25)] := C_node2 (K_nil wf 1 0 0) K8 m13
  have HS4 := Lib.hid (C1)
  have H13 := Lib.hid (C13)
  clear C1 KS C11 C9 K8 C13 m9 m11 m13 B6
  have l_BL : gl < wf.heap.size := blk_lt BL.out
  have q_BL_0 : wf.cell? ⟨gl, 0, none⟩ = some (.int .i64 2) := (blk_cell BL.out 0).trans rfl
  have q_BL_1 : wf.cell? ⟨gl, 1, none⟩ = some (.int .i64 7) := (blk_cell BL.out 1).trans rfl
  have q_BL_2 : wf.cell? ⟨gl, 2, none⟩ = some (.int .i64 2) := (blk_cell BL.out 2).trans rfl
  have q_BL_3 : wf.cell? ⟨gl, 3, none⟩ = some (.slice none 0 0) := (blk_cell BL.out 3).trans rfl
  have q_BL_4 : wf.cell? ⟨gl, 4, none⟩ = some (.slice (some ⟨g13, 0, none⟩) 2 2) := (blk_cell BL.out 4).trans rfl
  go_upto_region 6 with fail
  clear l_BL q_BL_0 q_BL_1 q_BL_2 q_BL_3 q_BL_4
  refine wp_at (fun W6 hW => ?_)
  have hb : Below wf.heap.size wf W6 := by rw [hW]; repeat (first | exact Below.refl _ _ | refine Below.alloc ?_ (by first | exact Nat.le_refl _ | (simp <;> omega)) _)
  have nD7 : W6.heap[wf.heap.size]? = some (.cells #[.int .u8 7] 5 (0, 0)) := by rw [hW]; repeat (first | exact heap_alloc_new _ _ | exact blk_new _ _ _ (by simp) | refine blk_alloc ?_ _)
  have nBB : W6.heap[wf.heap.size + 1]? = some (.cells #[.int .i64 2, .int .i64 1, .int .i64 3, .slice (some ⟨wf.heap.size, 0, none⟩) 1 1, .slice none 0 0] 25 (0, 0)) := by rw [hW]; repeat (first | exact heap_alloc_new _ _ | exact blk_new _ _ _ (by simp) | refine blk_alloc ?_ _)
  have nBD : W6.heap[wf.heap.size + 1 + 1]? = some (.cells #[.int .i64 2, .int .i64 1, .int .i64 3, .slice (some ⟨wf.heap.size + 1 + 1 + 1, 0, none⟩) 1 1, .slice none 0 0] 25 (0, 0)) := by rw [hW]; repeat (first | exact heap_alloc_new _ _ | exact blk_new _ _ _ (by simp) | refine blk_alloc ?_ _)
  have nD8 : W6.heap[wf.heap.size + 1 + 1 + 1]? = some (.cells #[.int .u8 8] 5 (0, 0)) := by rw [hW]; repeat (first | exact heap_alloc_new _ _ | exact blk_new _ _ _ (by simp) | refine blk_alloc ?_ _)
  clear hW
  replace HT := Lib.hid (HT.out.below hb)
  replace HB := Lib.hid (below_step HB.out hb)
  replace HS4 := Lib.hid (Kd.C_below HS4.out hb)
  replace H13 := Lib.hid (Kd.C_below H13.out hb)
  replace BS := Lib.hid (blk_below BS.out hb)
  replace BL := Lib.hid (blk_below BL.out hb)
  clear hb
  have D7 := Lib.hid nD7
  clear nD7
  have BB := Lib.hid nBB
  clear nBB
  have BD := Lib.hid nBD
  clear nBD
  have D8 := Lib.hid nD8
  clear nD8
  have C7 := C_ints (xs := [7]) (k := .u8) D7.out (by decide)
  have C8 := C_ints (xs := [8]) (k := .u8) D8.out (by decide)
  have H7 := Lib.hid (C7)
  have H8 := Lib.hid (C8)
  clear C7 C8 D7 D8
  have l_BL : gl < W6.heap.size := blk_lt BL.out
  have q_BL_0 : W6.cell? ⟨gl, 0, none⟩ = some (.int .i64 2) := (blk_cell BL.out 0).trans rfl
  have q_BL_1 : W6.cell? ⟨gl, 1, none⟩ = some (.int .i64 7) := (blk_cell BL.out 1).trans rfl
  have q_BL_2 : W6.cell? ⟨gl, 2, none⟩ = some (.int .i64 2) := (blk_cell BL.out 2).trans rfl
  have q_BL_3 : W6.cell? ⟨gl, 3, none⟩ = some (.slice none 0 0) := (blk_cell BL.out 3).trans rfl
  have q_BL_4 : W6.cell? ⟨gl, 4, none⟩ = some (.slice (some ⟨g13, 0, none⟩) 2 2) := (blk_cell BL.out 4).trans rfl
  go_wp2_with fail
  clear l_BL q_BL_0 q_BL_1 q_BL_2 q_BL_3 q_BL_4
  refine calls_at (fun W8 hW => ?_)
  have hb : Below W6.heap.size W6 W8 := by rw [hW]; repeat (first | exact Below.refl _ _ | refine Below.alloc ?_ (by first | exact Nat.le_refl _ | (simp <;> omega)) _)
  have nBO : W8.heap[W6.heap.size]? = some (.cells #[.int .i64 2, .int .i64 7, .int .i64 2, .slice none 0 0, .slice (some ⟨W6.heap.size + 1, 0, none⟩) 2 2] 25 (0, 0)) := by rw [hW]; repeat (first | exact heap_alloc_new _ _ | exact blk_new _ _ _ (by simp) | refine blk_alloc ?_ _)
  have nDO : W8.heap[W6.heap.size + 1]? = some (.cells #[.int .i64 1, .int .i64 0, .int .i64 0, .slice none 0 0, .slice none 0 0, .int .i64 0, .int .i64 0, .int .i64 0, .slice none 0 0, .slice none 0 0] 25 (0, 0)) := by rw [hW]; repeat (first | exact heap_alloc_new _ _ | exact blk_new _ _ _ (by simp) | refine blk_alloc ?_ _)
  clear hW
  replace HT := Lib.hid (HT.out.below hb)
  replace HB := Lib.hid (below_step HB.out hb)
  replace HS4 := Lib.hid (Kd.C_below HS4.out hb)
  replace H13 := Lib.hid (Kd.C_below H13.out hb)
  replace H7 := Lib.hid (Kd.C_below H7.out hb)
  replace H8 := Lib.hid (Kd.C_below H8.out hb)
  replace BS := Lib.hid (blk_below BS.out hb)
  replace BL := Lib.hid (blk_below BL.out hb)
  replace BB := Lib.hid (blk_below BB.out hb)
  replace BD := Lib.hid (blk_below BD.out hb)
  clear hb
  have BO := Lib.hid nBO
  clear nBO
  have DO := Lib.hid nDO
  clear nDO
  have CO : k25.C W8 (some ⟨W6.heap.size + 1, 0, none⟩) 2 [exN, exZ] := C_node2 (K_nil W8 1 0 0) (K_nil W8 0 0 0) DO.out
  have HO := Lib.hid (CO)
  clear CO DO
  refine (node_Valid.calls 0 0 0 0 none 0 [] none 0 [] true _ (Kd.C_nil _ _) (Nat.le_refl _) (Kd.C_nil _ _) (Nat.le_refl _) fx1 HT.out).mono ?_
  rintro e w1 ⟨rfl, hb⟩
  replace HT := Lib.hid (HT.out.below hb)
  replace HB := Lib.hid (below_step HB.out hb)
  replace HS4 := Lib.hid (Kd.C_below HS4.out hb)
  replace H13 := Lib.hid (Kd.C_below H13.out hb)
  replace H7 := Lib.hid (Kd.C_below H7.out hb)
  replace H8 := Lib.hid (Kd.C_below H8.out hb)
  replace HO := Lib.hid (Kd.C_below HO.out hb)
  replace BS := Lib.hid (blk_below BS.out hb)
  replace BL := Lib.hid (blk_below BL.out hb)
  replace BB := Lib.hid (blk_below BB.out hb)
  replace BD := Lib.hid (blk_below BD.out hb)
  replace BO := Lib.hid (blk_below BO.out hb)
  clear hb
  have l_BS : w.heap.size + 1 < w1.heap.size := blk_lt BS.out
  have q_BS_0 : w1.cell? ⟨w.heap.size + 1, 0, none⟩ = some (.int .i64 1) := (blk_cell BS.out 0).trans rfl
  have q_BS_1 : w1.cell? ⟨w.heap.size + 1, 1, none⟩ = some (.int .i64 0) := (blk_cell BS.out 1).trans rfl
  have q_BS_2 : w1.cell? ⟨w.heap.size + 1, 2, none⟩ = some (.int .i64 0) := (blk_cell BS.out 2).trans rfl
  have q_BS_3 : w1.cell? ⟨w.heap.size + 1, 3, none⟩ = some (.slice none 0 0) := (blk_cell BS.out 3).trans rfl
  have q_BS_4 : w1.cell? ⟨w.heap.size + 1, 4, none⟩ = some (.slice (some ⟨w.heap.size, 0, none⟩) 1 1) := (blk_cell BS.out 4).trans rfl
  go_wp2_with fail
  clear l_BS q_BS_0 q_BS_1 q_BS_2 q_BS_3 q_BS_4
  refine (node_Valid.calls 0 1 0 0 none 0 [] _ 1 [z25] true _ (Kd.C_nil _ _) (Nat.le_refl _) HS4.out (Nat.le_refl _) fx2 HT.out).mono ?_
  rintro e w2 ⟨rfl, hb⟩
  replace HT := Lib.hid (HT.out.below hb)
  replace HB := Lib.hid (below_step HB.out hb)
  replace HS4 := Lib.hid (Kd.C_below HS4.out hb)
  replace H13 := Lib.hid (Kd.C_below H13.out hb)
  replace H7 := Lib.hid (Kd.C_below H7.out hb)
  replace H8 := Lib.hid (Kd.C_below H8.out hb)
  replace HO := Lib.hid (Kd.C_below HO.out hb)
  replace BS := Lib.hid (blk_below BS.out hb)
  replace BL := Lib.hid (blk_below BL.out hb)
  replace BB := Lib.hid (blk_below BB.out hb)
  replace BD := Lib.hid (blk_below BD.out hb)
  replace BO := Lib.hid (blk_below BO.out hb)
  clear hb
  have l_BL : gl < w2.heap.size := blk_lt BL.out
  have q_BL_0 : w2.cell? ⟨gl, 0, none⟩ = some (.int .i64 2) := (blk_cell BL.out 0).trans rfl
  have q_BL_1 : w2.cell? ⟨gl, 1, none⟩ = some (.int .i64 7) := (blk_cell BL.out 1).trans rfl
  have q_BL_2 : w2.cell? ⟨gl, 2, none⟩ = some (.int .i64 2) := (blk_cell BL.out 2).trans rfl
  have q_BL_3 : w2.cell? ⟨gl, 3, none⟩ = some (.slice none 0 0) := (blk_cell BL.out 3).trans rfl
  have q_BL_4 : w2.cell? ⟨gl, 4, none⟩ = some (.slice (some ⟨g13, 0, none⟩) 2 2) := (blk_cell BL.out 4).trans rfl
  go_wp2_with fail
  clear l_BL q_BL_0 q_BL_1 q_BL_2 q_BL_3 q_BL_4
  refine (node_Valid.calls 0 2 7 2 none 0 [] _ 2 [exN, exE] true _ (Kd.C_nil _ _) (Nat.le_refl _) H13.out (Nat.le_refl _) fx3 HT.out).mono ?_
  rintro e w3 ⟨rfl, hb⟩
  replace HT := Lib.hid (HT.out.below hb)
  replace HB := Lib.hid (below_step HB.out hb)
  replace HS4 := Lib.hid (Kd.C_below HS4.out hb)
  replace H13 := Lib.hid (Kd.C_below H13.out hb)
  replace H7 := Lib.hid (Kd.C_below H7.out hb)
  replace H8 := Lib.hid (Kd.C_below H8.out hb)
  replace HO := Lib.hid (Kd.C_below HO.out hb)
  replace BS := Lib.hid (blk_below BS.out hb)
  replace BL := Lib.hid (blk_below BL.out hb)
  replace BB := Lib.hid (blk_below BB.out hb)
  replace BD := Lib.hid (blk_below BD.out hb)
  replace BO := Lib.hid (blk_below BO.out hb)
  clear hb
  have l_BB : wf.heap.size + 1 < w3.heap.size := blk_lt BB.out
  have q_BB_0 : w3.cell? ⟨wf.heap.size + 1, 0, none⟩ = some (.int .i64 2) := (blk_cell BB.out 0).trans rfl
  have q_BB_1 : w3.cell? ⟨wf.heap.size + 1, 1, none⟩ = some (.int .i64 1) := (blk_cell BB.out 1).trans rfl
  have q_BB_2 : w3.cell? ⟨wf.heap.size + 1, 2, none⟩ = some (.int .i64 3) := (blk_cell BB.out 2).trans rfl
  have q_BB_3 : w3.cell? ⟨wf.heap.size + 1, 3, none⟩ = some (.slice (some ⟨wf.heap.size, 0, none⟩) 1 1) := (blk_cell BB.out 3).trans rfl
  have q_BB_4 : w3.cell? ⟨wf.heap.size + 1, 4, none⟩ = some (.slice none 0 0) := (blk_cell BB.out 4).trans rfl
  go_wp2_with fail
  clear l_BB q_BB_0 q_BB_1 q_BB_2 q_BB_3 q_BB_4
  refine (node_Valid.calls 0 2 1 3 _ 1 [7] none 0 [] true _ H7.out (Nat.le_refl _) (Kd.C_nil _ _) (Nat.le_refl _) fx4 HT.out).mono ?_
  rintro e w4 ⟨rfl, hb⟩
  replace HT := Lib.hid (HT.out.below hb)
  replace HB := Lib.hid (below_step HB.out hb)
  replace HS4 := Lib.hid (Kd.C_below HS4.out hb)
  replace H13 := Lib.hid (Kd.C_below H13.out hb)
  replace H7 := Lib.hid (Kd.C_below H7.out hb)
  replace H8 := Lib.hid (Kd.C_below H8.out hb)
  replace HO := Lib.hid (Kd.C_below HO.out hb)
  replace BS := Lib.hid (blk_below BS.out hb)
  replace BL := Lib.hid (blk_below BL.out hb)
  replace BB := Lib.hid (blk_below BB.out hb)
  replace BD := Lib.hid (blk_below BD.out hb)
  replace BO := Lib.hid (blk_below BO.out hb)
  clear hb
  have l_BD : wf.heap.size + 1 + 1 < w4.heap.size := blk_lt BD.out
  have q_BD_0 : w4.cell? ⟨wf.heap.size + 1 + 1, 0, none⟩ = some (.int .i64 2) := (blk_cell BD.out 0).trans rfl
  have q_BD_1 : w4.cell? ⟨wf.heap.size + 1 + 1, 1, none⟩ = some (.int .i64 1) := (blk_cell BD.out 1).trans rfl
  have q_BD_2 : w4.cell? ⟨wf.heap.size + 1 + 1, 2, none⟩ = some (.int .i64 3) := (blk_cell BD.out 2).trans rfl
  have q_BD_3 : w4.cell? ⟨wf.heap.size + 1 + 1, 3, none⟩ = some (.slice (some ⟨wf.heap.size + 1 + 1 + 1, 0, none⟩) 1 1) := (blk_cell BD.out 3).trans rfl
  have q_BD_4 : w4.cell? ⟨wf.heap.size + 1 + 1, 4, none⟩ = some (.slice none 0 0) := (blk_cell BD.out 4).trans rfl
  go_wp2_with fail
  clear l_BD q_BD_0 q_BD_1 q_BD_2 q_BD_3 q_BD_4
  refine (node_Valid.calls 0 2 1 3 _ 1 [8] none 0 [] false _ H8.out (Nat.le_refl _) (Kd.C_nil _ _) (Nat.le_refl _) fx5 HT.out).mono ?_
  rintro e w5 ⟨rfl, hb⟩
  replace HT := Lib.hid (HT.out.below hb)
  replace HB := Lib.hid (below_step HB.out hb)
  replace HS4 := Lib.hid (Kd.C_below HS4.out hb)
  replace H13 := Lib.hid (Kd.C_below H13.out hb)
  replace H7 := Lib.hid (Kd.C_below H7.out hb)
  replace H8 := Lib.hid (Kd.C_below H8.out hb)
  replace HO := Lib.hid (Kd.C_below HO.out hb)
  replace BS := Lib.hid (blk_below BS.out hb)
  replace BL := Lib.hid (blk_below BL.out hb)
  replace BB := Lib.hid (blk_below BB.out hb)
  replace BD := Lib.hid (blk_below BD.out hb)
  replace BO := Lib.hid (blk_below BO.out hb)
  clear hb
  have l_BO : W6.heap.size < w5.heap.size := blk_lt BO.out
  have q_BO_0 : w5.cell? ⟨W6.heap.size, 0, none⟩ = some (.int .i64 2) := (blk_cell BO.out 0).trans rfl
  have q_BO_1 : w5.cell? ⟨W6.heap.size, 1, none⟩ = some (.int .i64 7) := (blk_cell BO.out 1).trans rfl
  have q_BO_2 : w5.cell? ⟨W6.heap.size, 2, none⟩ = some (.int .i64 2) := (blk_cell BO.out 2).trans rfl
  have q_BO_3 : w5.cell? ⟨W6.heap.size, 3, none⟩ = some (.slice none 0 0) := (blk_cell BO.out 3).trans rfl
  have q_BO_4 : w5.cell? ⟨W6.heap.size, 4, none⟩ = some (.slice (some ⟨W6.heap.size + 1, 0, none⟩) 2 2) := (blk_cell BO.out 4).trans rfl
  go_wp2_with fail
  clear l_BO q_BO_0 q_BO_1 q_BO_2 q_BO_3 q_BO_4
  refine (node_Valid.calls 0 2 7 2 none 0 [] _ 2 [exN, exZ] false _ (Kd.C_nil _ _) (Nat.le_refl _) HO.out (Nat.le_refl _) fx6 HT.out).mono ?_
  rintro e w6 ⟨rfl, hb⟩
  replace HT := Lib.hid (HT.out.below hb)
  replace HB := Lib.hid (below_step HB.out hb)
  replace HS4 := Lib.hid (Kd.C_below HS4.out hb)
  replace H13 := Lib.hid (Kd.C_below H13.out hb)
  replace H7 := Lib.hid (Kd.C_below H7.out hb)
  replace H8 := Lib.hid (Kd.C_below H8.out hb)
  replace HO := Lib.hid (Kd.C_below HO.out hb)
  replace BS := Lib.hid (blk_below BS.out hb)
  replace BL := Lib.hid (blk_below BL.out hb)
  replace BB := Lib.hid (blk_below BB.out hb)
  replace BD := Lib.hid (blk_below BD.out hb)
  replace BO := Lib.hid (blk_below BO.out hb)
  clear hb
  go_wp2_with fail
  refine (node_Valid.calls 0 3 0 0 none 0 [] none 0 [] false _ (Kd.C_nil _ _) (Nat.le_refl _) (Kd.C_nil _ _) (Nat.le_refl _) fx7 HT.out).mono ?_
  rintro e w7 ⟨rfl, hb⟩
  replace HT := Lib.hid (HT.out.below hb)
  replace HB := Lib.hid (below_step HB.out hb)
  replace HS4 := Lib.hid (Kd.C_below HS4.out hb)
  replace H13 := Lib.hid (Kd.C_below H13.out hb)
  replace H7 := Lib.hid (Kd.C_below H7.out hb)
  replace H8 := Lib.hid (Kd.C_below H8.out hb)
  replace HO := Lib.hid (Kd.C_below HO.out hb)
  replace BS := Lib.hid (blk_below BS.out hb)
  replace BL := Lib.hid (blk_below BL.out hb)
  replace BB := Lib.hid (blk_below BB.out hb)
  replace BD := Lib.hid (blk_below BD.out hb)
  replace BO := Lib.hid (blk_below BO.out hb)
  clear hb
  go_wp2_with fail
  refine calls_at (fun W16 hW => ?_)
  have hb : Below w7.heap.size w7 W16 := by rw [hW]; repeat (first | exact Below.refl _ _ | refine Below.alloc ?_ (by first | exact Nat.le_refl _ | (simp <;> omega)) _)
  have nD4 : W16.heap[w7.heap.size]? = some (.cells #[.int .u8 0, .int .u8 0, .int .u8 0, .int .u8 0] 5 (0, 0)) := by rw [hW]; repeat (first | exact heap_alloc_new _ _ | exact blk_new _ _ _ (by simp) | refine blk_alloc ?_ _)
  clear hW
  replace HT := Lib.hid (HT.out.below hb)
  replace HB := Lib.hid (below_step HB.out hb)
  replace HS4 := Lib.hid (Kd.C_below HS4.out hb)
  replace H13 := Lib.hid (Kd.C_below H13.out hb)
  replace H7 := Lib.hid (Kd.C_below H7.out hb)
  replace H8 := Lib.hid (Kd.C_below H8.out hb)
  replace HO := Lib.hid (Kd.C_below HO.out hb)
  replace BS := Lib.hid (blk_below BS.out hb)
  replace BL := Lib.hid (blk_below BL.out hb)
  replace BB := Lib.hid (blk_below BB.out hb)
  replace BD := Lib.hid (blk_below BD.out hb)
  replace BO := Lib.hid (blk_below BO.out hb)
  clear hb
  have D4 := Lib.hid nD4
  clear nD4
  have C4 := C_ints (xs := [0, 0, 0, 0]) (k := .u8) D4.out (by decide)
  have H4 := Lib.hid (C4)
  clear C4 D4
  refine (node_Valid.calls 0 1 0 0 _ 4 [0, 0, 0, 0] none 0 [] false _ H4.out (Nat.le_refl _) (Kd.C_nil _ _) (Nat.le_refl _) fx8 HT.out).mono ?_
  rintro e w8 ⟨rfl, hb⟩
  replace HT := Lib.hid (HT.out.below hb)
  replace HB := Lib.hid (below_step HB.out hb)
  replace HS4 := Lib.hid (Kd.C_below HS4.out hb)
  replace H13 := Lib.hid (Kd.C_below H13.out hb)
  replace H7 := Lib.hid (Kd.C_below H7.out hb)
  replace H8 := Lib.hid (Kd.C_below H8.out hb)
  replace HO := Lib.hid (Kd.C_below HO.out hb)
  replace H4 := Lib.hid (Kd.C_below H4.out hb)
  replace BS := Lib.hid (blk_below BS.out hb)
  replace BL := Lib.hid (blk_below BL.out hb)
  replace BB := Lib.hid (blk_below BB.out hb)
  replace BD := Lib.hid (blk_below BD.out hb)
  replace BO := Lib.hid (blk_below BO.out hb)
  clear hb
  have l_BS : w.heap.size + 1 < w8.heap.size := blk_lt BS.out
  have q_BS_0 : w8.cell? ⟨w.heap.size + 1, 0, none⟩ = some (.int .i64 1) := (blk_cell BS.out 0).trans rfl
  have q_BS_1 : w8.cell? ⟨w.heap.size + 1, 1, none⟩ = some (.int .i64 0) := (blk_cell BS.out 1).trans rfl
  have q_BS_2 : w8.cell? ⟨w.heap.size + 1, 2, none⟩ = some (.int .i64 0) := (blk_cell BS.out 2).trans rfl
  have q_BS_3 : w8.cell? ⟨w.heap.size + 1, 3, none⟩ = some (.slice none 0 0) := (blk_cell BS.out 3).trans rfl
  have q_BS_4 : w8.cell? ⟨w.heap.size + 1, 4, none⟩ = some (.slice (some ⟨w.heap.size, 0, none⟩) 1 1) := (blk_cell BS.out 4).trans rfl
  go_wp2_with fail
  clear l_BS q_BS_0 q_BS_1 q_BS_2 q_BS_3 q_BS_4
  refine (node_Depth.calls 0 1 0 0 none 0 [] _ 1 [z25] 1 _ (Kd.C_nil _ _) (Nat.le_refl _) HS4.out (Nat.le_refl _) fx9).mono ?_
  rintro e w9 ⟨rfl, hb⟩
  replace HT := Lib.hid (HT.out.below hb)
  replace HB := Lib.hid (below_step HB.out hb)
  replace HS4 := Lib.hid (Kd.C_below HS4.out hb)
  replace H13 := Lib.hid (Kd.C_below H13.out hb)
  replace H7 := Lib.hid (Kd.C_below H7.out hb)
  replace H8 := Lib.hid (Kd.C_below H8.out hb)
  replace HO := Lib.hid (Kd.C_below HO.out hb)
  replace H4 := Lib.hid (Kd.C_below H4.out hb)
  replace BS := Lib.hid (blk_below BS.out hb)
  replace BL := Lib.hid (blk_below BL.out hb)
  replace BB := Lib.hid (blk_below BB.out hb)
  replace BD := Lib.hid (blk_below BD.out hb)
  replace BO := Lib.hid (blk_below BO.out hb)
  clear hb
  have l_BS : w.heap.size + 1 < w9.heap.size := blk_lt BS.out
  have q_BS_0 : w9.cell? ⟨w.heap.size + 1, 0, none⟩ = some (.int .i64 1) := (blk_cell BS.out 0).trans rfl
  have q_BS_1 : w9.cell? ⟨w.heap.size + 1, 1, none⟩ = some (.int .i64 0) := (blk_cell BS.out 1).trans rfl
  have q_BS_2 : w9.cell? ⟨w.heap.size + 1, 2, none⟩ = some (.int .i64 0) := (blk_cell BS.out 2).trans rfl
  have q_BS_3 : w9.cell? ⟨w.heap.size + 1, 3, none⟩ = some (.slice none 0 0) := (blk_cell BS.out 3).trans rfl
  have q_BS_4 : w9.cell? ⟨w.heap.size + 1, 4, none⟩ = some (.slice (some ⟨w.heap.size, 0, none⟩) 1 1) := (blk_cell BS.out 4).trans rfl
  go_wp2_with fail
  clear l_BS q_BS_0 q_BS_1 q_BS_2 q_BS_3 q_BS_4
  refine (node_Objects.calls 0 1 0 0 none 0 [] _ 1 [z25] 1 _ (Kd.C_nil _ _) (Nat.le_refl _) HS4.out (Nat.le_refl _) fx10).mono ?_
  rintro e w10 ⟨rfl, hb⟩
  replace HT := Lib.hid (HT.out.below hb)
  replace HB := Lib.hid (below_step HB.out hb)
  replace HS4 := Lib.hid (Kd.C_below HS4.out hb)
  replace H13 := Lib.hid (Kd.C_below H13.out hb)
  replace H7 := Lib.hid (Kd.C_below H7.out hb)
  replace H8 := Lib.hid (Kd.C_below H8.out hb)
  replace HO := Lib.hid (Kd.C_below HO.out hb)
  replace H4 := Lib.hid (Kd.C_below H4.out hb)
  replace BS := Lib.hid (blk_below BS.out hb)
  replace BL := Lib.hid (blk_below BL.out hb)
  replace BB := Lib.hid (blk_below BB.out hb)
  replace BD := Lib.hid (blk_below BD.out hb)
  replace BO := Lib.hid (blk_below BO.out hb)
  clear hb
  have l_BL : gl < w10.heap.size := blk_lt BL.out
  have q_BL_0 : w10.cell? ⟨gl, 0, none⟩ = some (.int .i64 2) := (blk_cell BL.out 0).trans rfl
  have q_BL_1 : w10.cell? ⟨gl, 1, none⟩ = some (.int .i64 7) := (blk_cell BL.out 1).trans rfl
  have q_BL_2 : w10.cell? ⟨gl, 2, none⟩ = some (.int .i64 2) := (blk_cell BL.out 2).trans rfl
  have q_BL_3 : w10.cell? ⟨gl, 3, none⟩ = some (.slice none 0 0) := (blk_cell BL.out 3).trans rfl
  have q_BL_4 : w10.cell? ⟨gl, 4, none⟩ = some (.slice (some ⟨g13, 0, none⟩) 2 2) := (blk_cell BL.out 4).trans rfl
  go_wp2_with fail
  clear l_BL q_BL_0 q_BL_1 q_BL_2 q_BL_3 q_BL_4
  refine (node_Depth.calls 0 2 7 2 none 0 [] _ 2 [exN, exE] 2 _ (Kd.C_nil _ _) (Nat.le_refl _) H13.out (Nat.le_refl _) fx11).mono ?_
  rintro e w11 ⟨rfl, hb⟩
  replace HT := Lib.hid (HT.out.below hb)
  replace HB := Lib.hid (below_step HB.out hb)
  replace HS4 := Lib.hid (Kd.C_below HS4.out hb)
  replace H13 := Lib.hid (Kd.C_below H13.out hb)
  replace H7 := Lib.hid (Kd.C_below H7.out hb)
  replace H8 := Lib.hid (Kd.C_below H8.out hb)
  replace HO := Lib.hid (Kd.C_below HO.out hb)
  replace H4 := Lib.hid (Kd.C_below H4.out hb)
  replace BS := Lib.hid (blk_below BS.out hb)
  replace BL := Lib.hid (blk_below BL.out hb)
  replace BB := Lib.hid (blk_below BB.out hb)
  replace BD := Lib.hid (blk_below BD.out hb)
  replace BO := Lib.hid (blk_below BO.out hb)
  clear hb
  have l_BL : gl < w11.heap.size := blk_lt BL.out
  have q_BL_0 : w11.cell? ⟨gl, 0, none⟩ = some (.int .i64 2) := (blk_cell BL.out 0).trans rfl
  have q_BL_1 : w11.cell? ⟨gl, 1, none⟩ = some (.int .i64 7) := (blk_cell BL.out 1).trans rfl
  have q_BL_2 : w11.cell? ⟨gl, 2, none⟩ = some (.int .i64 2) := (blk_cell BL.out 2).trans rfl
  have q_BL_3 : w11.cell? ⟨gl, 3, none⟩ = some (.slice none 0 0) := (blk_cell BL.out 3).trans rfl
  have q_BL_4 : w11.cell? ⟨gl, 4, none⟩ = some (.slice (some ⟨g13, 0, none⟩) 2 2) := (blk_cell BL.out 4).trans rfl
  go_wp2_with fail
  clear l_BL q_BL_0 q_BL_1 q_BL_2 q_BL_3 q_BL_4
  refine (node_Objects.calls 0 2 7 2 none 0 [] _ 2 [exN, exE] 2 _ (Kd.C_nil _ _) (Nat.le_refl _) H13.out (Nat.le_refl _) fx12).mono ?_
  rintro e w12 ⟨rfl, hb⟩
  replace HT := Lib.hid (HT.out.below hb)
  replace HB := Lib.hid (below_step HB.out hb)
  replace HS4 := Lib.hid (Kd.C_below HS4.out hb)
  replace H13 := Lib.hid (Kd.C_below H13.out hb)
  replace H7 := Lib.hid (Kd.C_below H7.out hb)
  replace H8 := Lib.hid (Kd.C_below H8.out hb)
  replace HO := Lib.hid (Kd.C_below HO.out hb)
  replace H4 := Lib.hid (Kd.C_below H4.out hb)
  replace BS := Lib.hid (blk_below BS.out hb)
  replace BL := Lib.hid (blk_below BL.out hb)
  replace BB := Lib.hid (blk_below BB.out hb)
  replace BD := Lib.hid (blk_below BD.out hb)
  replace BO := Lib.hid (blk_below BO.out hb)
  clear hb
  go_wp2_with fail
  refine (node_Depth.calls 0 0 0 0 none 0 [] none 0 [] 0 _ (Kd.C_nil _ _) (Nat.le_refl _) (Kd.C_nil _ _) (Nat.le_refl _) fx13).mono ?_
  rintro e w13 ⟨rfl, hb⟩
  replace HT := Lib.hid (HT.out.below hb)
  replace HB := Lib.hid (below_step HB.out hb)
  replace HS4 := Lib.hid (Kd.C_below HS4.out hb)
  replace H13 := Lib.hid (Kd.C_below H13.out hb)
  replace H7 := Lib.hid (Kd.C_below H7.out hb)
  replace H8 := Lib.hid (Kd.C_below H8.out hb)
  replace HO := Lib.hid (Kd.C_below HO.out hb)
  replace H4 := Lib.hid (Kd.C_below H4.out hb)
  replace BS := Lib.hid (blk_below BS.out hb)
  replace BL := Lib.hid (blk_below BL.out hb)
  replace BB := Lib.hid (blk_below BB.out hb)
  replace BD := Lib.hid (blk_below BD.out hb)
  replace BO := Lib.hid (blk_below BO.out hb)
  clear hb
  have l_BL : gl < w13.heap.size := blk_lt BL.out
  have q_BL_0 : w13.cell? ⟨gl, 0, none⟩ = some (.int .i64 2) := (blk_cell BL.out 0).trans rfl
  have q_BL_1 : w13.cell? ⟨gl, 1, none⟩ = some (.int .i64 7) := (blk_cell BL.out 1).trans rfl
  have q_BL_2 : w13.cell? ⟨gl, 2, none⟩ = some (.int .i64 2) := (blk_cell BL.out 2).trans rfl
  have q_BL_3 : w13.cell? ⟨gl, 3, none⟩ = some (.slice none 0 0) := (blk_cell BL.out 3).trans rfl
  have q_BL_4 : w13.cell? ⟨gl, 4, none⟩ = some (.slice (some ⟨g13, 0, none⟩) 2 2) := (blk_cell BL.out 4).trans rfl
  go_wp2_with fail
  clear l_BL q_BL_0 q_BL_1 q_BL_2 q_BL_3 q_BL_4
  refine (node_Equal.calls 0 2 7 2 none 0 [] _ 2 [exN, exE] 2 7 2 none 0 [] _ 2 [exN, exE] true _ (Kd.C_nil _ _) (Nat.le_refl _) H13.out (Nat.le_refl _) (Kd.C_nil _ _) (Nat.le_refl _) H13.out (Nat.le_refl _) fx14).mono ?_
  rintro e w14 ⟨rfl, hb⟩
  replace HT := Lib.hid (HT.out.below hb)
  replace HB := Lib.hid (below_step HB.out hb)
  replace HS4 := Lib.hid (Kd.C_below HS4.out hb)
  replace H13 := Lib.hid (Kd.C_below H13.out hb)
  replace H7 := Lib.hid (Kd.C_below H7.out hb)
  replace H8 := Lib.hid (Kd.C_below H8.out hb)
  replace HO := Lib.hid (Kd.C_below HO.out hb)
  replace H4 := Lib.hid (Kd.C_below H4.out hb)
  replace BS := Lib.hid (blk_below BS.out hb)
  replace BL := Lib.hid (blk_below BL.out hb)
  replace BB := Lib.hid (blk_below BB.out hb)
  replace BD := Lib.hid (blk_below BD.out hb)
  replace BO := Lib.hid (blk_below BO.out hb)
  clear hb
  have l_BL : gl < w14.heap.size := blk_lt BL.out
  have q_BL_0 : w14.cell? ⟨gl, 0, none⟩ = some (.int .i64 2) := (blk_cell BL.out 0).trans rfl
  have q_BL_1 : w14.cell? ⟨gl, 1, none⟩ = some (.int .i64 7) := (blk_cell BL.out 1).trans rfl
  have q_BL_2 : w14.cell? ⟨gl, 2, none⟩ = some (.int .i64 2) := (blk_cell BL.out 2).trans rfl
  have q_BL_3 : w14.cell? ⟨gl, 3, none⟩ = some (.slice none 0 0) := (blk_cell BL.out 3).trans rfl
  have q_BL_4 : w14.cell? ⟨gl, 4, none⟩ = some (.slice (some ⟨g13, 0, none⟩) 2 2) := (blk_cell BL.out 4).trans rfl
  have l_BB : wf.heap.size + 1 < w14.heap.size := blk_lt BB.out
  have q_BB_0 : w14.cell? ⟨wf.heap.size + 1, 0, none⟩ = some (.int .i64 2) := (blk_cell BB.out 0).trans rfl
  have q_BB_1 : w14.cell? ⟨wf.heap.size + 1, 1, none⟩ = some (.int .i64 1) := (blk_cell BB.out 1).trans rfl
  have q_BB_2 : w14.cell? ⟨wf.heap.size + 1, 2, none⟩ = some (.int .i64 3) := (blk_cell BB.out 2).trans rfl
  have q_BB_3 : w14.cell? ⟨wf.heap.size + 1, 3, none⟩ = some (.slice (some ⟨wf.heap.size, 0, none⟩) 1 1) := (blk_cell BB.out 3).trans rfl
  have q_BB_4 : w14.cell? ⟨wf.heap.size + 1, 4, none⟩ = some (.slice none 0 0) := (blk_cell BB.out 4).trans rfl
  go_wp2_with fail
  clear l_BL q_BL_0 q_BL_1 q_BL_2 q_BL_3 q_BL_4 l_BB q_BB_0 q_BB_1 q_BB_2 q_BB_3 q_BB_4
  refine (node_Equal.calls 0 2 7 2 none 0 [] _ 2 [exN, exE] 2 1 3 _ 1 [7] none 0 [] false _ (Kd.C_nil _ _) (Nat.le_refl _) H13.out (Nat.le_refl _) H7.out (Nat.le_refl _) (Kd.C_nil _ _) (Nat.le_refl _) fx15).mono ?_
  rintro e w15 ⟨rfl, hb⟩
  replace HT := Lib.hid (HT.out.below hb)
  replace HB := Lib.hid (below_step HB.out hb)
  replace HS4 := Lib.hid (Kd.C_below HS4.out hb)
  replace H13 := Lib.hid (Kd.C_below H13.out hb)
  replace H7 := Lib.hid (Kd.C_below H7.out hb)
  replace H8 := Lib.hid (Kd.C_below H8.out hb)
  replace HO := Lib.hid (Kd.C_below HO.out hb)
  replace H4 := Lib.hid (Kd.C_below H4.out hb)
  replace BS := Lib.hid (blk_below BS.out hb)
  replace BL := Lib.hid (blk_below BL.out hb)
  replace BB := Lib.hid (blk_below BB.out hb)
  replace BD := Lib.hid (blk_below BD.out hb)
  replace BO := Lib.hid (blk_below BO.out hb)
  clear hb
  have l_BB : wf.heap.size + 1 < w15.heap.size := blk_lt BB.out
  have q_BB_0 : w15.cell? ⟨wf.heap.size + 1, 0, none⟩ = some (.int .i64 2) := (blk_cell BB.out 0).trans rfl
  have q_BB_1 : w15.cell? ⟨wf.heap.size + 1, 1, none⟩ = some (.int .i64 1) := (blk_cell BB.out 1).trans rfl
  have q_BB_2 : w15.cell? ⟨wf.heap.size + 1, 2, none⟩ = some (.int .i64 3) := (blk_cell BB.out 2).trans rfl
  have q_BB_3 : w15.cell? ⟨wf.heap.size + 1, 3, none⟩ = some (.slice (some ⟨wf.heap.size, 0, none⟩) 1 1) := (blk_cell BB.out 3).trans rfl
  have q_BB_4 : w15.cell? ⟨wf.heap.size + 1, 4, none⟩ = some (.slice none 0 0) := (blk_cell BB.out 4).trans rfl
  have l_BD : wf.heap.size + 1 + 1 < w15.heap.size := blk_lt BD.out
  have q_BD_0 : w15.cell? ⟨wf.heap.size + 1 + 1, 0, none⟩ = some (.int .i64 2) := (blk_cell BD.out 0).trans rfl
  have q_BD_1 : w15.cell? ⟨wf.heap.size + 1 + 1, 1, none⟩ = some (.int .i64 1) := (blk_cell BD.out 1).trans rfl
  have q_BD_2 : w15.cell? ⟨wf.heap.size + 1 + 1, 2, none⟩ = some (.int .i64 3) := (blk_cell BD.out 2).trans rfl
  have q_BD_3 : w15.cell? ⟨wf.heap.size + 1 + 1, 3, none⟩ = some (.slice (some ⟨wf.heap.size + 1 + 1 + 1, 0, none⟩) 1 1) := (blk_cell BD.out 3).trans rfl
  have q_BD_4 : w15.cell? ⟨wf.heap.size + 1 + 1, 4, none⟩ = some (.slice none 0 0) := (blk_cell BD.out 4).trans rfl
  go_wp2_with fail
  clear l_BB q_BB_0 q_BB_1 q_BB_2 q_BB_3 q_BB_4 l_BD q_BD_0 q_BD_1 q_BD_2 q_BD_3 q_BD_4
  refine (node_Equal.calls 0 2 1 3 _ 1 [7] none 0 [] 2 1 3 _ 1 [8] none 0 [] false _ H7.out (Nat.le_refl _) (Kd.C_nil _ _) (Nat.le_refl _) H8.out (Nat.le_refl _) (Kd.C_nil _ _) (Nat.le_refl _) fx16).mono ?_
  rintro e w16 ⟨rfl, hb⟩
  replace HT := Lib.hid (HT.out.below hb)
  replace HB := Lib.hid (below_step HB.out hb)
  replace HS4 := Lib.hid (Kd.C_below HS4.out hb)
  replace H13 := Lib.hid (Kd.C_below H13.out hb)
  replace H7 := Lib.hid (Kd.C_below H7.out hb)
  replace H8 := Lib.hid (Kd.C_below H8.out hb)
  replace HO := Lib.hid (Kd.C_below HO.out hb)
  replace H4 := Lib.hid (Kd.C_below H4.out hb)
  replace BS := Lib.hid (blk_below BS.out hb)
  replace BL := Lib.hid (blk_below BL.out hb)
  replace BB := Lib.hid (blk_below BB.out hb)
  replace BD := Lib.hid (blk_below BD.out hb)
  replace BO := Lib.hid (blk_below BO.out hb)
  clear hb
  go_wp2
  go_ret
  exact ⟨rfl, HB.out⟩
end Go.Proofs.YtmbockhcmhghlaaDoor.Pr
end
section
namespace Go.Proofs.YtmbockhcmhghlaaDoor.Pr
open Go.RowKit Go.Proofs.YtmbockhcmhghlaaDoorW.PrintWords Go.Proofs.YtmbockhcmhghlaaDoorW.PrintLast Go.Proofs.YtmbockhcmhghlaaDoorW.PrintMore
set_option linter.unusedVariables false
set_option linter.unusedSimpArgs false
theorem dep_g {k : Nat} {a0 a1 a2 : Int} {l3 : List Int} {l4 : List S25} (r : Int) (hv : tvalid ⟨a0, a1, a2, l3, l4⟩ = true) (hs : tsize ⟨a0, a1, a2, l3, l4⟩ ≤ 4611686018427387904) (hr : (tdepth ⟨a0, a1, a2, l3, l4⟩ : Int) = r) : node_Depth.f k a0 a1 a2 l3 l4 = some r := by unfold node_Depth.f; rw [if_pos ⟨hv, hs⟩, hr]
theorem obj_g {k : Nat} {a0 a1 a2 : Int} {l3 : List Int} {l4 : List S25} (r : Int) (hv : tvalid ⟨a0, a1, a2, l3, l4⟩ = true) (hs : tsize ⟨a0, a1, a2, l3, l4⟩ ≤ 4611686018427387904) (hr : (tobjs ⟨a0, a1, a2, l3, l4⟩ : Int) = r) : node_Objects.f k a0 a1 a2 l3 l4 = some r := by unfold node_Objects.f; rw [if_pos ⟨hv, hs⟩, hr]
end Go.Proofs.YtmbockhcmhghlaaDoor.Pr
end
