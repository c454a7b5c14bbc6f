/- A part of the proof of YtidglmocekghmaaDoorFormsCard (the texts that it stands on, gathered; declarations that nothing uses are left out). -/
import Derived.Test.YtidglmocekghmaaDoorBNFC
import Derived.Below
import Derived.Deep.Draws
import Derived.Deep.AppendLies
import Derived.Maps.AppendAt
import Derived.OwnWalk
import Derived.Laws.BytesArg
import Derived.Laws.MakeOwn
import Derived.Laws.OwnMore
import Derived.Deep.OwnRows
import Derived.Tactics
import Derived.Lib.ConvBytes
import Derived.Laws.Slices
import Derived.WalkKit
import Derived.KernelRfl
import Derived.RowKit3
import Derived.Deep.LoopGhost
import Derived.Deep.QuietTactic
import Derived.BigQuiet
import Derived.WideLaws
import Derived.Deep.DeepCutAuto
import Derived.Deep.CutBlock
import Derived.Deep.RegionHeld3
import Derived.Laws.Rows
import Derived.Lib.AppendStr
import Derived.ArgAppend
import Derived.Laws.IdiomCopy
import Derived.RowKit
import Derived.OrdersHeld
import Derived.Laws.BitsLemmas
import Derived.Laws.StructEq
import Derived.SizedLaws
import Derived.ChangeSlices
import Derived.Test.YtidglmocekghmaaDoorProg
import Derived.Lib.Hide
import Derived.WalkLawsBesides
import Derived.WalkSpells
import Derived.Outline
import Derived.IntWalk
import Derived.Laws.AppendOwn
import Derived.RangeFuncBox
import Derived.Lib.JoinLaws
import Derived.Defers
import Derived.Recover
import Derived.Laws.Pointers
import Derived.Test.YtidglmocekghmaaDoorCards
import Derived.ProofKit
import Derived.LaidMore
import Derived.LaidHandle
import Derived.Maps.Keyed
import Derived.WideKeyElems2
import Derived.Lib.LaidTab
import Derived.OpenShut
import Derived.Lib.SmallJoins
import Derived.Deep.Matrix
set_option linter.unusedVariables false
set_option linter.unusedSimpArgs false
section
namespace Go.Proofs.YtidglmocekghmaaDoor.Pr
open Go.RowKit Go.Proofs.YtidglmocekghmaaDoorW.PrintWords Go.Proofs.YtidglmocekghmaaDoorW.PrintLast Go.Proofs.YtidglmocekghmaaDoorW.PrintMore
attribute [local go_sem] max2_int min2_int max_two min_two max_three min_three max_four min_four
set_option linter.unusedVariables false
set_option linter.unusedSimpArgs false
set_option maxHeartbeats 8000000 in
set_option maxRecDepth 100000 in
theorem capnpref11_Trim.calls (k : Nat) : ∀ (a0_0 : Int) (a0_1 : Int) (a0_2 : Int) (A0_3 : Option Addr) (c0_3 : Nat) (l0_3 : List Int) (A0_4 : Option Addr) (c0_4 : Nat) (l0_4 : List (S37)) (r1 : Int) (r2 : Int) (r3 : Int) (r4 : List Int) (r5 : List (S37)) (w : World) (hr0_3 : Kd.C (Kd.int .u8) w A0_3 l0_3.length l0_3) (hc0_3 : l0_3.length ≤ c0_3) (hr0_4 : Kd.C k37 w A0_4 l0_4.length l0_4) (hc0_4 : l0_4.length ≤ c0_4) (h : capnpref11_Trim.f k a0_0 a0_1 a0_2 l0_3 l0_4 = some (r1, r2, r3, r4, r5)),
    Calls Tryd.prog 29 #[.agg #[.int .i64 a0_0, .int .i64 a0_1, .int .i64 a0_2, .slice A0_3 l0_3.length c0_3, .slice A0_4 l0_4.length c0_4]] w fun e w' => ∃ v3_ v4_ : Value, e = .returned (.agg #[.int .i64 r1, .int .i64 r2, .int .i64 r3, v3_, v4_]) ∧ Kd.R (Kd.int .u8) 5 w' w.heap.size (fun _ => True) v3_ r4 ∧ Kd.R k37 37 w' w.heap.size (fun k_ => some k_ ≠ (v3_ : Value).ownBlock) v4_ r5 ∧ Below w.heap.size w w' := by
  induction k using Nat.strongRecOn with
  | _ k ih =>
  intro a0_0 a0_1 a0_2 A0_3 c0_3 l0_3 A0_4 c0_4 l0_4 r1 r2 r3 r4 r5 w hr0_3 hc0_3 hr0_4 hc0_4 h
  cases k with
  | zero => exact absurd h (by simp [capnpref11_Trim.f])
  | succ k =>
  simp only [capnpref11_Trim.f] at h
  have hu37 := Tryd.underlying37
  have HR0_3 := Aside0.mk hr0_3
  have HC0_3 := Aside0.mk hc0_3
  clear hr0_3 hc0_3
  have HR0_4 := Aside0.mk hr0_4
  have HC0_4 := Aside0.mk hc0_4
  clear hr0_4 hc0_4
  have HB := Aside0.mk (Below.refl w.heap.size w)
  have H : (if a0_0 = 1 then ((capnpref11_Words.f k l0_3).bind fun t235 => ((capnpref11_Pointers.f k l0_4).bind fun t236 => (capnpref11_Trim.j0 k (wrap64 (8 * t235)) t236 a0_0 a0_1 a0_2 l0_3 l0_4))) else (capnpref11_Trim.j0 k (l0_3.length : Int) (l0_4.length : Int) a0_0 a0_1 a0_2 l0_3 l0_4)) = some (r1, r2, r3, r4, r5) := h
  clear h
  have HC2 := Aside0.mk H
  clear H
  go_enter Tryd.func29, Tryd.ntmps29
  go_upto_if 16 with (first | ((with_reducible refine gate_dst (N := 1) rfl ?_); refine box_event ?hg (N := 1) ?hd (cs := #[.int .i64 a0_0, .int .i64 a0_1, .int .i64 a0_2, .slice A0_3 l0_3.length c0_3, .slice A0_4 l0_4.length c0_4]) (t := 37) ?hr ?_; (case hd => rfl); (case hg => rfl); (case hr => first | (go_simp; done) | (go_simp; rfl)); intro gb233 hg w3 hbox hb; have n0_ := Aside0.mk (below_step (by repeat (first | (with_reducible first | exact HB.out | apply below_alloc | apply pw_below_drewN | apply below_drew1) | exact HB.out)) hb); have n1_ := Aside0.mk (hbox); have n2_ := Aside0.mk ((by rw [hg]; exact (below_size (by repeat (first | (with_reducible first | exact HB.out | apply below_alloc | apply pw_below_drewN | apply below_drew1) | exact HB.out))) : w.heap.size ≤ gb233)); have n3_ := Aside0.mk ((by rw [hg]; exact (below_size (by repeat (first | (with_reducible first | exact HB.out | apply below_alloc | apply pw_below_drewN | apply below_drew1) | exact HB.out))) : w.heap.size ≤ gb233)); clear HB; have HB := n0_; have BK233 := n1_; have GW233 := n2_; have GE233 := n3_; clear n0_ n1_ n2_ n3_; clear hb hbox hg) | ((with_reducible refine gate_dst (N := 2) rfl ?_); refine box_event ?hg (N := 2) ?hd (cs := #[.int .i64 0, .int .i64 0, .int .i64 0, .slice none 0 0, .slice none 0 0]) (t := 37) ?hr ?_; (case hd => rfl); (case hg => rfl); (case hr => first | (go_simp; done) | (go_simp; rfl)); intro gb234 hg w4 hbox hb; have n0_ := Aside0.mk (blk_below (g := gb233) (o := .cells #[.int .i64 a0_0, .int .i64 a0_1, .int .i64 a0_2, .slice A0_3 l0_3.length c0_3, .slice A0_4 l0_4.length c0_4] 37 (0, 0)) (by (with_reducible repeat (first | refine blk_drewN ?_ _ | refine blk_drew ?_ | refine blk_alloc ?_ _)); exact BK233.out) hb); have n1_ := Aside0.mk (below_step (by repeat (first | (with_reducible first | exact HB.out | apply below_alloc | apply pw_below_drewN | apply below_drew1 | refine below_set ?_ GE233.out) | exact HB.out)) hb); have n2_ := Aside0.mk (hbox); have n3_ := Aside0.mk ((by rw [hg]; exact (below_size (by repeat (first | (with_reducible first | exact HB.out | apply below_alloc | apply pw_below_drewN | apply below_drew1 | refine below_set ?_ GE233.out) | exact HB.out))) : w.heap.size ≤ gb234)); have n4_ := Aside0.mk ((by rw [hg]; exact (below_size (by repeat (first | (with_reducible first | exact HB.out | apply below_alloc | apply pw_below_drewN | apply below_drew1 | refine below_set ?_ GE233.out) | exact HB.out))) : w.heap.size ≤ gb234)); have n5_ := Aside0.mk ((by rw [hg]; exact Nat.ne_of_lt (blk_lt (g := gb233) (o := .cells #[.int .i64 a0_0, .int .i64 a0_1, .int .i64 a0_2, .slice A0_3 l0_3.length c0_3, .slice A0_4 l0_4.length c0_4] 37 (0, 0)) (by (with_reducible repeat (first | refine blk_drewN ?_ _ | refine blk_drew ?_ | refine blk_alloc ?_ _)); exact BK233.out)) : gb233 ≠ gb234)); have n6_ := Aside0.mk ((by rw [hg]; exact Nat.ne_of_gt (blk_lt (g := gb233) (o := .cells #[.int .i64 a0_0, .int .i64 a0_1, .int .i64 a0_2, .slice A0_3 l0_3.length c0_3, .slice A0_4 l0_4.length c0_4] 37 (0, 0)) (by (with_reducible repeat (first | refine blk_drewN ?_ _ | refine blk_drew ?_ | refine blk_alloc ?_ _)); exact BK233.out)) : gb234 ≠ gb233)); clear BK233; clear HB; have BK233 := n0_; have HB := n1_; have BK234 := n2_; have GW234 := n3_; have GE234 := n4_; have NB233_234 := n5_; have NB234_233 := n6_; clear n0_ n1_ n2_ n3_ n4_ n5_ n6_; clear hb hbox hg; have hnb5 := NB233_234.out; have hnc5 := NB234_233.out; have hcz6_0 : w4.cell? ⟨gb233, 0, none⟩ = some (.int .i64 a0_0) := (blk_cell BK233.out 0).trans rfl; have hcz6_1 : w4.cell? ⟨gb233, 1, none⟩ = some (.int .i64 a0_1) := (blk_cell BK233.out 1).trans rfl; have hcz6_2 : w4.cell? ⟨gb233, 2, none⟩ = some (.int .i64 a0_2) := (blk_cell BK233.out 2).trans rfl; have hcz6_3 : w4.cell? ⟨gb233, 3, none⟩ = some (.slice A0_3 l0_3.length c0_3) := (blk_cell BK233.out 3).trans rfl; have hcz6_4 : w4.cell? ⟨gb233, 4, none⟩ = some (.slice A0_4 l0_4.length c0_4) := (blk_cell BK233.out 4).trans rfl; have hfz6_0 := blk_frozen BK233.out 0; have hfz6_1 := blk_frozen BK233.out 1; have hfz6_2 := blk_frozen BK233.out 2; have hfz6_3 := blk_frozen BK233.out 3; have hfz6_4 := blk_frozen BK233.out 4))
  (try simp only [Act.put, List.setIfInBounds_toArray, List.set_cons_zero, List.set_cons_succ])
  go_cut [3, 4] (fun v3 v4 wc => ∃ (kq : Nat) (x3_1 : Int) (x4_1 : Int), v3 = .int .i64 x3_1 ∧ v4 = .int .i64 x4_1 ∧ Aside0 (capnpref11_Trim.j0 kq x3_1 x4_1 a0_0 a0_1 a0_2 l0_3 l0_4 = some (r1, r2, r3, r4, r5)) ∧ Aside0 (kq ≤ k) ∧ Aside0 (wc.heap[gb233]? = some (.cells #[.int .i64 a0_0, .int .i64 a0_1, .int .i64 a0_2, (.slice A0_3 l0_3.length c0_3), (.slice A0_4 l0_4.length c0_4)] 37 (0, 0))) ∧ Aside0 (wc.heap[gb234]? = some (.cells #[.int .i64 0, .int .i64 0, .int .i64 0, (.slice none 0 0), (.slice none 0 0)] 37 (0, 0))) ∧ Aside0 (Below w.heap.size w wc))
  case first =>
    have H := HC2.out
    clear HC2
    by_cases c7 : a0_0 = 1
    · rw [if_pos c7] at H
      have c7b0 : (a0_0 == 1) = true := beq_iff_eq.mpr c7
      have c7b1 : (a0_0 != 1) = false := bne_eq_false_iff_eq.mpr c7
      clear c7
      (first | rw [c7b0] | (simp only [i64_w, i32_w]; rw [c7b0]) | skip)
      replace H := Option.bind_eq_some_iff.mp H
      obtain ⟨t235, A80, H⟩ := H
      replace H : ((capnpref11_Pointers.f k l0_4).bind fun t236 => (capnpref11_Trim.j0 k (wrap64 (8 * t235)) t236 a0_0 a0_1 a0_2 l0_3 l0_4)) = some (r1, r2, r3, r4, r5) := H
      have A8 := Aside0.mk A80
      clear A80
      replace H := Option.bind_eq_some_iff.mp H
      obtain ⟨t236, A90, H⟩ := H
      replace H : (capnpref11_Trim.j0 k (wrap64 (8 * t235)) t236 a0_0 a0_1 a0_2 l0_3 l0_4) = some (r1, r2, r3, r4, r5) := H
      have A9 := Aside0.mk A90
      clear A90
      have H' := Aside0.mk H
      clear H
      have hnb10 := NB233_234.out
      have hnc10 := NB234_233.out
      have hcz11_0 : w4.cell? ⟨gb233, 0, none⟩ = some (.int .i64 a0_0) := (blk_cell BK233.out 0).trans rfl
      have hcz11_1 : w4.cell? ⟨gb233, 1, none⟩ = some (.int .i64 a0_1) := (blk_cell BK233.out 1).trans rfl
      have hcz11_2 : w4.cell? ⟨gb233, 2, none⟩ = some (.int .i64 a0_2) := (blk_cell BK233.out 2).trans rfl
      have hcz11_3 : w4.cell? ⟨gb233, 3, none⟩ = some (.slice A0_3 l0_3.length c0_3) := (blk_cell BK233.out 3).trans rfl
      have hcz11_4 : w4.cell? ⟨gb233, 4, none⟩ = some (.slice A0_4 l0_4.length c0_4) := (blk_cell BK233.out 4).trans rfl
      have hfz11_0 := blk_frozen BK233.out 0
      have hfz11_1 := blk_frozen BK233.out 1
      have hfz11_2 := blk_frozen BK233.out 2
      have hfz11_3 := blk_frozen BK233.out 3
      have hfz11_4 := blk_frozen BK233.out 4
      go_wp2_with (first | ((with_reducible refine gate_callee (f := 46) rfl ?_); refine goesL_ (some 19) rfl rfl Tryd.func46 (by kernel_rfl) rfl #[.slice A0_3 l0_3.length c0_3] rfl (by (try simp only [List.map_toArray, List.map_cons, List.map_nil]); first | done | rfl | (simp only [List.length_drop, List.length_take]; rfl)) ?_; (with_reducible refine (capnpref11_Words.calls k _ _ l0_3 t235 _ ?side1 ?side2 A8.out).mono ?_); (case side1 => repeat (first | exact (Kd.C_below HR0_3.out HB.out) | (with_reducible refine Kd.C_alloc ?_ _) | (with_reducible refine Kd.C_drewN ?_ _) | (with_reducible refine Kd.C_drew ?_))); (case side2 => exact HC0_3.out); rintro e w' ⟨rfl, ⟨nd, rfl⟩⟩; refine ⟨_, rfl, ?_⟩) | ((with_reducible refine gate_callee (f := 47) rfl ?_); refine goesL_ (some 23) rfl rfl Tryd.func47 (by kernel_rfl) rfl #[.slice A0_4 l0_4.length c0_4] rfl (by (try simp only [List.map_toArray, List.map_cons, List.map_nil]); first | done | rfl | (simp only [List.length_drop, List.length_take]; rfl)) ?_; (with_reducible refine (capnpref11_Pointers.calls k _ _ l0_4 t236 _ ?side1 ?side2 A9.out).mono ?_); (case side1 => repeat (first | exact (Kd.C_below HR0_4.out (by repeat (first | (with_reducible first | exact HB.out | apply below_alloc | apply pw_below_drewN | apply below_drew1 | refine below_set ?_ GE233.out | refine below_set ?_ GE234.out) | exact HB.out))) | (with_reducible refine Kd.C_alloc ?_ _) | (with_reducible refine Kd.C_drewN ?_ _) | (with_reducible refine Kd.C_drew ?_))); (case side2 => exact HC0_4.out); rintro e w' ⟨rfl, ⟨nd, rfl⟩⟩; refine ⟨_, rfl, ?_⟩))
      go_meet
      case rel => exact ⟨_, (wrap64 (8 * t235)), (t236), (by first | rfl | (simp; done) | (simp [*]; done)), (by first | rfl | (simp; done) | (simp [*]; done)), H', ⟨by first | omega | exact Nat.le_refl _⟩, ⟨by (with_reducible repeat (first | refine blk_drewN ?_ _ | refine blk_drew ?_ | refine blk_alloc ?_ _)); exact BK233.out⟩, ⟨by (with_reducible repeat (first | refine blk_drewN ?_ _ | refine blk_drew ?_ | refine blk_alloc ?_ _)); exact BK234.out⟩, ⟨by repeat (first | (with_reducible first | exact HB.out | apply below_alloc | apply pw_below_drewN | apply below_drew1 | refine below_set ?_ GE233.out | refine below_set ?_ GE234.out) | exact HB.out)⟩⟩
    · rw [if_neg c7] at H
      have c7b0 : (a0_0 == 1) = false := beq_eq_false_iff_ne.mpr c7
      have c7b1 : (a0_0 != 1) = true := bne_iff_ne.mpr c7
      (first | rw [c7b0] | (simp only [i64_w, i32_w]; rw [c7b0]) | skip)
      have H' := Aside0.mk H
      clear H
      go_wp2
      go_meet
      case rel => exact ⟨_, ((l0_3.length : Int)), ((l0_4.length : Int)), (by first | rfl | (simp; done) | (simp [*]; done)), (by first | rfl | (simp; done) | (simp [*]; done)), H', ⟨by first | omega | exact Nat.le_refl _⟩, ⟨by (with_reducible repeat (first | refine blk_drewN ?_ _ | refine blk_drew ?_ | refine blk_alloc ?_ _)); exact BK233.out⟩, ⟨by (with_reducible repeat (first | refine blk_drewN ?_ _ | refine blk_drew ?_ | refine blk_alloc ?_ _)); exact BK234.out⟩, ⟨by repeat (first | (with_reducible first | exact HB.out | apply below_alloc | apply pw_below_drewN | apply below_drew1 | refine below_set ?_ GE233.out | refine below_set ?_ GE234.out) | exact HB.out)⟩⟩
  case rest =>
    clear HC2
    try clear c1
    try clear c2
    try clear p2
    try clear c4
    try clear c5
    try clear p6
    try clear c7
    try clear c7b0
    try clear c7b1
    try clear c10
    try clear hcz11_0
    try clear hcz11_1
    try clear hcz11_2
    try clear hcz11_3
    try clear hcz11_4
    try clear hcz6_0
    try clear hcz6_1
    try clear hcz6_2
    try clear hcz6_3
    try clear hcz6_4
    try clear hfz11_0
    try clear hfz11_1
    try clear hfz11_2
    try clear hfz11_3
    try clear hfz11_4
    try clear hfz6_0
    try clear hfz6_1
    try clear hfz6_2
    try clear hfz6_3
    try clear hfz6_4
    obtain ⟨kq, x3_1, x4_1, rfl, rfl, HA, HJ1, BK233, BK234, HB⟩ := hcut
    cases kq with
    | zero => exact absurd HA.out (by simp [capnpref11_Trim.j0])
    | succ kj1 =>
      have H := HA.out
      clear HA
      simp only [capnpref11_Trim.j0] at H
      have H' := Aside0.mk H
      clear H
      go_wp2_with (first | ((with_reducible refine gate_dst (N := 5) rfl ?_); refine box_event ?hg (N := 5) ?hd (cs := #[.int .i64 0, .int .i64 0, .int .i64 0, .slice none 0 0, .slice none 0 0]) (t := 37) ?hr ?_; (case hd => rfl); (case hg => rfl); (case hr => first | (go_simp; done) | (go_simp; rfl)); intro gb237 hg w12 hbox hb; have n0_ := Aside0.mk (blk_below (g := gb233) (o := .cells #[.int .i64 a0_0, .int .i64 a0_1, .int .i64 a0_2, .slice A0_3 l0_3.length c0_3, .slice A0_4 l0_4.length c0_4] 37 (0, 0)) (by (with_reducible repeat (first | refine blk_drewN ?_ _ | refine blk_drew ?_ | refine blk_alloc ?_ _)); exact BK233.out) hb); have n1_ := Aside0.mk (blk_below (g := gb234) (o := .cells #[.int .i64 0, .int .i64 0, .int .i64 0, .slice none 0 0, .slice none 0 0] 37 (0, 0)) (by (with_reducible repeat (first | refine blk_drewN ?_ _ | refine blk_drew ?_ | refine blk_alloc ?_ _)); exact BK234.out) hb); have n2_ := Aside0.mk (below_step (by repeat (first | (with_reducible first | exact HB.out | apply below_alloc | apply pw_below_drewN | apply below_drew1 | refine below_set ?_ GE233.out | refine below_set ?_ GE234.out) | exact HB.out)) hb); have n3_ := Aside0.mk (hbox); have n4_ := Aside0.mk ((by rw [hg]; exact (below_size (by repeat (first | (with_reducible first | exact HB.out | apply below_alloc | apply pw_below_drewN | apply below_drew1 | refine below_set ?_ GE233.out | refine below_set ?_ GE234.out) | exact HB.out))) : w.heap.size ≤ gb237)); have n5_ := Aside0.mk ((by rw [hg]; exact (below_size (by repeat (first | (with_reducible first | exact HB.out | apply below_alloc | apply pw_below_drewN | apply below_drew1 | refine below_set ?_ GE233.out | refine below_set ?_ GE234.out) | exact HB.out))) : w.heap.size ≤ gb237)); have n6_ := Aside0.mk ((by rw [hg]; exact Nat.ne_of_lt (blk_lt (g := gb233) (o := .cells #[.int .i64 a0_0, .int .i64 a0_1, .int .i64 a0_2, .slice A0_3 l0_3.length c0_3, .slice A0_4 l0_4.length c0_4] 37 (0, 0)) (by (with_reducible repeat (first | refine blk_drewN ?_ _ | refine blk_drew ?_ | refine blk_alloc ?_ _)); exact BK233.out)) : gb233 ≠ gb237)); have n7_ := Aside0.mk ((by rw [hg]; exact Nat.ne_of_gt (blk_lt (g := gb233) (o := .cells #[.int .i64 a0_0, .int .i64 a0_1, .int .i64 a0_2, .slice A0_3 l0_3.length c0_3, .slice A0_4 l0_4.length c0_4] 37 (0, 0)) (by (with_reducible repeat (first | refine blk_drewN ?_ _ | refine blk_drew ?_ | refine blk_alloc ?_ _)); exact BK233.out)) : gb237 ≠ gb233)); have n8_ := Aside0.mk ((by rw [hg]; exact Nat.ne_of_lt (blk_lt (g := gb234) (o := .cells #[.int .i64 0, .int .i64 0, .int .i64 0, .slice none 0 0, .slice none 0 0] 37 (0, 0)) (by (with_reducible repeat (first | refine blk_drewN ?_ _ | refine blk_drew ?_ | refine blk_alloc ?_ _)); exact BK234.out)) : gb234 ≠ gb237)); have n9_ := Aside0.mk ((by rw [hg]; exact Nat.ne_of_gt (blk_lt (g := gb234) (o := .cells #[.int .i64 0, .int .i64 0, .int .i64 0, .slice none 0 0, .slice none 0 0] 37 (0, 0)) (by (with_reducible repeat (first | refine blk_drewN ?_ _ | refine blk_drew ?_ | refine blk_alloc ?_ _)); exact BK234.out)) : gb237 ≠ gb234)); clear BK233; clear BK234; clear HB; have BK233 := n0_; have BK234 := n1_; have HB := n2_; have BK237 := n3_; have GW237 := n4_; have GE237 := n5_; have NB233_237 := n6_; have NB237_233 := n7_; have NB234_237 := n8_; have NB237_234 := n9_; clear n0_ n1_ n2_ n3_ n4_ n5_ n6_ n7_ n8_ n9_; clear hb hbox hg; have hnb13 := NB233_234.out; have hnc13 := NB234_233.out; have hnb14 := NB233_237.out; have hnc14 := NB237_233.out; have hcz15_0 : w12.cell? ⟨gb233, 0, none⟩ = some (.int .i64 a0_0) := (blk_cell BK233.out 0).trans rfl; have hcz15_1 : w12.cell? ⟨gb233, 1, none⟩ = some (.int .i64 a0_1) := (blk_cell BK233.out 1).trans rfl; have hcz15_2 : w12.cell? ⟨gb233, 2, none⟩ = some (.int .i64 a0_2) := (blk_cell BK233.out 2).trans rfl; have hcz15_3 : w12.cell? ⟨gb233, 3, none⟩ = some (.slice A0_3 l0_3.length c0_3) := (blk_cell BK233.out 3).trans rfl; have hcz15_4 : w12.cell? ⟨gb233, 4, none⟩ = some (.slice A0_4 l0_4.length c0_4) := (blk_cell BK233.out 4).trans rfl; have hfz15_0 := blk_frozen BK233.out 0; have hfz15_1 := blk_frozen BK233.out 1; have hfz15_2 := blk_frozen BK233.out 2; have hfz15_3 := blk_frozen BK233.out 3; have hfz15_4 := blk_frozen BK233.out 4; have hnb16 := NB237_234.out; have hnc16 := NB234_237.out; have hcz17_0 : w12.cell? ⟨gb237, 0, none⟩ = some (.int .i64 0) := (blk_cell BK237.out 0).trans rfl; have hcz17_1 : w12.cell? ⟨gb237, 1, none⟩ = some (.int .i64 0) := (blk_cell BK237.out 1).trans rfl; have hcz17_2 : w12.cell? ⟨gb237, 2, none⟩ = some (.int .i64 0) := (blk_cell BK237.out 2).trans rfl; have hcz17_3 : w12.cell? ⟨gb237, 3, none⟩ = some (.slice none 0 0) := (blk_cell BK237.out 3).trans rfl; have hcz17_4 : w12.cell? ⟨gb237, 4, none⟩ = some (.slice none 0 0) := (blk_cell BK237.out 4).trans rfl; have hfz17_0 := blk_frozen BK237.out 0; have hfz17_1 := blk_frozen BK237.out 1; have hfz17_2 := blk_frozen BK237.out 2; have hfz17_3 := blk_frozen BK237.out 3; have hfz17_4 := blk_frozen BK237.out 4))
      go_loopg [6] kj1 (fun kq v6 w' => ∃ (x6_2 : Int) (x238003_2 : List Int) (u238003 : Value), v6 = .int .i64 x6_2 ∧ Aside0 (capnpref11_Trim.l0 kq x3_1 x4_1 x6_2 a0_0 a0_1 a0_2 l0_3 l0_4 a0_0 a0_1 a0_2 x238003_2 = some (r1, r2, r3, r4, r5)) ∧ Aside0 (kq ≤ kj1) ∧ Aside0 (Kd.R (Kd.int .u8) 5 w' w.heap.size (fun _ => True) u238003 x238003_2) ∧ Aside0 (w'.heap[gb233]? = some (.cells #[.int .i64 a0_0, .int .i64 a0_1, .int .i64 a0_2, (.slice A0_3 l0_3.length c0_3), (.slice A0_4 l0_4.length c0_4)] 37 (0, 0))) ∧ Aside0 (w'.heap[gb234]? = some (.cells #[.int .i64 0, .int .i64 0, .int .i64 0, (.slice none 0 0), (.slice none 0 0)] 37 (0, 0))) ∧ Aside0 (w'.heap[gb237]? = some (.cells #[.int .i64 a0_0, .int .i64 a0_1, .int .i64 a0_2, u238003, (.slice none 0 0)] 37 (0, 0))) ∧ Aside0 (Below w.heap.size w w'))
      case atStart => exact ⟨(0), (([] : List Int)), (.slice none 0 0), (by first | rfl | (simp; done) | (simp [*]; done)), H', ⟨Nat.le_refl _⟩, ⟨by first | exact Kd.R_nil _ _ _ _ _ | exact Kd.N_nil _ _ _ _ _ | exact Kd.V_nil _ _ _ _ _ | exact Kd.Q_nil _ _ _ _ _ | exact Kd.S_nil _ _ _ _ _⟩, ⟨by (with_reducible repeat (first | refine blk_drewN ?_ _ | refine blk_drew ?_ | refine blk_alloc ?_ _)); refine blk_far ?_ NB233_237.out _; (with_reducible repeat (first | refine blk_drewN ?_ _ | refine blk_drew ?_ | refine blk_alloc ?_ _)); refine blk_far ?_ NB233_237.out _; (with_reducible repeat (first | refine blk_drewN ?_ _ | refine blk_drew ?_ | refine blk_alloc ?_ _)); refine blk_far ?_ NB233_237.out _; (with_reducible repeat (first | refine blk_drewN ?_ _ | refine blk_drew ?_ | refine blk_alloc ?_ _)); exact BK233.out⟩, ⟨by (with_reducible repeat (first | refine blk_drewN ?_ _ | refine blk_drew ?_ | refine blk_alloc ?_ _)); refine blk_far ?_ NB234_237.out _; (with_reducible repeat (first | refine blk_drewN ?_ _ | refine blk_drew ?_ | refine blk_alloc ?_ _)); refine blk_far ?_ NB234_237.out _; (with_reducible repeat (first | refine blk_drewN ?_ _ | refine blk_drew ?_ | refine blk_alloc ?_ _)); refine blk_far ?_ NB234_237.out _; (with_reducible repeat (first | refine blk_drewN ?_ _ | refine blk_drew ?_ | refine blk_alloc ?_ _)); exact BK234.out⟩, ⟨by (with_reducible repeat (first | refine blk_drewN ?_ _ | refine blk_drew ?_ | refine blk_alloc ?_ _)); refine blk_put (cs := #[.int .i64 a0_0, .int .i64 a0_1, .int .i64 0, .slice none 0 0, .slice none 0 0]) ?_ 2 _ rfl; (with_reducible repeat (first | refine blk_drewN ?_ _ | refine blk_drew ?_ | refine blk_alloc ?_ _)); refine blk_put (cs := #[.int .i64 a0_0, .int .i64 0, .int .i64 0, .slice none 0 0, .slice none 0 0]) ?_ 1 _ rfl; (with_reducible repeat (first | refine blk_drewN ?_ _ | refine blk_drew ?_ | refine blk_alloc ?_ _)); refine blk_put (cs := #[.int .i64 0, .int .i64 0, .int .i64 0, .slice none 0 0, .slice none 0 0]) ?_ 0 _ rfl; (with_reducible repeat (first | refine blk_drewN ?_ _ | refine blk_drew ?_ | refine blk_alloc ?_ _)); exact BK237.out⟩, ⟨by repeat (first | (with_reducible first | exact HB.out | apply below_alloc | apply pw_below_drewN | apply below_drew1 | refine below_set ?_ GE233.out | refine below_set ?_ GE234.out | refine below_set ?_ GE237.out) | exact HB.out)⟩⟩
      case round =>
        clear H'
        try clear c1
        try clear c2
        try clear p2
        try clear c4
        try clear c5
        try clear p6
        try clear c7
        try clear c7b0
        try clear c7b1
        try clear c10
        try clear c13
        try clear c14
        try clear c16
        try clear hcz11_0
        try clear hcz11_1
        try clear hcz11_2
        try clear hcz11_3
        try clear hcz11_4
        try clear hcz15_0
        try clear hcz15_1
        try clear hcz15_2
        try clear hcz15_3
        try clear hcz15_4
        try clear hcz17_0
        try clear hcz17_1
        try clear hcz17_2
        try clear hcz17_3
        try clear hcz17_4
        try clear hcz6_0
        try clear hcz6_1
        try clear hcz6_2
        try clear hcz6_3
        try clear hcz6_4
        try clear hfz11_0
        try clear hfz11_1
        try clear hfz11_2
        try clear hfz11_3
        try clear hfz11_4
        try clear hfz15_0
        try clear hfz15_1
        try clear hfz15_2
        try clear hfz15_3
        try clear hfz15_4
        try clear hfz17_0
        try clear hfz17_1
        try clear hfz17_2
        try clear hfz17_3
        try clear hfz17_4
        try clear hfz6_0
        try clear hfz6_1
        try clear hfz6_2
        try clear hfz6_3
        try clear hfz6_4
        try clear p2
        try clear p6
        try clear BK233
        try clear BK234
        try clear BK237
        obtain ⟨x6_2, x238003_2, u238003, rfl, HA, HK2, HO_238003, BK233, BK234, BK237, HB⟩ := hrel
        cases gk with
        | zero => exact absurd HA.out (by simp [capnpref11_Trim.l0])
        | succ k2 =>
          have H := HA.out
          clear HA
          simp only [capnpref11_Trim.l0] at H
          by_cases c18 : x6_2 < x3_1
          · rw [if_pos c18] at H
            have c18b0 : decide (x6_2 < x3_1) = true := decide_eq_true c18
            clear c18
            by_cases c19 : 0 ≤ x6_2
            · rw [if_pos c19] at H
              have c19b0 : decide (0 ≤ x6_2) = true := decide_eq_true c19
              clear c19
              by_cases c20 : x6_2 < (l0_3.length : Int)
              · rw [if_pos c20] at H
                have c20b0 : decide (x6_2 < (l0_3.length : Int)) = true := decide_eq_true c20
                clear c20
                by_cases c21 : x238003_2.length < 140737488355328
                · rw [if_pos c21] at H
                  have LMc21 := Aside0.mk c21
                  clear c21
                  obtain ⟨y239, hy239⟩ : ∃ y_ : List Int, y_ = (x238003_2 ++ [rd l0_3 x6_2]) := ⟨_, rfl⟩
                  replace H : (capnpref11_Trim.l0 k2 x3_1 x4_1 (wrap64 (x6_2 + 1)) a0_0 a0_1 a0_2 l0_3 l0_4 a0_0 a0_1 a0_2 y239) = some (r1, r2, r3, r4, r5) := by first | (rw [hy239]; with_reducible exact H) | (have H2_ := (Option.bind_some _ _).symm.trans H; rw [hy239]; with_reducible exact H2_) | (have H2_ := (Option.bind_some _ _).symm.trans H; with_reducible exact H2_) | with_reducible exact H | (rw [hy239]; exact H) | exact H
                  have Ny239 := Aside0.mk hy239
                  clear hy239
                  have H' := Aside0.mk H
                  clear H
                  try go_wp2
                  have n0_ := Aside0.mk (Kd.R_drew HO_238003.out)
                  have n1_ := Aside0.mk (blk_drew BK233.out)
                  have n2_ := Aside0.mk (blk_drew BK234.out)
                  have n3_ := Aside0.mk (blk_drew BK237.out)
                  have n4_ := Aside0.mk (below_drew1 HB.out)
                  clear HO_238003
                  clear BK233
                  clear BK234
                  clear BK237
                  clear HB
                  have HO_238003 := n0_
                  have BK233 := n1_
                  have BK234 := n2_
                  have BK237 := n3_
                  have HB := n4_
                  clear n0_ n1_ n2_ n3_ n4_
                  have p238 : 0 ≤ (x6_2 : Int) := of_decide_eq_true (by first | (with_reducible assumption) | assumption)
                  have q238 : x6_2 < (l0_3.length : Int) := of_decide_eq_true (by first | (with_reducible assumption) | assumption)
                  obtain ⟨ad238, e238, hx238_0⟩ := Kd.at_int HR0_3.out x6_2 p238 q238
                  have hw238_0 := hx238_0
                  cases e238
                  replace hx238_0 := (HB.out.cell (World.block_lt_of_cell? w _ hx238_0)).trans hx238_0
                  replace p238 := eq_true p238
                  replace q238 := eq_true q238
                  refine start_ (n := 11) (S := fun w' => w'.cell? ⟨gb237, 0, none⟩ = some (.int .i64 a0_0) ∧ w'.cell? ⟨gb237, 1, none⟩ = some (.int .i64 a0_1) ∧ w'.cell? ⟨gb237, 2, none⟩ = some (.int .i64 a0_2) ∧ w'.cell? ⟨gb237, 3, none⟩ = some (u238003) ∧ w'.cell? ⟨gb237, 4, none⟩ = some (.slice none 0 0) ∧ w'.cell? ⟨gb233, 0, none⟩ = some (.int .i64 a0_0) ∧ w'.cell? ⟨gb233, 1, none⟩ = some (.int .i64 a0_1) ∧ w'.cell? ⟨gb233, 2, none⟩ = some (.int .i64 a0_2) ∧ w'.cell? ⟨gb233, 3, none⟩ = some (.slice (some ad238) l0_3.length c0_3) ∧ w'.cell? ⟨gb233, 4, none⟩ = some (.slice A0_4 l0_4.length c0_4) ∧ w'.cell? (ad238.add (x6_2).toNat) = some (.int .u8 (rd l0_3 x6_2))) (ds := [10]) #[false, false, false, false, false, false, false, false, false, false, false] (by kernel_rfl) rfl rfl ⟨(blk_cell BK237.out 0).trans rfl, (blk_cell BK237.out 1).trans rfl, (blk_cell BK237.out 2).trans rfl, (blk_cell BK237.out 3).trans rfl, (blk_cell BK237.out 4).trans rfl, (blk_cell BK233.out 0).trans rfl, (blk_cell BK233.out 1).trans rfl, (blk_cell BK233.out 2).trans rfl, (blk_cell BK233.out 3).trans rfl, (blk_cell BK233.out 4).trans rfl, ((HB.out.cell (World.block_lt_of_cell? w _ hw238_0)).trans hw238_0)⟩ (fun hHeld => ?_); refine with_tabW capnpref11_Trim.tab13 capnpref11_Trim.bits13 (fun HT_ HW_ => ?_)
                  generalize wr.drew = w22 at HO_238003 BK233 BK234 BK237 HB hx238_0 hHeld ⊢
                  refine pure_ (i := 0) (N := some 38) (v := ?_) (a' := ?_) #[true, false, false, false, false, false, false, false, false, false, false] rfl rfl (any_of HT_.out (by kernel_rfl)) (fun _ _ _ h => h) (Or.inl ⟨by rfl, ?_⟩) ?_ ?_
                  rotate_left
                  · intro w'
                    go_simp
                    with_reducible rfl
                  rotate_left
                  · simp only [Act.put, List.setIfInBounds_toArray, List.set_cons_zero, List.set_cons_succ, i64_w, i32_w]
                    rfl
                  refine pure_ (i := 2) (N := some 40) (v := ?_) (a' := ?_) #[true, false, true, false, false, false, false, false, false, false, false] rfl rfl (any_of HT_.out (by kernel_rfl)) (fun _ _ _ h => h) (Or.inl ⟨by rfl, ?_⟩) ?_ ?_
                  rotate_left
                  · intro w'
                    go_simp
                    with_reducible rfl
                  rotate_left
                  · simp only [Act.put, List.setIfInBounds_toArray, List.set_cons_zero, List.set_cons_succ, i64_w, i32_w]
                    rfl
                  refine pure_ (i := 4) (N := some 42) (v := ?_) (a' := ?_) #[true, false, true, false, true, false, false, false, false, false, false] rfl rfl (any_of HT_.out (by kernel_rfl)) (fun _ _ _ h => h) (Or.inl ⟨by rfl, ?_⟩) ?_ ?_
                  rotate_left
                  · intro w'
                    go_simp
                    with_reducible rfl
                  rotate_left
                  · simp only [Act.put, List.setIfInBounds_toArray, List.set_cons_zero, List.set_cons_succ, i64_w, i32_w]
                    rfl
                  refine take_ (i := 1) (N := some 39) (v := ?_) (a' := ?_) #[true, true, true, false, true, false, false, false, false, false, false] rfl rfl (take_ofW HT_.out HW_.out (by kernel_rfl)) (fun _ _ _ h => h) (Or.inl ⟨by rfl, ?_⟩) hHeld ?_ ?_
                  rotate_left
                  · rintro w' ⟨s0, s1, s2, s3, s4, s5, s6, s7, s8, s9, s10⟩
                    go_simp
                    with_reducible rfl
                  rotate_left
                  · simp only [Act.put, List.setIfInBounds_toArray, List.set_cons_zero, List.set_cons_succ, i64_w, i32_w]
                    rfl
                  refine take_ (i := 3) (N := some 41) (v := ?_) (a' := ?_) #[true, true, true, true, true, false, false, false, false, false, false] rfl rfl (take_ofW HT_.out HW_.out (by kernel_rfl)) (fun _ _ _ h => h) (Or.inl ⟨by rfl, ?_⟩) hHeld ?_ ?_
                  rotate_left
                  · rintro w' ⟨s0, s1, s2, s3, s4, s5, s6, s7, s8, s9, s10⟩
                    go_simp
                    with_reducible rfl
                  rotate_left
                  · simp only [Act.put, List.setIfInBounds_toArray, List.set_cons_zero, List.set_cons_succ, i64_w, i32_w]
                    rfl
                  refine pure_ (i := 5) (N := some 43) (v := ?_) (a' := ?_) #[true, true, true, true, true, true, false, false, false, false, false] rfl rfl (any_of HT_.out (by kernel_rfl)) (fun _ _ _ h => h) (Or.inl ⟨by rfl, ?_⟩) ?_ ?_
                  rotate_left
                  · intro w'
                    go_simp
                    with_reducible rfl
                  rotate_left
                  · simp only [Act.put, List.setIfInBounds_toArray, List.set_cons_zero, List.set_cons_succ, i64_w, i32_w]
                    rfl
                  refine take_ (i := 6) (N := some 44) (v := ?_) (a' := ?_) #[true, true, true, true, true, true, true, false, false, false, false] rfl rfl (take_ofW HT_.out HW_.out (by kernel_rfl)) (fun _ _ _ h => h) (Or.inl ⟨by rfl, ?_⟩) hHeld ?_ ?_
                  rotate_left
                  · rintro w' ⟨s0, s1, s2, s3, s4, s5, s6, s7, s8, s9, s10⟩
                    go_simp
                    with_reducible rfl
                  rotate_left
                  · simp only [Act.put, List.setIfInBounds_toArray, List.set_cons_zero, List.set_cons_succ, i64_w, i32_w]
                    rfl
                  refine one_ (i := 7) (N := some 45) #[true, true, true, true, true, true, true, true, false, false, false] rfl rfl (one_of HT_.out (by kernel_rfl)) (by decide) (fun K hK => ?_)
                  refine value_ (w1 := ?_) (v := ?_) (by rfl) rfl ?_ ?_
                  rotate_left 2
                  · go_simp
                    constructor
                    · rfl
                    · rfl
                  refine hK.out _ _ ⟨(blk_cell (blk_alloc BK237.out _) 0).trans rfl, (blk_cell (blk_alloc BK237.out _) 1).trans rfl, (blk_cell (blk_alloc BK237.out _) 2).trans rfl, (blk_cell (blk_alloc BK237.out _) 3).trans rfl, (blk_cell (blk_alloc BK237.out _) 4).trans rfl, (blk_cell (blk_alloc BK233.out _) 0).trans rfl, (blk_cell (blk_alloc BK233.out _) 1).trans rfl, (blk_cell (blk_alloc BK233.out _) 2).trans rfl, (blk_cell (blk_alloc BK233.out _) 3).trans rfl, (blk_cell (blk_alloc BK233.out _) 4).trans rfl, (World.cell?_alloc_lt _ _ _ (World.block_lt_of_cell? _ _ (((HB.out.cell (World.block_lt_of_cell? w _ hw238_0)).trans hw238_0)))).trans (((HB.out.cell (World.block_lt_of_cell? w _ hw238_0)).trans hw238_0))⟩ (fun hHeld => ?_)
                  clear hK K
                  refine norm_ (a' := ?_) ?_ ?_
                  rotate_left
                  · show Act.put _ (some 45) _ = _
                    simp only [Act.put, List.setIfInBounds_toArray, List.set_cons_zero, List.set_cons_succ, i64_w, i32_w]
                    rfl
                  refine one_ (i := 8) (N := some 46) #[true, true, true, true, true, true, true, true, true, false, false] rfl rfl (one_of HT_.out (by kernel_rfl)) (by decide) (fun K hK => ?_)
                  refine Kd.R_append_step (Kd.int .u8) (w0 := w) w.heap.size (by rfl) (.tmp 39) (.tmp 45) 34 5 (.int .u8 0) 1 rfl Tryd.underlying34 info5 rfl (by decide) (by omega) u238003 x238003_2 (rd l0_3 x6_2) [.int .u8 (rd l0_3 x6_2)] (fun _ => True) (fun _ => False) rfl rfl ?aP (fun _ hk => hk.elim) ?aF ?aO ?aB ?aS ?aL ?_
                  (case aP => exact rfl)
                  (case aB => exact (by repeat (first | (with_reducible first | exact HB.out | apply below_alloc | apply pw_below_drewN | apply below_drew1 | refine below_set ?_ GE233.out | refine below_set ?_ GE234.out | refine below_set ?_ GE237.out) | exact HB.out)))
                  (case aF => exact (fun _ _ => trivial))
                  (case aO => exact (by (with_reducible repeat (first | apply Kd.R_alloc | apply Kd.R_drewN | apply Kd.R_drew)); exact HO_238003.out))
                  (case aS => exact (below_size (by repeat (first | (with_reducible first | exact HB.out | apply below_alloc | apply pw_below_drewN | apply below_drew1 | refine below_set ?_ GE233.out | refine below_set ?_ GE234.out | refine below_set ?_ GE237.out) | exact HB.out))))
                  (case aL => have := LMc21.out; omega)
                  intro v240 w23 ho hb hg hat
                  rw [← Ny239.out] at ho
                  have n0_ := Aside0.mk (blk_grown (g := gb233) (o := .cells #[.int .i64 a0_0, .int .i64 a0_1, .int .i64 a0_2, .slice (some ad238) l0_3.length c0_3, .slice A0_4 l0_4.length c0_4] 37 (0, 0)) (by (with_reducible repeat (first | refine blk_drewN ?_ _ | refine blk_drew ?_ | refine blk_alloc ?_ _)); exact BK233.out) hg (Kd.R_ne HO_238003.out BK233.out (by decide)))
                  have n1_ := Aside0.mk (blk_grown (g := gb234) (o := .cells #[.int .i64 0, .int .i64 0, .int .i64 0, .slice none 0 0, .slice none 0 0] 37 (0, 0)) (by (with_reducible repeat (first | refine blk_drewN ?_ _ | refine blk_drew ?_ | refine blk_alloc ?_ _)); exact BK234.out) hg (Kd.R_ne HO_238003.out BK234.out (by decide)))
                  have n2_ := Aside0.mk (blk_grown (g := gb237) (o := .cells #[.int .i64 a0_0, .int .i64 a0_1, .int .i64 a0_2, u238003, .slice none 0 0] 37 (0, 0)) (by (with_reducible repeat (first | refine blk_drewN ?_ _ | refine blk_drew ?_ | refine blk_alloc ?_ _)); exact BK237.out) hg (Kd.R_ne HO_238003.out BK237.out (by decide)))
                  have n3_ := Aside0.mk (hb)
                  have n4_ := Aside0.mk (ho)
                  clear BK233
                  clear BK234
                  clear BK237
                  clear HB
                  clear HO_238003
                  have BK233 := n0_
                  have BK234 := n1_
                  have BK237 := n2_
                  have HB := n3_
                  have HO241 := n4_
                  clear n0_ n1_ n2_ n3_ n4_
                  clear ho hb hg hat
                  obtain ⟨Ao24, co24, eo24⟩ := Kd.R_slice HO241.out
                  (first | subst eo24 | (injection eo24 with f1_ f2_ f3_; have f4_ := f1_.symm; have f5_ := f3_.symm; clear f1_ f2_ f3_; subst f4_; subst f5_))
                  refine hK.out _ _ ⟨(blk_cell BK237.out 0).trans rfl, (blk_cell BK237.out 1).trans rfl, (blk_cell BK237.out 2).trans rfl, (blk_cell BK237.out 3).trans rfl, (blk_cell BK237.out 4).trans rfl, (blk_cell BK233.out 0).trans rfl, (blk_cell BK233.out 1).trans rfl, (blk_cell BK233.out 2).trans rfl, (blk_cell BK233.out 3).trans rfl, (blk_cell BK233.out 4).trans rfl, ((HB.out.cell (World.block_lt_of_cell? w _ hw238_0)).trans hw238_0)⟩ (fun hHeld => ?_)
                  clear hK K
                  refine norm_ (a' := ?_) ?_ ?_
                  rotate_left
                  · show Act.put _ (some 46) _ = _
                    simp only [Act.put, List.setIfInBounds_toArray, List.set_cons_zero, List.set_cons_succ, i64_w, i32_w]
                    rfl
                  refine pure_ (i := 9) (N := some 47) (v := ?_) (a' := ?_) #[true, true, true, true, true, true, true, true, true, true, false] rfl rfl (any_of HT_.out (by kernel_rfl)) (fun _ _ _ h => h) (Or.inl ⟨by rfl, ?_⟩) ?_ ?_
                  rotate_left
                  · intro w'
                    go_simp
                    with_reducible rfl
                  rotate_left
                  · simp only [Act.put, List.setIfInBounds_toArray, List.set_cons_zero, List.set_cons_succ, i64_w, i32_w]
                    rfl
                  refine last_ (i := 10) (N := none) #[true, true, true, true, true, true, true, true, true, true, true] rfl rfl (one_of HT_.out (by kernel_rfl)) (by decide) (fun K hK => ?_)
                  have hs25 : w23.cell? ⟨gb237, 3, none⟩ = some (u238003) := (blk_cell BK237.out 3).trans rfl
                  have hfs25 := blk_frozen BK237.out 3
                  have hns25_0 := NB233_237.out
                  have hns25_1 := NB234_237.out
                  have hms25_0 := NB237_233.out
                  have hms25_1 := NB237_234.out
                  refine skip_ (w1 := ?_) (by rfl) rfl ?_ ?_
                  rotate_left
                  · go_simp
                    rfl
                  refine hK.out _ _ ?_
                  clear hK K
                  refine done_ (done_of HT_.out (by kernel_rfl)) ?_
                  try go_wp2
                  go_roundg k2
                  case measure => have := HJ1.out; have := HK2.out; omega
                  case rel => exact ⟨(wrap64 (x6_2 + 1)), (y239), (.slice Ao24 y239.length co24), (by first | rfl | (simp; done) | (simp [*]; done)), H', ⟨by have := HJ1.out; have := HK2.out; omega⟩, ⟨by (with_reducible repeat (first | apply Kd.R_alloc | apply Kd.R_drewN | apply Kd.R_drew)); exact Kd.R_mono (Kd.R_far (p := ⟨gb237, 3, none⟩) (Kd.R_types HO241.out BK237.out (by decide)) (fun _ hk => hk.2) (.slice Ao24 y239.length co24)) (fun _ hk => trivial)⟩, ⟨by (with_reducible repeat (first | refine blk_drewN ?_ _ | refine blk_drew ?_ | refine blk_alloc ?_ _)); refine blk_far ?_ NB233_237.out _; (with_reducible repeat (first | refine blk_drewN ?_ _ | refine blk_drew ?_ | refine blk_alloc ?_ _)); exact BK233.out⟩, ⟨by (with_reducible repeat (first | refine blk_drewN ?_ _ | refine blk_drew ?_ | refine blk_alloc ?_ _)); refine blk_far ?_ NB234_237.out _; (with_reducible repeat (first | refine blk_drewN ?_ _ | refine blk_drew ?_ | refine blk_alloc ?_ _)); exact BK234.out⟩, ⟨by (with_reducible repeat (first | refine blk_drewN ?_ _ | refine blk_drew ?_ | refine blk_alloc ?_ _)); refine blk_put (cs := #[.int .i64 a0_0, .int .i64 a0_1, .int .i64 a0_2, u238003, .slice none 0 0]) ?_ 3 _ rfl; (with_reducible repeat (first | refine blk_drewN ?_ _ | refine blk_drew ?_ | refine blk_alloc ?_ _)); exact BK237.out⟩, ⟨by repeat (first | (with_reducible first | exact HB.out | apply below_alloc | apply pw_below_drewN | apply below_drew1 | refine below_set ?_ GE233.out | refine below_set ?_ GE234.out | refine below_set ?_ GE237.out) | exact HB.out)⟩⟩
                · rw [if_neg c21] at H
                  exact absurd H (by simp)
              · rw [if_neg c20] at H
                exact absurd H (by simp)
            · rw [if_neg c19] at H
              exact absurd H (by simp)
          · rw [if_neg c18] at H
            have c18b0 : decide (x6_2 < x3_1) = false := decide_eq_false c18
            clear c18
            have H' := Aside0.mk H
            clear H
            go_wp2
            go_loopg [7] k2 (fun kq v7 w' => ∃ (x7_3 : Int) (x238004_3 : List (S37)) (u238004 : Value), v7 = .int .i64 x7_3 ∧ Aside0 (capnpref11_Trim.l1 kq x4_1 x7_3 a0_0 a0_1 a0_2 l0_3 l0_4 a0_0 a0_1 a0_2 x238003_2 x238004_3 = some (r1, r2, r3, r4, r5)) ∧ Aside0 (kq ≤ k2) ∧ Aside0 (Kd.R (Kd.int .u8) 5 w' w.heap.size (fun _ => True) u238003 x238003_2) ∧ Aside0 (Kd.R k37 37 w' w.heap.size (fun k_ => some k_ ≠ (u238003 : Value).ownBlock ∧ k_ ≠ gb233 ∧ k_ ≠ gb234 ∧ k_ ≠ gb237) u238004 x238004_3) ∧ Aside0 (w'.heap[gb233]? = some (.cells #[.int .i64 a0_0, .int .i64 a0_1, .int .i64 a0_2, (.slice A0_3 l0_3.length c0_3), (.slice A0_4 l0_4.length c0_4)] 37 (0, 0))) ∧ Aside0 (w'.heap[gb234]? = some (.cells #[.int .i64 0, .int .i64 0, .int .i64 0, (.slice none 0 0), (.slice none 0 0)] 37 (0, 0))) ∧ Aside0 (w'.heap[gb237]? = some (.cells #[.int .i64 a0_0, .int .i64 a0_1, .int .i64 a0_2, u238003, u238004] 37 (0, 0))) ∧ Aside0 (Below w.heap.size w w'))
            case atStart => exact ⟨(0), (([] : List (S37))), (.slice none 0 0), (by first | rfl | (simp; done) | (simp [*]; done)), H', ⟨Nat.le_refl _⟩, ⟨by (with_reducible repeat (first | apply Kd.R_alloc | apply Kd.R_drewN | apply Kd.R_drew)); exact HO_238003.out⟩, ⟨by first | exact Kd.R_nil _ _ _ _ _ | exact Kd.N_nil _ _ _ _ _ | exact Kd.V_nil _ _ _ _ _ | exact Kd.Q_nil _ _ _ _ _ | exact Kd.S_nil _ _ _ _ _⟩, ⟨by (with_reducible repeat (first | refine blk_drewN ?_ _ | refine blk_drew ?_ | refine blk_alloc ?_ _)); exact BK233.out⟩, ⟨by (with_reducible repeat (first | refine blk_drewN ?_ _ | refine blk_drew ?_ | refine blk_alloc ?_ _)); exact BK234.out⟩, ⟨by (with_reducible repeat (first | refine blk_drewN ?_ _ | refine blk_drew ?_ | refine blk_alloc ?_ _)); exact BK237.out⟩, ⟨by repeat (first | (with_reducible first | exact HB.out | apply below_alloc | apply pw_below_drewN | apply below_drew1 | refine below_set ?_ GE233.out | refine below_set ?_ GE234.out | refine below_set ?_ GE237.out) | exact HB.out)⟩⟩
            case round =>
              clear H'
              try clear c1
              try clear c2
              try clear p2
              try clear q2
              try clear hx2
              try clear c4
              try clear c5
              try clear p6
              try clear c7
              try clear c7b0
              try clear c7b1
              try clear c10
              try clear c13
              try clear c14
              try clear c16
              try clear c18
              try clear c18b0
              try clear c19
              try clear c19b0
              try clear c20
              try clear c20b0
              try clear c21
              try clear p23
              try clear q23
              try clear hx23
              try clear hcz11_0
              try clear hcz11_1
              try clear hcz11_2
              try clear hcz11_3
              try clear hcz11_4
              try clear hcz15_0
              try clear hcz15_1
              try clear hcz15_2
              try clear hcz15_3
              try clear hcz15_4
              try clear hcz17_0
              try clear hcz17_1
              try clear hcz17_2
              try clear hcz17_3
              try clear hcz17_4
              try clear hcz6_0
              try clear hcz6_1
              try clear hcz6_2
              try clear hcz6_3
              try clear hcz6_4
              try clear hfz11_0
              try clear hfz11_1
              try clear hfz11_2
              try clear hfz11_3
              try clear hfz11_4
              try clear hfz15_0
              try clear hfz15_1
              try clear hfz15_2
              try clear hfz15_3
              try clear hfz15_4
              try clear hfz17_0
              try clear hfz17_1
              try clear hfz17_2
              try clear hfz17_3
              try clear hfz17_4
              try clear hfz6_0
              try clear hfz6_1
              try clear hfz6_2
              try clear hfz6_3
              try clear hfz6_4
              try clear hx238_0
              try clear p2
              try clear p238
              try clear p6
              try clear q238
              try clear BK233
              try clear BK234
              try clear BK237
              obtain ⟨x7_3, x238004_3, u238004, rfl, HA, HK3, HO_238003, HO_238004, BK233, BK234, BK237, HB⟩ := hrel
              cases gk with
              | zero => exact absurd HA.out (by simp [capnpref11_Trim.l1])
              | succ k3 =>
                have H := HA.out
                clear HA
                simp only [capnpref11_Trim.l1] at H
                by_cases c26 : x7_3 < x4_1
                · rw [if_pos c26] at H
                  have c26b0 : decide (x7_3 < x4_1) = true := decide_eq_true c26
                  clear c26
                  by_cases c27 : 0 ≤ x7_3
                  · rw [if_pos c27] at H
                    have c27b0 : decide (0 ≤ x7_3) = true := decide_eq_true c27
                    clear c27
                    by_cases c28 : x7_3 < (l0_4.length : Int)
                    · rw [if_pos c28] at H
                      have c28b0 : decide (x7_3 < (l0_4.length : Int)) = true := decide_eq_true c28
                      clear c28
                      replace H := Option.bind_eq_some_iff.mp H
                      obtain ⟨⟨t243, t244, t245, t246, t249⟩, A290, H⟩ := H
                      replace H : (if x238004_3.length < 1954687338268 then (capnpref11_Trim.l1 k3 x4_1 (wrap64 (x7_3 + 1)) a0_0 a0_1 a0_2 l0_3 l0_4 a0_0 a0_1 a0_2 x238003_2 (x238004_3 ++ [(⟨t243, t244, t245, t246, t249⟩ : S37)])) else (none)) = some (r1, r2, r3, r4, r5) := H
                      have A29 := Aside0.mk A290
                      clear A290
                      by_cases c30 : x238004_3.length < 1954687338268
                      · rw [if_pos c30] at H
                        have LMc30 := Aside0.mk c30
                        clear c30
                        obtain ⟨y252, hy252⟩ : ∃ y_ : List (S37), y_ = (x238004_3 ++ [(⟨t243, t244, t245, t246, t249⟩ : S37)]) := ⟨_, rfl⟩
                        replace H : (capnpref11_Trim.l1 k3 x4_1 (wrap64 (x7_3 + 1)) a0_0 a0_1 a0_2 l0_3 l0_4 a0_0 a0_1 a0_2 x238003_2 y252) = some (r1, r2, r3, r4, r5) := by first | (rw [hy252]; with_reducible exact H) | (have H2_ := (Option.bind_some _ _).symm.trans H; rw [hy252]; with_reducible exact H2_) | (have H2_ := (Option.bind_some _ _).symm.trans H; with_reducible exact H2_) | with_reducible exact H | (rw [hy252]; exact H) | exact H
                        have Ny252 := Aside0.mk hy252
                        clear hy252
                        have H' := Aside0.mk H
                        clear H
                        try go_wp2
                        have n0_ := Aside0.mk (Kd.R_drew HO_238003.out)
                        have n1_ := Aside0.mk (Kd.R_drew HO_238004.out)
                        have n2_ := Aside0.mk (blk_drew BK233.out)
                        have n3_ := Aside0.mk (blk_drew BK234.out)
                        have n4_ := Aside0.mk (blk_drew BK237.out)
                        have n5_ := Aside0.mk (below_drew1 HB.out)
                        clear HO_238003
                        clear HO_238004
                        clear BK233
                        clear BK234
                        clear BK237
                        clear HB
                        have HO_238003 := n0_
                        have HO_238004 := n1_
                        have BK233 := n2_
                        have BK234 := n3_
                        have BK237 := n4_
                        have HB := n5_
                        clear n0_ n1_ n2_ n3_ n4_ n5_
                        have p242 : 0 ≤ (x7_3 : Int) := of_decide_eq_true (by first | (with_reducible assumption) | assumption)
                        have q242 : x7_3 < (l0_4.length : Int) := of_decide_eq_true (by first | (with_reducible assumption) | assumption)
                        obtain ⟨ad242, A242_3, c242_3, A242_4, c242_4, e242, hx242_0, hx242_1, hx242_2, hx242_3, hx242_4, hl242_3, hi242_3, hl242_4, hi242_4⟩ := at_T37 HR0_4.out x7_3 p242 q242
                        have hw242_4 := hx242_4
                        have hw242_3 := hx242_3
                        have hw242_2 := hx242_2
                        have hw242_1 := hx242_1
                        have hw242_0 := hx242_0
                        cases e242
                        replace hx242_0 := (HB.out.cell (World.block_lt_of_cell? w _ hx242_0)).trans hx242_0
                        replace hx242_1 := (HB.out.cell (World.block_lt_of_cell? w _ hx242_1)).trans hx242_1
                        replace hx242_2 := (HB.out.cell (World.block_lt_of_cell? w _ hx242_2)).trans hx242_2
                        replace hx242_3 := (HB.out.cell (World.block_lt_of_cell? w _ hx242_3)).trans hx242_3
                        replace hx242_4 := (HB.out.cell (World.block_lt_of_cell? w _ hx242_4)).trans hx242_4
                        have HR242_3 := Aside0.mk hi242_3
                        have HC242_3 := Aside0.mk hl242_3
                        clear hi242_3 hl242_3
                        have HR242_4 := Aside0.mk hi242_4
                        have HC242_4 := Aside0.mk hl242_4
                        clear hi242_4 hl242_4
                        replace p242 := eq_true p242
                        replace q242 := eq_true q242
                        refine start_ (n := 12) (S := fun w' => w'.cell? ⟨gb237, 0, none⟩ = some (.int .i64 a0_0) ∧ w'.cell? ⟨gb237, 1, none⟩ = some (.int .i64 a0_1) ∧ w'.cell? ⟨gb237, 2, none⟩ = some (.int .i64 a0_2) ∧ w'.cell? ⟨gb237, 3, none⟩ = some (u238003) ∧ w'.cell? ⟨gb237, 4, none⟩ = some (u238004) ∧ w'.cell? ⟨gb233, 0, none⟩ = some (.int .i64 a0_0) ∧ w'.cell? ⟨gb233, 1, none⟩ = some (.int .i64 a0_1) ∧ w'.cell? ⟨gb233, 2, none⟩ = some (.int .i64 a0_2) ∧ w'.cell? ⟨gb233, 3, none⟩ = some (.slice A0_3 l0_3.length c0_3) ∧ w'.cell? ⟨gb233, 4, none⟩ = some (.slice (some ad242) l0_4.length c0_4) ∧ w'.cell? (ad242.add ((x7_3).toNat * 5)) = some (.int .i64 ((rd_T37 l0_4 x7_3).f0)) ∧ w'.cell? ⟨(ad242.add ((x7_3).toNat * 5)).block, (ad242.add ((x7_3).toNat * 5)).off + 1, none⟩ = some (.int .i64 ((rd_T37 l0_4 x7_3).f1)) ∧ w'.cell? ⟨(ad242.add ((x7_3).toNat * 5)).block, (ad242.add ((x7_3).toNat * 5)).off + 2, none⟩ = some (.int .i64 ((rd_T37 l0_4 x7_3).f2)) ∧ w'.cell? ⟨(ad242.add ((x7_3).toNat * 5)).block, (ad242.add ((x7_3).toNat * 5)).off + 3, none⟩ = some (.slice A242_3 ((rd_T37 l0_4 x7_3).f3).length c242_3) ∧ w'.cell? ⟨(ad242.add ((x7_3).toNat * 5)).block, (ad242.add ((x7_3).toNat * 5)).off + 4, none⟩ = some (.slice A242_4 ((rd_T37 l0_4 x7_3).f4).length c242_4)) (ds := [11]) #[false, false, false, false, false, false, false, false, false, false, false, false] (by kernel_rfl) rfl rfl ⟨(blk_cell BK237.out 0).trans rfl, (blk_cell BK237.out 1).trans rfl, (blk_cell BK237.out 2).trans rfl, (blk_cell BK237.out 3).trans rfl, (blk_cell BK237.out 4).trans rfl, (blk_cell BK233.out 0).trans rfl, (blk_cell BK233.out 1).trans rfl, (blk_cell BK233.out 2).trans rfl, (blk_cell BK233.out 3).trans rfl, (blk_cell BK233.out 4).trans rfl, ((HB.out.cell (World.block_lt_of_cell? w _ hw242_0)).trans hw242_0), ((HB.out.cell (World.block_lt_of_cell? w _ hw242_1)).trans hw242_1), ((HB.out.cell (World.block_lt_of_cell? w _ hw242_2)).trans hw242_2), ((HB.out.cell (World.block_lt_of_cell? w _ hw242_3)).trans hw242_3), ((HB.out.cell (World.block_lt_of_cell? w _ hw242_4)).trans hw242_4)⟩ (fun hHeld => ?_); refine with_tabW capnpref11_Trim.tab17 capnpref11_Trim.bits17 (fun HT_ HW_ => ?_)
                        generalize wr.drew = w31 at HO_238003 HO_238004 BK233 BK234 BK237 HB HR242_3 HR242_4 hx242_0 hx242_1 hx242_2 hx242_3 hx242_4 hHeld ⊢
                        refine pure_ (i := 0) (N := some 53) (v := ?_) (a' := ?_) #[true, false, false, false, false, false, false, false, false, false, false, false] rfl rfl (any_of HT_.out (by kernel_rfl)) (fun _ _ _ h => h) (Or.inl ⟨by rfl, ?_⟩) ?_ ?_
                        rotate_left
                        · intro w'
                          go_simp
                          with_reducible rfl
                        rotate_left
                        · simp only [Act.put, List.setIfInBounds_toArray, List.set_cons_zero, List.set_cons_succ, i64_w, i32_w]
                          rfl
                        refine pure_ (i := 2) (N := some 55) (v := ?_) (a' := ?_) #[true, false, true, false, false, false, false, false, false, false, false, false] rfl rfl (any_of HT_.out (by kernel_rfl)) (fun _ _ _ h => h) (Or.inl ⟨by rfl, ?_⟩) ?_ ?_
                        rotate_left
                        · intro w'
                          go_simp
                          with_reducible rfl
                        rotate_left
                        · simp only [Act.put, List.setIfInBounds_toArray, List.set_cons_zero, List.set_cons_succ, i64_w, i32_w]
                          rfl
                        refine pure_ (i := 4) (N := some 57) (v := ?_) (a' := ?_) #[true, false, true, false, true, false, false, false, false, false, false, false] rfl rfl (any_of HT_.out (by kernel_rfl)) (fun _ _ _ h => h) (Or.inl ⟨by rfl, ?_⟩) ?_ ?_
                        rotate_left
                        · intro w'
                          go_simp
                          with_reducible rfl
                        rotate_left
                        · simp only [Act.put, List.setIfInBounds_toArray, List.set_cons_zero, List.set_cons_succ, i64_w, i32_w]
                          rfl
                        refine take_ (i := 1) (N := some 54) (v := ?_) (a' := ?_) #[true, true, true, false, true, false, false, false, false, false, false, false] rfl rfl (take_ofW HT_.out HW_.out (by kernel_rfl)) (fun _ _ _ h => h) (Or.inl ⟨by rfl, ?_⟩) hHeld ?_ ?_
                        rotate_left
                        · rintro w' ⟨s0, s1, s2, s3, s4, s5, s6, s7, s8, s9, s10, s11, s12, s13, s14⟩
                          go_simp
                          with_reducible rfl
                        rotate_left
                        · simp only [Act.put, List.setIfInBounds_toArray, List.set_cons_zero, List.set_cons_succ, i64_w, i32_w]
                          rfl
                        refine take_ (i := 3) (N := some 56) (v := ?_) (a' := ?_) #[true, true, true, true, true, false, false, false, false, false, false, false] rfl rfl (take_ofW HT_.out HW_.out (by kernel_rfl)) (fun _ _ _ h => h) (Or.inl ⟨by rfl, ?_⟩) hHeld ?_ ?_
                        rotate_left
                        · rintro w' ⟨s0, s1, s2, s3, s4, s5, s6, s7, s8, s9, s10, s11, s12, s13, s14⟩
                          go_simp
                          with_reducible rfl
                        rotate_left
                        · simp only [Act.put, List.setIfInBounds_toArray, List.set_cons_zero, List.set_cons_succ, i64_w, i32_w]
                          rfl
                        refine pure_ (i := 5) (N := some 58) (v := ?_) (a' := ?_) #[true, true, true, true, true, true, false, false, false, false, false, false] rfl rfl (any_of HT_.out (by kernel_rfl)) (fun _ _ _ h => h) (Or.inl ⟨by rfl, ?_⟩) ?_ ?_
                        rotate_left
                        · intro w'
                          go_simp
                          with_reducible rfl
                        rotate_left
                        · simp only [Act.put, List.setIfInBounds_toArray, List.set_cons_zero, List.set_cons_succ, i64_w, i32_w]
                          rfl
                        refine take_ (i := 6) (N := some 59) (v := ?_) (a' := ?_) #[true, true, true, true, true, true, true, false, false, false, false, false] rfl rfl (take_ofW HT_.out HW_.out (by kernel_rfl)) (fun _ _ _ h => h) (Or.inl ⟨by rfl, ?_⟩) hHeld ?_ ?_
                        rotate_left
                        · rintro w' ⟨s0, s1, s2, s3, s4, s5, s6, s7, s8, s9, s10, s11, s12, s13, s14⟩
                          go_simp
                          with_reducible rfl
                        rotate_left
                        · simp only [Act.put, List.setIfInBounds_toArray, List.set_cons_zero, List.set_cons_succ, i64_w, i32_w]
                          rfl
                        refine one_ (i := 7) (N := some 60) #[true, true, true, true, true, true, true, true, false, false, false, false] rfl rfl (one_of HT_.out (by kernel_rfl)) (by decide) (fun K hK => ?_)
                        refine goes_ Tryd.func29 (by kernel_rfl) rfl #[.agg #[.int .i64 ((rd_T37 l0_4 x7_3).f0), .int .i64 ((rd_T37 l0_4 x7_3).f1), .int .i64 ((rd_T37 l0_4 x7_3).f2), .slice A242_3 ((rd_T37 l0_4 x7_3).f3).length c242_3, .slice A242_4 ((rd_T37 l0_4 x7_3).f4).length c242_4]] (by rfl) rfl rfl (by (try simp only [List.map_toArray, List.map_cons, List.map_nil]); first | done | rfl | (simp only [List.length_drop, List.length_take]; rfl)) ?_
                        with_reducible refine (ih k3 (by have := HJ1.out; have := HK2.out; have := HK3.out; omega) ((rd_T37 l0_4 x7_3).f0) ((rd_T37 l0_4 x7_3).f1) ((rd_T37 l0_4 x7_3).f2) _ _ ((rd_T37 l0_4 x7_3).f3) _ _ ((rd_T37 l0_4 x7_3).f4) t243 t244 t245 t246 t249 _ ?side1 ?side2 ?side3 ?side4 A29.out).mono ?_
                        (case side1 => repeat (first | exact (Kd.C_below HR242_3.out HB.out) | (with_reducible refine Kd.C_alloc ?_ _) | (with_reducible refine Kd.C_drewN ?_ _) | (with_reducible refine Kd.C_drew ?_)))
                        (case side2 => exact HC242_3.out)
                        (case side3 => repeat (first | exact (Kd.C_below HR242_4.out HB.out) | (with_reducible refine Kd.C_alloc ?_ _) | (with_reducible refine Kd.C_drewN ?_ _) | (with_reducible refine Kd.C_drew ?_)))
                        (case side4 => exact HC242_4.out)
                        rintro e w32 ⟨v247, v250, rfl, ho0, ho1, hb⟩
                        refine ⟨_, rfl, ?_⟩
                        have n0_ := Aside0.mk (Kd.R_elder' (by (with_reducible repeat (first | apply Kd.R_alloc | apply Kd.R_drewN | apply Kd.R_drew)); exact HO_238003.out) (Kd.R_base ho0) hb)
                        have n1_ := Aside0.mk (Kd.R_mono (Kd.R_told (Kd.R_told (Kd.R_old (by (with_reducible repeat (first | apply Kd.R_alloc | apply Kd.R_drewN | apply Kd.R_drew)); exact HO_238004.out) hb) (Kd.R_base ho0)) (Kd.R_base ho1)) (fun _ h_ => h_.1))
                        have n2_ := Aside0.mk (Kd.R_lower (Kd.R_new' ho0 (Kd.R_lt (by (with_reducible repeat (first | apply Kd.R_alloc | apply Kd.R_drewN | apply Kd.R_drew)); exact HO_238003.out))) (below_size (by repeat (first | (with_reducible first | exact HB.out | apply below_alloc | apply pw_below_drewN | apply below_drew1 | refine below_set ?_ GE233.out | refine below_set ?_ GE234.out | refine below_set ?_ GE237.out) | exact HB.out))))
                        have n3_ := Aside0.mk (Kd.R_lower (Kd.R_newB (Kd.R_newB (Kd.R_newB (Kd.R_new' (Kd.R_new' ho1 (Kd.R_lt (by (with_reducible repeat (first | apply Kd.R_alloc | apply Kd.R_drewN | apply Kd.R_drew)); exact HO_238003.out))) (Kd.R_lt (by (with_reducible repeat (first | apply Kd.R_alloc | apply Kd.R_drewN | apply Kd.R_drew)); exact HO_238004.out))) (g := gb233) (o := .cells #[.int .i64 a0_0, .int .i64 a0_1, .int .i64 a0_2, .slice A0_3 l0_3.length c0_3, .slice (some ad242) l0_4.length c0_4] 37 (0, 0)) (by (with_reducible repeat (first | refine blk_drewN ?_ _ | refine blk_drew ?_ | refine blk_alloc ?_ _)); exact BK233.out)) (g := gb234) (o := .cells #[.int .i64 0, .int .i64 0, .int .i64 0, .slice none 0 0, .slice none 0 0] 37 (0, 0)) (by (with_reducible repeat (first | refine blk_drewN ?_ _ | refine blk_drew ?_ | refine blk_alloc ?_ _)); exact BK234.out)) (g := gb237) (o := .cells #[.int .i64 a0_0, .int .i64 a0_1, .int .i64 a0_2, u238003, u238004] 37 (0, 0)) (by (with_reducible repeat (first | refine blk_drewN ?_ _ | refine blk_drew ?_ | refine blk_alloc ?_ _)); exact BK237.out)) (below_size (by repeat (first | (with_reducible first | exact HB.out | apply below_alloc | apply pw_below_drewN | apply below_drew1 | refine below_set ?_ GE233.out | refine below_set ?_ GE234.out | refine below_set ?_ GE237.out) | exact HB.out))))
                        have n4_ := Aside0.mk (blk_below (g := gb233) (o := .cells #[.int .i64 a0_0, .int .i64 a0_1, .int .i64 a0_2, .slice A0_3 l0_3.length c0_3, .slice (some ad242) l0_4.length c0_4] 37 (0, 0)) (by (with_reducible repeat (first | refine blk_drewN ?_ _ | refine blk_drew ?_ | refine blk_alloc ?_ _)); exact BK233.out) hb)
                        have n5_ := Aside0.mk (blk_below (g := gb234) (o := .cells #[.int .i64 0, .int .i64 0, .int .i64 0, .slice none 0 0, .slice none 0 0] 37 (0, 0)) (by (with_reducible repeat (first | refine blk_drewN ?_ _ | refine blk_drew ?_ | refine blk_alloc ?_ _)); exact BK234.out) hb)
                        have n6_ := Aside0.mk (blk_below (g := gb237) (o := .cells #[.int .i64 a0_0, .int .i64 a0_1, .int .i64 a0_2, u238003, u238004] 37 (0, 0)) (by (with_reducible repeat (first | refine blk_drewN ?_ _ | refine blk_drew ?_ | refine blk_alloc ?_ _)); exact BK237.out) hb)
                        have n7_ := Aside0.mk (below_step (by repeat (first | (with_reducible first | exact HB.out | apply below_alloc | apply pw_below_drewN | apply below_drew1 | refine below_set ?_ GE233.out | refine below_set ?_ GE234.out | refine below_set ?_ GE237.out) | exact HB.out)) hb)
                        clear HO_238003
                        clear HO_238004
                        clear BK233
                        clear BK234
                        clear BK237
                        clear HB
                        have HO_238003 := n0_
                        have HO_238004 := n1_
                        have HO248 := n2_
                        have HO251 := n3_
                        have BK233 := n4_
                        have BK234 := n5_
                        have BK237 := n6_
                        have HB := n7_
                        clear n0_ n1_ n2_ n3_ n4_ n5_ n6_ n7_
                        (try clear hb)
                        (try clear hb2)
                        (try clear hk)
                        (try clear hi)
                        (try clear ho0)
                        (try clear ho1)
                        obtain ⟨Ao34, co34, eo34⟩ := Kd.R_slice HO248.out
                        (first | subst eo34 | (injection eo34 with f1_ f2_ f3_; have f4_ := f1_.symm; have f5_ := f3_.symm; clear f1_ f2_ f3_; subst f4_; subst f5_))
                        obtain ⟨Ao35, co35, eo35⟩ := Kd.R_slice HO251.out
                        (first | subst eo35 | (injection eo35 with f1_ f2_ f3_; have f4_ := f1_.symm; have f5_ := f3_.symm; clear f1_ f2_ f3_; subst f4_; subst f5_))
                        refine hK.out _ _ ⟨(blk_cell BK237.out 0).trans rfl, (blk_cell BK237.out 1).trans rfl, (blk_cell BK237.out 2).trans rfl, (blk_cell BK237.out 3).trans rfl, (blk_cell BK237.out 4).trans rfl, (blk_cell BK233.out 0).trans rfl, (blk_cell BK233.out 1).trans rfl, (blk_cell BK233.out 2).trans rfl, (blk_cell BK233.out 3).trans rfl, (blk_cell BK233.out 4).trans rfl, ((HB.out.cell (World.block_lt_of_cell? w _ hw242_0)).trans hw242_0), ((HB.out.cell (World.block_lt_of_cell? w _ hw242_1)).trans hw242_1), ((HB.out.cell (World.block_lt_of_cell? w _ hw242_2)).trans hw242_2), ((HB.out.cell (World.block_lt_of_cell? w _ hw242_3)).trans hw242_3), ((HB.out.cell (World.block_lt_of_cell? w _ hw242_4)).trans hw242_4)⟩ (fun hHeld => ?_)
                        clear hK K
                        refine norm_ (a' := ?_) ?_ ?_
                        rotate_left
                        · show Act.put _ (some 60) _ = _
                          simp only [Act.put, List.setIfInBounds_toArray, List.set_cons_zero, List.set_cons_succ, i64_w, i32_w]
                          rfl
                        refine one_ (i := 8) (N := some 61) #[true, true, true, true, true, true, true, true, true, false, false, false] rfl rfl (one_of HT_.out (by kernel_rfl)) (by decide) (fun K hK => ?_)
                        refine value_ (w1 := ?_) (v := ?_) (by rfl) rfl ?_ ?_
                        rotate_left 2
                        · go_simp
                          constructor
                          · rfl
                          · rfl
                        refine hK.out _ _ ⟨(blk_cell (blk_alloc BK237.out _) 0).trans rfl, (blk_cell (blk_alloc BK237.out _) 1).trans rfl, (blk_cell (blk_alloc BK237.out _) 2).trans rfl, (blk_cell (blk_alloc BK237.out _) 3).trans rfl, (blk_cell (blk_alloc BK237.out _) 4).trans rfl, (blk_cell (blk_alloc BK233.out _) 0).trans rfl, (blk_cell (blk_alloc BK233.out _) 1).trans rfl, (blk_cell (blk_alloc BK233.out _) 2).trans rfl, (blk_cell (blk_alloc BK233.out _) 3).trans rfl, (blk_cell (blk_alloc BK233.out _) 4).trans rfl, (World.cell?_alloc_lt _ _ _ (World.block_lt_of_cell? _ _ (((HB.out.cell (World.block_lt_of_cell? w _ hw242_0)).trans hw242_0)))).trans (((HB.out.cell (World.block_lt_of_cell? w _ hw242_0)).trans hw242_0)), (World.cell?_alloc_lt _ _ _ (World.block_lt_of_cell? _ _ (((HB.out.cell (World.block_lt_of_cell? w _ hw242_1)).trans hw242_1)))).trans (((HB.out.cell (World.block_lt_of_cell? w _ hw242_1)).trans hw242_1)), (World.cell?_alloc_lt _ _ _ (World.block_lt_of_cell? _ _ (((HB.out.cell (World.block_lt_of_cell? w _ hw242_2)).trans hw242_2)))).trans (((HB.out.cell (World.block_lt_of_cell? w _ hw242_2)).trans hw242_2)), (World.cell?_alloc_lt _ _ _ (World.block_lt_of_cell? _ _ (((HB.out.cell (World.block_lt_of_cell? w _ hw242_3)).trans hw242_3)))).trans (((HB.out.cell (World.block_lt_of_cell? w _ hw242_3)).trans hw242_3)), (World.cell?_alloc_lt _ _ _ (World.block_lt_of_cell? _ _ (((HB.out.cell (World.block_lt_of_cell? w _ hw242_4)).trans hw242_4)))).trans (((HB.out.cell (World.block_lt_of_cell? w _ hw242_4)).trans hw242_4))⟩ (fun hHeld => ?_)
                        clear hK K
                        refine norm_ (a' := ?_) ?_ ?_
                        rotate_left
                        · show Act.put _ (some 61) _ = _
                          simp only [Act.put, List.setIfInBounds_toArray, List.set_cons_zero, List.set_cons_succ, i64_w, i32_w]
                          rfl
                        refine one_ (i := 9) (N := some 62) #[true, true, true, true, true, true, true, true, true, true, false, false] rfl rfl (one_of HT_.out (by kernel_rfl)) (by decide) (fun K hK => ?_)
                        refine Kd.R_append_step k37 (w0 := w) w.heap.size (by rfl) (.tmp 54) (.tmp 61) 35 37 (.agg #[(.int .i64 0), (.int .i64 0), (.int .i64 0), (.slice none 0 0), (.slice none 0 0)]) 72 rfl Tryd.underlying35 info37 rfl (by decide) (by omega) u238004 x238004_3 (⟨t243, t244, t245, t246, t249⟩ : S37) [.int .i64 t243, .int .i64 t244, .int .i64 t245, .slice Ao34 t246.length co34, .slice Ao35 t249.length co35] (fun k_ => some k_ ≠ (u238003 : Value).ownBlock ∧ k_ ≠ gb233 ∧ k_ ≠ gb234 ∧ k_ ≠ gb237) (fun k_ => ((fun k_ => some k_ ≠ (u238003 : Value).ownBlock ∧ k_ ≠ gb233 ∧ k_ ≠ gb234 ∧ k_ ≠ gb237)) k_ ∧ some k_ ≠ (u238004 : Value).ownBlock) rfl rfl ?aP (fun _ hk => hk) ?aF ?aO ?aB ?aS ?aL ?_
                        (case aP => exact k37_mkM _ _ _ (⟨t243, t244, t245, t246, t249⟩ : S37) (Kd.R_mono (Kd.R_types (Kd.R_types (Kd.R_types (Kd.R_apart' (HO248.out) (Kd.R_typed HO_238004.out) (by decide)) BK233.out (by decide)) BK234.out (by decide)) BK237.out (by decide)) (fun k_ hk => ⟨⟨hk.1.1.1.1.2, ⟨hk.1.1.2, ⟨hk.1.2, hk.2⟩⟩⟩, hk.1.1.1.2⟩)) (Kd.R_mono (HO251.out) (fun k_ hk => ⟨⟨hk.1.1.1.1.2, ⟨hk.1.1.2, ⟨hk.1.2, hk.2⟩⟩⟩, hk.1.1.1.2⟩)))
                        (case aB => exact (by repeat (first | (with_reducible first | exact HB.out | apply below_alloc | apply pw_below_drewN | apply below_drew1 | refine below_set ?_ GE233.out | refine below_set ?_ GE234.out | refine below_set ?_ GE237.out) | exact HB.out)))
                        (case aF => exact (fun k_ hk => ⟨Kd.fresh' (Kd.R_lt (by (with_reducible repeat (first | apply Kd.R_alloc | apply Kd.R_drewN | apply Kd.R_drew)); exact HO_238003.out)) k_ hk, Kd.freshB (g := gb233) (o := .cells #[.int .i64 a0_0, .int .i64 a0_1, .int .i64 a0_2, .slice A0_3 l0_3.length c0_3, .slice (some ad242) l0_4.length c0_4] 37 (0, 0)) (by (with_reducible repeat (first | refine blk_drewN ?_ _ | refine blk_drew ?_ | refine blk_alloc ?_ _)); exact BK233.out) k_ hk, Kd.freshB (g := gb234) (o := .cells #[.int .i64 0, .int .i64 0, .int .i64 0, .slice none 0 0, .slice none 0 0] 37 (0, 0)) (by (with_reducible repeat (first | refine blk_drewN ?_ _ | refine blk_drew ?_ | refine blk_alloc ?_ _)); exact BK234.out) k_ hk, Kd.freshB (g := gb237) (o := .cells #[.int .i64 a0_0, .int .i64 a0_1, .int .i64 a0_2, u238003, u238004] 37 (0, 0)) (by (with_reducible repeat (first | refine blk_drewN ?_ _ | refine blk_drew ?_ | refine blk_alloc ?_ _)); exact BK237.out) k_ hk⟩))
                        (case aO => exact (by (with_reducible repeat (first | apply Kd.R_alloc | apply Kd.R_drewN | apply Kd.R_drew)); exact Kd.R_mono HO_238004.out (fun _ hk => ⟨hk.1.1.1, ⟨hk.1.1.2.1, ⟨hk.1.1.2.2.1, hk.1.1.2.2.2⟩⟩⟩)))
                        (case aS => exact (below_size (by repeat (first | (with_reducible first | exact HB.out | apply below_alloc | apply pw_below_drewN | apply below_drew1 | refine below_set ?_ GE233.out | refine below_set ?_ GE234.out | refine below_set ?_ GE237.out) | exact HB.out))))
                        (case aL => have := LMc30.out; omega)
                        intro v253 w33 ho hb hg hat
                        rw [← Ny252.out] at ho
                        have n0_ := Aside0.mk (Kd.R_over' (by (with_reducible repeat (first | apply Kd.R_alloc | apply Kd.R_drewN | apply Kd.R_drew)); exact HO_238003.out) (Kd.R_typed (by (with_reducible repeat (first | apply Kd.R_alloc | apply Kd.R_drewN | apply Kd.R_drew)); exact HO_238004.out)) (by decide) hg)
                        have n1_ := Aside0.mk (blk_grown (g := gb233) (o := .cells #[.int .i64 a0_0, .int .i64 a0_1, .int .i64 a0_2, .slice A0_3 l0_3.length c0_3, .slice (some ad242) l0_4.length c0_4] 37 (0, 0)) (by (with_reducible repeat (first | refine blk_drewN ?_ _ | refine blk_drew ?_ | refine blk_alloc ?_ _)); exact BK233.out) hg (Kd.R_away HO_238004.out (fun _ hk => hk.1.1.2.1)))
                        have n2_ := Aside0.mk (blk_grown (g := gb234) (o := .cells #[.int .i64 0, .int .i64 0, .int .i64 0, .slice none 0 0, .slice none 0 0] 37 (0, 0)) (by (with_reducible repeat (first | refine blk_drewN ?_ _ | refine blk_drew ?_ | refine blk_alloc ?_ _)); exact BK234.out) hg (Kd.R_away HO_238004.out (fun _ hk => hk.1.1.2.2.1)))
                        have n3_ := Aside0.mk (blk_grown (g := gb237) (o := .cells #[.int .i64 a0_0, .int .i64 a0_1, .int .i64 a0_2, u238003, u238004] 37 (0, 0)) (by (with_reducible repeat (first | refine blk_drewN ?_ _ | refine blk_drew ?_ | refine blk_alloc ?_ _)); exact BK237.out) hg (Kd.R_away HO_238004.out (fun _ hk => hk.1.1.2.2.2)))
                        have n4_ := Aside0.mk (hb)
                        have n5_ := Aside0.mk (ho)
                        clear HO_238003
                        clear BK233
                        clear BK234
                        clear BK237
                        clear HB
                        clear HO_238004
                        clear HO248
                        clear HO251
                        have HO_238003 := n0_
                        have BK233 := n1_
                        have BK234 := n2_
                        have BK237 := n3_
                        have HB := n4_
                        have HO254 := n5_
                        clear n0_ n1_ n2_ n3_ n4_ n5_
                        clear ho hb hg hat
                        obtain ⟨Ao36, co36, eo36⟩ := Kd.R_slice HO254.out
                        (first | subst eo36 | (injection eo36 with f1_ f2_ f3_; have f4_ := f1_.symm; have f5_ := f3_.symm; clear f1_ f2_ f3_; subst f4_; subst f5_))
                        refine hK.out _ _ ⟨(blk_cell BK237.out 0).trans rfl, (blk_cell BK237.out 1).trans rfl, (blk_cell BK237.out 2).trans rfl, (blk_cell BK237.out 3).trans rfl, (blk_cell BK237.out 4).trans rfl, (blk_cell BK233.out 0).trans rfl, (blk_cell BK233.out 1).trans rfl, (blk_cell BK233.out 2).trans rfl, (blk_cell BK233.out 3).trans rfl, (blk_cell BK233.out 4).trans rfl, ((HB.out.cell (World.block_lt_of_cell? w _ hw242_0)).trans hw242_0), ((HB.out.cell (World.block_lt_of_cell? w _ hw242_1)).trans hw242_1), ((HB.out.cell (World.block_lt_of_cell? w _ hw242_2)).trans hw242_2), ((HB.out.cell (World.block_lt_of_cell? w _ hw242_3)).trans hw242_3), ((HB.out.cell (World.block_lt_of_cell? w _ hw242_4)).trans hw242_4)⟩ (fun hHeld => ?_)
                        clear hK K
                        refine norm_ (a' := ?_) ?_ ?_
                        rotate_left
                        · show Act.put _ (some 62) _ = _
                          simp only [Act.put, List.setIfInBounds_toArray, List.set_cons_zero, List.set_cons_succ, i64_w, i32_w]
                          rfl
                        refine pure_ (i := 10) (N := some 63) (v := ?_) (a' := ?_) #[true, true, true, true, true, true, true, true, true, true, true, false] rfl rfl (any_of HT_.out (by kernel_rfl)) (fun _ _ _ h => h) (Or.inl ⟨by rfl, ?_⟩) ?_ ?_
                        rotate_left
                        · intro w'
                          go_simp
                          with_reducible rfl
                        rotate_left
                        · simp only [Act.put, List.setIfInBounds_toArray, List.set_cons_zero, List.set_cons_succ, i64_w, i32_w]
                          rfl
                        refine last_ (i := 11) (N := none) #[true, true, true, true, true, true, true, true, true, true, true, true] rfl rfl (one_of HT_.out (by kernel_rfl)) (by decide) (fun K hK => ?_)
                        have hs37 : w33.cell? ⟨gb237, 4, none⟩ = some (u238004) := (blk_cell BK237.out 4).trans rfl
                        have hfs37 := blk_frozen BK237.out 4
                        have hns37_0 := NB233_237.out
                        have hns37_1 := NB234_237.out
                        have hms37_0 := NB237_233.out
                        have hms37_1 := NB237_234.out
                        refine skip_ (w1 := ?_) (by rfl) rfl ?_ ?_
                        rotate_left
                        · go_simp
                          rfl
                        refine hK.out _ _ ?_
                        clear hK K
                        refine done_ (done_of HT_.out (by kernel_rfl)) ?_
                        try go_wp2
                        go_roundg k3
                        case measure => have := HJ1.out; have := HK2.out; have := HK3.out; omega
                        case rel => exact ⟨(wrap64 (x7_3 + 1)), (y252), (.slice Ao36 y252.length co36), (by first | rfl | (simp; done) | (simp [*]; done)), H', ⟨by have := HJ1.out; have := HK2.out; have := HK3.out; omega⟩, ⟨by (with_reducible repeat (first | apply Kd.R_alloc | apply Kd.R_drewN | apply Kd.R_drew)); exact Kd.R_mono (Kd.R_far (p := ⟨gb237, 4, none⟩) (Kd.R_types HO_238003.out BK237.out (by decide)) (fun _ hk => hk.2) (.slice Ao36 y252.length co36)) (fun _ hk => trivial)⟩, ⟨by (with_reducible repeat (first | apply Kd.R_alloc | apply Kd.R_drewN | apply Kd.R_drew)); exact Kd.R_mono (Kd.R_far (p := ⟨gb237, 4, none⟩) (Kd.R_mono HO254.out (fun k_ hk => (⟨hk, hk.2.2.2⟩ : _ ∧ k_ ≠ gb237))) (fun _ hk => hk.2) (.slice Ao36 y252.length co36)) (fun _ hk => ⟨hk.1.1, ⟨hk.1.2.1, ⟨hk.1.2.2.1, hk.1.2.2.2⟩⟩⟩)⟩, ⟨by (with_reducible repeat (first | refine blk_drewN ?_ _ | refine blk_drew ?_ | refine blk_alloc ?_ _)); refine blk_far ?_ NB233_237.out _; (with_reducible repeat (first | refine blk_drewN ?_ _ | refine blk_drew ?_ | refine blk_alloc ?_ _)); exact BK233.out⟩, ⟨by (with_reducible repeat (first | refine blk_drewN ?_ _ | refine blk_drew ?_ | refine blk_alloc ?_ _)); refine blk_far ?_ NB234_237.out _; (with_reducible repeat (first | refine blk_drewN ?_ _ | refine blk_drew ?_ | refine blk_alloc ?_ _)); exact BK234.out⟩, ⟨by (with_reducible repeat (first | refine blk_drewN ?_ _ | refine blk_drew ?_ | refine blk_alloc ?_ _)); refine blk_put (cs := #[.int .i64 a0_0, .int .i64 a0_1, .int .i64 a0_2, u238003, u238004]) ?_ 4 _ rfl; (with_reducible repeat (first | refine blk_drewN ?_ _ | refine blk_drew ?_ | refine blk_alloc ?_ _)); exact BK237.out⟩, ⟨by repeat (first | (with_reducible first | exact HB.out | apply below_alloc | apply pw_below_drewN | apply below_drew1 | refine below_set ?_ GE233.out | refine below_set ?_ GE234.out | refine below_set ?_ GE237.out) | exact HB.out)⟩⟩
                      · rw [if_neg c30] at H
                        exact absurd H (by simp)
                    · rw [if_neg c28] at H
                      exact absurd H (by simp)
                  · rw [if_neg c27] at H
                    exact absurd H (by simp)
                · rw [if_neg c26] at H
                  have c26b0 : decide (x7_3 < x4_1) = false := decide_eq_false c26
                  clear c26
                  simp only [Option.some.injEq, Prod.mk.injEq] at H
                  obtain ⟨rfl, rfl, rfl, rfl, rfl⟩ := H
                  have hnb38 := NB237_233.out
                  have hnc38 := NB233_237.out
                  have hnb39 := NB237_234.out
                  have hnc39 := NB234_237.out
                  have hcz40_0 : wr.cell? ⟨gb237, 0, none⟩ = some (.int .i64 a0_0) := (blk_cell BK237.out 0).trans rfl
                  have hcz40_1 : wr.cell? ⟨gb237, 1, none⟩ = some (.int .i64 a0_1) := (blk_cell BK237.out 1).trans rfl
                  have hcz40_2 : wr.cell? ⟨gb237, 2, none⟩ = some (.int .i64 a0_2) := (blk_cell BK237.out 2).trans rfl
                  have hcz40_3 : wr.cell? ⟨gb237, 3, none⟩ = some (u238003) := (blk_cell BK237.out 3).trans rfl
                  have hcz40_4 : wr.cell? ⟨gb237, 4, none⟩ = some (u238004) := (blk_cell BK237.out 4).trans rfl
                  have hfz40_0 := blk_frozen BK237.out 0
                  have hfz40_1 := blk_frozen BK237.out 1
                  have hfz40_2 := blk_frozen BK237.out 2
                  have hfz40_3 := blk_frozen BK237.out 3
                  have hfz40_4 := blk_frozen BK237.out 4
                  have hnb41 := NB234_233.out
                  have hnc41 := NB233_234.out
                  have hcz42_0 : wr.cell? ⟨gb234, 0, none⟩ = some (.int .i64 0) := (blk_cell BK234.out 0).trans rfl
                  have hcz42_1 : wr.cell? ⟨gb234, 1, none⟩ = some (.int .i64 0) := (blk_cell BK234.out 1).trans rfl
                  have hcz42_2 : wr.cell? ⟨gb234, 2, none⟩ = some (.int .i64 0) := (blk_cell BK234.out 2).trans rfl
                  have hcz42_3 : wr.cell? ⟨gb234, 3, none⟩ = some (.slice none 0 0) := (blk_cell BK234.out 3).trans rfl
                  have hcz42_4 : wr.cell? ⟨gb234, 4, none⟩ = some (.slice none 0 0) := (blk_cell BK234.out 4).trans rfl
                  have hfz42_0 := blk_frozen BK234.out 0
                  have hfz42_1 := blk_frozen BK234.out 1
                  have hfz42_2 := blk_frozen BK234.out 2
                  have hfz42_3 := blk_frozen BK234.out 3
                  have hfz42_4 := blk_frozen BK234.out 4
                  obtain ⟨Ao43, co43, eo43⟩ := Kd.R_slice HO_238003.out
                  subst eo43
                  obtain ⟨Ao44, co44, eo44⟩ := Kd.R_slice HO_238004.out
                  subst eo44
                  go_wp2
                  refine bodyPost_ret (results_cell_row rfl _ _ gb234 37 #[.int .i64 a0_0, .int .i64 a0_1, .int .i64 a0_2, .slice Ao43 x238003_2.length co43, .slice Ao44 x238004_3.length co44] (0, 0) _ rfl (by (with_reducible repeat (first | refine blk_drewN ?_ _ | refine blk_drew ?_ | refine blk_alloc ?_ _)); refine blk_put (cs := #[.int .i64 a0_0, .int .i64 a0_1, .int .i64 a0_2, .slice Ao43 x238003_2.length co43, .slice none 0 0]) ?_ 4 _ rfl; (with_reducible repeat (first | refine blk_drewN ?_ _ | refine blk_drew ?_ | refine blk_alloc ?_ _)); refine blk_put (cs := #[.int .i64 a0_0, .int .i64 a0_1, .int .i64 a0_2, .slice none 0 0, .slice none 0 0]) ?_ 3 _ rfl; (with_reducible repeat (first | refine blk_drewN ?_ _ | refine blk_drew ?_ | refine blk_alloc ?_ _)); refine blk_put (cs := #[.int .i64 a0_0, .int .i64 a0_1, .int .i64 0, .slice none 0 0, .slice none 0 0]) ?_ 2 _ rfl; (with_reducible repeat (first | refine blk_drewN ?_ _ | refine blk_drew ?_ | refine blk_alloc ?_ _)); refine blk_put (cs := #[.int .i64 a0_0, .int .i64 0, .int .i64 0, .slice none 0 0, .slice none 0 0]) ?_ 1 _ rfl; (with_reducible repeat (first | refine blk_drewN ?_ _ | refine blk_drew ?_ | refine blk_alloc ?_ _)); refine blk_put (cs := #[.int .i64 0, .int .i64 0, .int .i64 0, .slice none 0 0, .slice none 0 0]) ?_ 0 _ rfl; (with_reducible repeat (first | refine blk_drewN ?_ _ | refine blk_drew ?_ | refine blk_alloc ?_ _)); exact BK234.out) Tryd.underlying37 rfl (by kernel_rfl)) rfl ?_
                  exact ⟨_, _, by first | rfl | (simp [errW_none, errW_some] <;> rfl) | (simp [*, errW_none, errW_some] <;> rfl), by (with_reducible repeat (first | apply Kd.R_alloc | apply Kd.R_drewN | apply Kd.R_drew)); exact Kd.R_mono (Kd.R_far (p := ⟨gb234, 4, none⟩) (Kd.R_far (p := ⟨gb234, 3, none⟩) (Kd.R_far (p := ⟨gb234, 2, none⟩) (Kd.R_far (p := ⟨gb234, 1, none⟩) (Kd.R_far (p := ⟨gb234, 0, none⟩) (Kd.R_types HO_238003.out BK234.out (by decide)) (fun _ hk => hk.2) (.int .i64 a0_0)) (fun _ hk => hk.2) (.int .i64 a0_1)) (fun _ hk => hk.2) (.int .i64 a0_2)) (fun _ hk => hk.2) (.slice Ao43 x238003_2.length co43)) (fun _ hk => hk.2) (.slice Ao44 x238004_3.length co44)) (fun _ hk => trivial), by (with_reducible repeat (first | apply Kd.R_alloc | apply Kd.R_drewN | apply Kd.R_drew)); exact Kd.R_mono (Kd.R_far (p := ⟨gb234, 4, none⟩) (Kd.R_far (p := ⟨gb234, 3, none⟩) (Kd.R_far (p := ⟨gb234, 2, none⟩) (Kd.R_far (p := ⟨gb234, 1, none⟩) (Kd.R_far (p := ⟨gb234, 0, none⟩) (Kd.R_mono HO_238004.out (fun k_ hk => (⟨hk, hk.2.2.1⟩ : _ ∧ k_ ≠ gb234))) (fun _ hk => hk.2) (.int .i64 a0_0)) (fun _ hk => hk.2) (.int .i64 a0_1)) (fun _ hk => hk.2) (.int .i64 a0_2)) (fun _ hk => hk.2) (.slice Ao43 x238003_2.length co43)) (fun _ hk => hk.2) (.slice Ao44 x238004_3.length co44)) (fun _ hk => hk.1.1), by repeat (first | (with_reducible first | exact HB.out | apply below_alloc | apply pw_below_drewN | apply below_drew1 | refine below_set ?_ GE233.out | refine below_set ?_ GE234.out | refine below_set ?_ GE237.out) | exact HB.out)⟩
end Go.Proofs.YtidglmocekghmaaDoor.Pr
end
section
namespace Go.Proofs.YtidglmocekghmaaDoor.Pr
open Go.RowKit Go.Proofs.YtidglmocekghmaaDoorW.PrintWords Go.Proofs.YtidglmocekghmaaDoorW.PrintLast Go.Proofs.YtidglmocekghmaaDoorW.PrintMore
set_option linter.unusedVariables false
set_option linter.unusedSimpArgs false
def keptN {α : Type} (p : α → Bool) (l : List α) : Nat := (l.reverse.dropWhile p).length
theorem keptN_snoc {α : Type} (p : α → Bool) (l : List α) (x : α) : keptN p (l ++ [x]) = if p x then keptN p l else l.length + 1 := by
 unfold keptN
 rw [List.reverse_append]
 simp only [List.reverse_cons, List.reverse_nil, List.nil_append, List.singleton_append, List.dropWhile_cons]
 split <;> simp
theorem keptN_le {α : Type} (p : α → Bool) (l : List α) : keptN p l ≤ l.length := by
 unfold keptN
 have := (List.dropWhile_suffix (p := p) (l := l.reverse)).length_le
 simpa using this
def zeroB (x : Int) : Bool := x == 0
def nullN (x : S37) : Bool := x.f0 == 0
theorem w64 {x : Int} (h0 : -9223372036854775808 ≤ x) (h1 : x ≤ 9223372036854775807) : wrap64 x = x := IntWalk.wrap64_in _ ⟨h0, h1⟩
theorem rd_at (l : List Int) (j : Nat) (h : j < l.length) : rd l (j : Int) = l[j] := by
 unfold rd; simp [List.getD_eq_getElem?_getD, List.getElem?_eq_getElem h]
theorem rdT_at (l : List S37) (j : Nat) (h : j < l.length) : rd_T37 l (j : Int) = l[j] := by
 unfold rd_T37; simp [List.getD_eq_getElem?_getD, List.getElem?_eq_getElem h]
theorem S37.ind {P : S37 → Prop} (h : ∀ a : S37, (∀ x ∈ a.f4, P x) → P a) (a : S37) : P a :=
  S37.rec (motive_1 := P) (motive_2 := fun l => ∀ x ∈ l, P x) (fun k e n d l ih => h ⟨k, e, n, d, l⟩ ih) (fun _ hx => by cases hx) (fun y l hy hl x hx => by
    rcases List.mem_cons.1 hx with rfl | hx
    · exact hy
    · exact hl x hx) a
theorem take_one {α : Type} (l : List α) (j : Nat) (h : j < l.length) : l.take (j + 1) = l.take j ++ [l[j]] := List.take_succ_eq_append_getElem h
inductive AllT (p : S37 → Prop) : S37 → Prop
 | mk {a : S37} (h : p a) (hk : ∀ x ∈ a.f4, AllT p x) : AllT p a
theorem AllT.here {p : S37 → Prop} {a : S37} (h : AllT p a) : p a := by cases h; assumption
theorem AllT.kids {p : S37 → Prop} {a : S37} (h : AllT p a) : ∀ x ∈ a.f4, AllT p x := by cases h; assumption
mutual
def tsize : S37 → Nat
 | ⟨_, _, _, d, l⟩ => 1 + d.length + tsizes l
def tsizes : List S37 → Nat
 | [] => 0
 | k :: l => tsize k + tsizes l
end
theorem tsize_eq (a : S37) : tsize a = 1 + a.f3.length + tsizes a.f4 := by cases a; rfl
theorem length_tsizes : ∀ l : List S37, l.length ≤ tsizes l
 | [] => by simp
 | k :: l => by
  have := length_tsizes l
  have := tsize_eq k
  simp [tsizes]; omega
theorem tsize_mem {l : List S37} {x : S37} (h : x ∈ l) : tsize x ≤ tsizes l := by
 induction l with
 | nil => cases h
 | cons k l ih =>
  simp only [tsizes]
  rcases List.mem_cons.1 h with rfl | h
  ·omega
  ·have := ih h; omega
theorem tsize_kid {a x : S37} (h : x ∈ a.f4) : tsize x < tsize a := by
 have := tsize_mem h
 have := tsize_eq a
 omega
theorem keptN_parts {α : Type} (p : α → Bool) (l : List α) : ∃ m, l = l.take (keptN p l) ++ m ∧ (∀ x ∈ m, p x = true) ∧ (l.take (keptN p l)).length = keptN p l := by
 have h := List.takeWhile_append_dropWhile (p := p) (l := l.reverse)
 have h2 : l = (l.reverse.dropWhile p).reverse ++ (l.reverse.takeWhile p).reverse := by
  rw [← List.reverse_append, h, List.reverse_reverse]
 have hl : (l.reverse.dropWhile p).reverse.length = keptN p l := by rw [List.length_reverse]; rfl
 have ht : l.take (keptN p l) = (l.reverse.dropWhile p).reverse := by
  have key : ∀ A B : List α, (A ++ B).take A.length = A := fun A B => by simp
  rw [← hl]
  exact (congrArg (List.take (l.reverse.dropWhile p).reverse.length) h2).trans (key _ _)
 refine ⟨(l.reverse.takeWhile p).reverse, by rw [ht]; exact h2, fun x hx => ?_, by rw [ht, hl]⟩
 have := List.mem_reverse.1 hx
 exact List.all_eq_true.1 List.all_takeWhile x this
theorem keptN_all {α : Type} (p : α → Bool) (l m : List α) (h : ∀ x ∈ m, p x = true) : keptN p (l ++ m) = keptN p l := by
 unfold keptN
 rw [List.reverse_append, List.dropWhile_append_of_pos (fun x hx => h x (List.mem_reverse.1 hx))]
theorem keptN_cut {α : Type} (p : α → Bool) (l : List α) (m : Nat) (h : keptN p l ≤ m) : keptN p (l.take m) = keptN p l := by
 obtain ⟨r, hr, hp, hlen⟩ := keptN_parts p l
 have hd : ∀ x ∈ l.drop m, p x = true := fun x hx => by
  rw [hr, List.drop_append, List.drop_eq_nil_of_le (by omega), List.nil_append] at hx
  exact hp x (List.mem_of_mem_drop hx)
 conv => rhs; rw [← List.take_append_drop m l]
 rw [keptN_all p _ _ hd]
theorem keptN_map {α β : Type} (p : β → Bool) (q : α → Bool) (f : α → β) (l : List α) (h : ∀ x ∈ l, p (f x) = q x) : keptN p (l.map f) = keptN q l := by
 obtain ⟨n, hn⟩ : ∃ n, l.length = n := ⟨_, rfl⟩
 induction n generalizing l with
 | zero => obtain rfl := List.eq_nil_of_length_eq_zero hn; rfl
 | succ n ih =>
  have hl : l = l.take n ++ [l[n]'(by omega)] := by rw [← take_one l n (by omega), List.take_of_length_le (by omega)]
  rw [hl, List.map_append]
  simp only [List.map_cons, List.map_nil]
  rw [keptN_snoc, keptN_snoc, h _ (List.getElem_mem (by omega)), ih (l.take n) (fun x hx => h x (List.mem_of_mem_take hx)) (by simp; omega)]
  simp
theorem keptN_last {α : Type} (p : α → Bool) (l : List α) (x : α) (h : p x = false) : keptN p (l ++ [x]) = l.length + 1 := by rw [keptN_snoc, if_neg (by simp [h])]
def twords (d : List Int) : Nat := (keptN zeroB d + 7) / 8
def cutD (a : S37) : List Int := if a.f0 = 1 then a.f3.take (8 * twords a.f3) else a.f3
def cutK (a : S37) : List S37 := if a.f0 = 1 then a.f4.take (keptN nullN a.f4) else a.f4
mutual
def ttrim : S37 → S37
 | ⟨k, e, n, d, l⟩ => ⟨k, e, n, if k = 1 then d.take (8 * twords d) else d, if k = 1 then (ttrims l).take (keptN nullN l) else ttrims l⟩
def ttrims : List S37 → List S37
 | [] => []
 | x :: l => ttrim x :: ttrims l
end
theorem ttrims_eq : ∀ l : List S37, ttrims l = l.map ttrim
 | [] => rfl
 | x :: l => by simp [ttrims, ttrims_eq l]
theorem ttrim_eq (a : S37) : ttrim a = ⟨a.f0, a.f1, a.f2, cutD a, (cutK a).map ttrim⟩ := by
 cases a with
 | mk k e n d l =>
  simp only [ttrim, cutD, cutK, ttrims_eq]
  split <;> simp [List.map_take]
theorem ttrim_f0 (a : S37) : (ttrim a).f0 = a.f0 := by rw [ttrim_eq]
def wordsT : S37 → Prop := AllT fun a => a.f0 = 1 → a.f3.length % 8 = 0
theorem twords_le (d : List Int) (h : d.length % 8 = 0) : 8 * twords d ≤ d.length := by
 have := keptN_le zeroB d
 unfold twords; omega
theorem twords_ge (d : List Int) : keptN zeroB d ≤ 8 * twords d := by unfold twords; omega
theorem twords_cut (d : List Int) : twords (d.take (8 * twords d)) = twords d := by
 show (keptN zeroB (d.take (8 * twords d)) + 7) / 8 = (keptN zeroB d + 7) / 8
 rw [keptN_cut zeroB d _ (twords_ge d)]
theorem rwords_ev (d : List Int) (h : d.length ≤ 1000000000000) : Ev (fun k => capnpref11_Words.f k d) (twords d : Int) := by
 unfold capnpref11_Words.f
 have loop : ∀ n j : Nat, d.length - j = n → j ≤ d.length → Ev (fun k => capnpref11_Words.l0 k d (twords (d.take j) : Int) (j : Int)) (twords d : Int) := by
  intro n
  induction n with
  | zero =>
   intro j hd hj
   refine Ev.step (f := fun _ => some (twords d : Int)) (fun k => ?_) (Ev.now _)
   simp only [capnpref11_Words.l0]
   rw [if_neg (by omega), List.take_of_length_le (by omega)]
  | succ n ih =>
   intro j hd hj
   have hlt : j < d.length := by omega
   have hn := ih (j + 1) (by omega) (by omega)
   have e2 : ((j + 1 : Nat) : Int) = (j : Int) + 1 := by omega
   rw [e2] at hn
   have hk := keptN_snoc zeroB (d.take j) d[j]
   rw [← take_one d j hlt] at hk
   have hjl : (d.take j).length = j := by simp; omega
   by_cases h0 : d[j] = 0
   ·rw [if_pos (by simp [zeroB, h0])] at hk
    have : twords (d.take (j + 1)) = twords (d.take j) := by unfold twords; rw [hk]
    rw [this] at hn
    refine Ev.step (f := fun k => capnpref11_Words.l0 k d (twords (d.take j) : Int) (wrap64 ((j : Int) + 1))) (fun k => ?_) (by rw [w64 (by omega) (by omega)]; exact hn)
    simp only [capnpref11_Words.l0]
    rw [if_pos (by omega), if_pos (by omega), rd_at _ _ hlt, if_pos h0]
   ·rw [if_neg (by simp [zeroB, h0]), hjl] at hk
    have : (twords (d.take (j + 1)) : Int) = (j : Int) / 8 + 1 := by unfold twords; rw [hk]; omega
    rw [this] at hn
    refine Ev.step (f := fun k => capnpref11_Words.l0 k d (wrap64 (wrap64 (Int.tdiv (j : Int) 8) + 1)) (wrap64 ((j : Int) + 1))) (fun k => ?_) ?_
    ·simp only [capnpref11_Words.l0]
     rw [if_pos (by omega), if_pos (by omega), rd_at _ _ hlt, if_neg h0]
    ·rw [Int.tdiv_eq_ediv_of_nonneg (by omega), w64 (x := (j : Int) / 8) (by omega) (by omega), w64 (x := (j : Int) / 8 + 1) (by omega) (by omega), w64 (x := (j : Int) + 1) (by omega) (by omega)]
     exact hn
 have h0 := loop d.length 0 (by omega) (by omega)
 rw [show (twords (d.take 0) : Int) = 0 by rw [List.take_zero]; rfl] at h0
 exact h0
theorem rptrs_ev (l : List S37) (h : l.length ≤ 1000000000000) : Ev (fun k => capnpref11_Pointers.f k l) (keptN nullN l : Int) := by
 unfold capnpref11_Pointers.f
 have loop : ∀ n j : Nat, l.length - j = n → j ≤ l.length → Ev (fun k => capnpref11_Pointers.l0 k l (keptN nullN (l.take j) : Int) (j : Int)) (keptN nullN l : Int) := by
  intro n
  induction n with
  | zero =>
   intro j hd hj
   refine Ev.step (f := fun _ => some (keptN nullN l : Int)) (fun k => ?_) (Ev.now _)
   simp only [capnpref11_Pointers.l0]
   rw [if_neg (by omega), List.take_of_length_le (by omega)]
  | succ n ih =>
   intro j hd hj
   have hlt : j < l.length := by omega
   have hn := ih (j + 1) (by omega) (by omega)
   have e2 : ((j + 1 : Nat) : Int) = (j : Int) + 1 := by omega
   have hk := keptN_snoc nullN (l.take j) l[j]
   rw [← take_one l j hlt] at hk
   have hjl : (l.take j).length = j := by simp; omega
   by_cases h0 : l[j].f0 = 0
   ·rw [if_pos (by simp [nullN, h0])] at hk
    rw [hk, e2] at hn
    refine Ev.step (f := fun k => capnpref11_Pointers.l0 k l (keptN nullN (l.take j) : Int) (wrap64 ((j : Int) + 1))) (fun k => ?_) (by rw [w64 (by omega) (by omega)]; exact hn)
    simp only [capnpref11_Pointers.l0]
    rw [if_pos (by omega), if_pos (by omega), rdT_at _ _ hlt, if_pos h0]
   ·rw [if_neg (by simp [nullN, h0]), hjl] at hk
    rw [hk, e2] at hn
    refine Ev.step (f := fun k => capnpref11_Pointers.l0 k l (wrap64 ((j : Int) + 1)) (wrap64 ((j : Int) + 1))) (fun k => ?_) (by rw [w64 (by omega) (by omega)]; exact hn)
    simp only [capnpref11_Pointers.l0]
    rw [if_pos (by omega), if_pos (by omega), rdT_at _ _ hlt, if_neg h0]
 have h0 := loop l.length 0 (by omega) (by omega)
 rw [show (keptN nullN (l.take 0) : Int) = 0 by rw [List.take_zero]; rfl] at h0
 exact h0
def cellsT (a : S37) : Int × Int × Int × List Int × (List S37) := (a.f0, a.f1, a.f2, a.f3, a.f4)
theorem mkT (a : S37) : (⟨(cellsT a).1, (cellsT a).2.1, (cellsT a).2.2.1, (cellsT a).2.2.2.1, (cellsT a).2.2.2.2⟩ : S37) = a := by cases a; rfl
theorem take_map {α β : Type} (f : α → β) (l : List α) (j : Nat) (h : j < l.length) : (l.take j).map f ++ [f l[j]] = (l.take (j + 1)).map f := by
 rw [take_one l j h, List.map_append]; rfl
theorem rtrim_ev (a : S37) : wordsT a → tsize a ≤ 1000000000000 → Ev (fun k => capnpref11_Trim.f k a.f0 a.f1 a.f2 a.f3 a.f4) (cellsT (ttrim a)) := by
 refine S37.ind (P := fun a => wordsT a → tsize a ≤ 1000000000000 → Ev (fun k => capnpref11_Trim.f k a.f0 a.f1 a.f2 a.f3 a.f4) (cellsT (ttrim a))) (fun a ih hw hs => ?_) a
 have he := tsize_eq a
 have hl := length_tsizes a.f4
 have hm : ∀ x ∈ a.f4, Ev (fun k => capnpref11_Trim.f k x.f0 x.f1 x.f2 x.f3 x.f4) (cellsT (ttrim x)) := fun x hx => ih x hx (AllT.kids hw x hx) (by have := tsize_kid hx; omega)
 have hc : cellsT (ttrim a) = (a.f0, a.f1, a.f2, cutD a, (cutK a).map ttrim) := by unfold cellsT; rw [ttrim_eq]
 have body : ∀ D K : Nat, D ≤ a.f3.length → K ≤ a.f4.length → Ev (fun k => capnpref11_Trim.j0 k (D : Int) (K : Int) a.f0 a.f1 a.f2 a.f3 a.f4) (a.f0, a.f1, a.f2, a.f3.take D, (a.f4.take K).map ttrim) := by
  intro D K hD hK
  have kids : ∀ d j : Nat, K - j = d → j ≤ K → Ev (fun k => capnpref11_Trim.l1 k (K : Int) (j : Int) a.f0 a.f1 a.f2 a.f3 a.f4 a.f0 a.f1 a.f2 (a.f3.take D) ((a.f4.take j).map ttrim)) (a.f0, a.f1, a.f2, a.f3.take D, (a.f4.take K).map ttrim) := by
   intro d
   induction d with
   | zero =>
    intro j hd hj
    obtain rfl : j = K := by omega
    refine Ev.step (f := fun _ => some (a.f0, a.f1, a.f2, a.f3.take D, (a.f4.take j).map ttrim)) (fun k => ?_) (Ev.now _)
    simp only [capnpref11_Trim.l1]
    rw [if_neg (by omega)]
   | succ d ihd =>
    intro j hd hj
    have hlt : j < a.f4.length := by omega
    have hn := ihd (j + 1) (by omega) (by omega)
    rw [← take_map _ _ _ hlt, show ((j + 1 : Nat) : Int) = (j : Int) + 1 by omega] at hn
    refine Ev.step (f := fun k => (capnpref11_Trim.f k a.f4[j].f0 a.f4[j].f1 a.f4[j].f2 a.f4[j].f3 a.f4[j].f4).bind fun bt => if ((a.f4.take j).map ttrim).length < 1954687338268 then capnpref11_Trim.l1 k (K : Int) (wrap64 ((j : Int) + 1)) a.f0 a.f1 a.f2 a.f3 a.f4 a.f0 a.f1 a.f2 (a.f3.take D) ((a.f4.take j).map ttrim ++ [(⟨bt.1, bt.2.1, bt.2.2.1, bt.2.2.2.1, bt.2.2.2.2⟩ : S37)]) else none) (fun k => ?_) ?_
    ·simp only [capnpref11_Trim.l1]
     rw [if_pos (by omega), if_pos (by omega), if_pos (by omega), rdT_at _ _ hlt]
    ·refine Ev.bind (hm _ (List.getElem_mem hlt)) ?_
     rw [w64 (by omega) (by omega)]
     exact Ev.congr (fun k => by rw [if_pos (by simp; omega), mkT]) hn
  have data : ∀ d j : Nat, D - j = d → j ≤ D → Ev (fun k => capnpref11_Trim.l0 k (D : Int) (K : Int) (j : Int) a.f0 a.f1 a.f2 a.f3 a.f4 a.f0 a.f1 a.f2 (a.f3.take j)) (a.f0, a.f1, a.f2, a.f3.take D, (a.f4.take K).map ttrim) := by
   intro d
   induction d with
   | zero =>
    intro j hd hj
    obtain rfl : j = D := by omega
    refine Ev.step (f := fun k => capnpref11_Trim.l1 k (K : Int) 0 a.f0 a.f1 a.f2 a.f3 a.f4 a.f0 a.f1 a.f2 (a.f3.take j) []) (fun k => ?_) (kids K 0 (by omega) (by omega))
    simp only [capnpref11_Trim.l0]
    rw [if_neg (by omega)]
   | succ d ihd =>
    intro j hd hj
    have hlt : j < a.f3.length := by omega
    have hn := ihd (j + 1) (by omega) (by omega)
    rw [take_one _ _ hlt] at hn
    refine Ev.step (f := fun k => capnpref11_Trim.l0 k (D : Int) (K : Int) (wrap64 ((j : Int) + 1)) a.f0 a.f1 a.f2 a.f3 a.f4 a.f0 a.f1 a.f2 (a.f3.take j ++ [a.f3[j]])) (fun k => ?_) (by rw [w64 (by omega) (by omega)]; exact hn)
    simp only [capnpref11_Trim.l0]
    rw [if_pos (by omega), if_pos (by omega), if_pos (by omega), if_pos (by simp; omega), rd_at _ _ hlt]
  refine Ev.step (f := fun k => capnpref11_Trim.l0 k (D : Int) (K : Int) 0 a.f0 a.f1 a.f2 a.f3 a.f4 a.f0 a.f1 a.f2 []) (fun k => by simp only [capnpref11_Trim.j0]) (data D 0 (by omega) (by omega))
 rw [hc]
 by_cases h0 : a.f0 = 1
 ·have hlen := AllT.here hw h0
  have hwl := twords_le a.f3 hlen
  have hkl := keptN_le nullN a.f4
  refine Ev.step (f := fun k => (capnpref11_Words.f k a.f3).bind fun t => (capnpref11_Pointers.f k a.f4).bind fun u => capnpref11_Trim.j0 k (wrap64 (8 * t)) u a.f0 a.f1 a.f2 a.f3 a.f4) (fun k => by simp only [capnpref11_Trim.f]; rw [if_pos h0]) ?_
  refine Ev.bind (rwords_ev _ (by omega)) (Ev.bind (rptrs_ev _ (by omega)) ?_)
  rw [w64 (by omega) (by omega)]
  have := body (8 * twords a.f3) (keptN nullN a.f4) hwl hkl
  have e1 : ((8 * twords a.f3 : Nat) : Int) = 8 * (twords a.f3 : Int) := by omega
  rw [e1] at this
  unfold cutD cutK
  rw [if_pos h0, if_pos h0]
  exact this
 ·refine Ev.step (f := fun k => capnpref11_Trim.j0 k (a.f3.length : Int) (a.f4.length : Int) a.f0 a.f1 a.f2 a.f3 a.f4) (fun k => by simp only [capnpref11_Trim.f]; rw [if_neg h0]) ?_
  have := body a.f3.length a.f4.length (Nat.le_refl _) (Nat.le_refl _)
  unfold cutD cutK
  rw [if_neg h0, if_neg h0]
  rwa [List.take_length, List.take_length] at this
theorem trim_any (a : S37) (hw : wordsT a) (hs : tsize a ≤ 1000000000000) (w : World) {A3 A4 : Option Addr} {c3 c4 : Nat} (h : k37.K w a [.int .i64 a.f0, .int .i64 a.f1, .int .i64 a.f2, .slice A3 a.f3.length c3, .slice A4 a.f4.length c4]) :
  Calls Tryd.prog 29 #[.agg #[.int .i64 a.f0, .int .i64 a.f1, .int .i64 a.f2, .slice A3 a.f3.length c3, .slice A4 a.f4.length c4]] w fun r w' => ∃ v3 v4, r = .returned (.agg #[.int .i64 (ttrim a).f0, .int .i64 (ttrim a).f1, .int .i64 (ttrim a).f2, v3, v4]) ∧ k37.M w' w.heap.size (fun _ => True) (ttrim a) [.int .i64 (ttrim a).f0, .int .i64 (ttrim a).f1, .int .i64 (ttrim a).f2, v3, v4] ∧ Below w.heap.size w w' := by
 obtain ⟨k, hk⟩ := (rtrim_ev a hw hs).rounds
 obtain ⟨B3, d3, B4, d4, e, l3, g3, l4, g4⟩ := k37_open h
 simp only [List.cons.injEq, Value.slice.injEq, true_and, and_true] at e
 obtain ⟨⟨rfl, rfl⟩, rfl, rfl⟩ := e
 refine (capnpref11_Trim.calls k a.f0 a.f1 a.f2 A3 c3 a.f3 A4 c4 a.f4 _ _ _ _ _ w g3 l3 g4 l4 hk).mono ?_
 rintro r w' ⟨v3, v4, rfl, h3, h4, hb⟩
 exact ⟨v3, v4, rfl, k37_mkM w' _ _ (ttrim a) h3 (Kd.R_mono h4 (fun _ _ => trivial)), hb⟩
end Go.Proofs.YtidglmocekghmaaDoor.Pr
end
section
namespace Go.Proofs.YtidglmocekghmaaDoor.Pr
def wordB (b : List Int) : Int := b.getD 0 0 + 256 * b.getD 1 0 + 65536 * b.getD 2 0 + 16777216 * b.getD 3 0 + 4294967296 * b.getD 4 0 + 1099511627776 * b.getD 5 0 + 281474976710656 * b.getD 6 0 + 72057594037927936 * b.getD 7 0
def wordsB : Nat → List Int → List Int
 | 0, _ => []
 | n + 1, b => wordB (b.take 8) :: wordsB n (b.drop 8)
def encS (off d p : Int) : Int := off % 1073741824 * 4 + d * 4294967296 + p * 281474976710656
def encL (off e c : Int) : Int := 1 + off % 1073741824 * 4 + e * 4294967296 + c * 34359738368
def maxD : List S37 → Nat
 | [] => 0
 | x :: l => max (x.f3.length / 8) (maxD l)
def maxP : List S37 → Nat
 | [] => 0
 | x :: l => max x.f4.length (maxP l)
def seg (s : List Int) (i n : Nat) : List Int := (s.drop i).take n
mutual
def lay (s : List Int) : S37 → Nat → Nat → Nat → Prop
 | ⟨k, e, n, b, l⟩, a, nx, r =>
  if k = 0 then wd s a = 0 ∧ r = nx
  else if k = 1 then
   if b.length / 8 + l.length = 0 then wd s a = encS (-1) 0 0 ∧ r = nx
   else wd s a = encS ((nx : Int) - a - 1) (b.length / 8 : Nat) l.length ∧ nx + (b.length / 8 + l.length) ≤ s.length ∧ seg s nx (b.length / 8) = wordsB (b.length / 8) b ∧ lays s l (nx + b.length / 8) (nx + (b.length / 8 + l.length)) r
  else if e = 7 then wd s a = encL ((nx : Int) - a - 1) 7 (l.length * (maxD l + maxP l) : Nat) ∧ nx + 1 + l.length * (maxD l + maxP l) ≤ s.length ∧ wd s nx = encS l.length (maxD l) (maxP l) ∧ layE s (maxD l) (maxP l) l (nx + 1) (nx + 1 + l.length * (maxD l + maxP l)) r
  else if e = 6 then wd s a = encL ((nx : Int) - a - 1) 6 l.length ∧ nx + l.length ≤ s.length ∧ lays s l nx (nx + l.length) r
  else wd s a = encL ((nx : Int) - a - 1) e n ∧ nx + (wordsE e n).toNat ≤ s.length ∧ seg s nx (wordsE e n).toNat = wordsB (wordsE e n).toNat b ∧ r = nx + (wordsE e n).toNat
def lays (s : List Int) : List S37 → Nat → Nat → Nat → Prop
 | [], _, nx, r => r = nx
 | x :: l, a, nx, r => ∃ q, lay s x a nx q ∧ lays s l (a + 1) q r
def layE (s : List Int) (A B : Nat) : List S37 → Nat → Nat → Nat → Prop
 | [], _, nx, r => r = nx
 | ⟨_, _, _, b, l⟩ :: m, at_, nx, r => seg s at_ A = wordsB A b ∧ (∀ j, l.length ≤ j → j < B → wd s (at_ + A + j) = 0) ∧ ∃ q, lays s l (at_ + A) nx q ∧ layE s A B m (at_ + (A + B)) q r
end
theorem seg_wd {s s' : List Int} {i n : Nat} (h : seg s i n = seg s' i n) (j : Nat) (hj : j < n) : wd s (i + j) = wd s' (i + j) := by
 unfold seg at h
 unfold wd
 have h1 := congrArg (fun l : List Int => l[j]?) h
 simp only [List.getElem?_take_of_lt hj, List.getElem?_drop] at h1
 rw [List.getD_eq_getElem?_getD, List.getD_eq_getElem?_getD, h1]
def Eqw (s s' : List Int) (i j : Nat) : Prop := ∀ q, i ≤ q → q < j → wd s q = wd s' q
theorem Eqw.join {s s' : List Int} {i j k : Nat} (h1 : Eqw s s' i j) (h2 : Eqw s s' j k) : Eqw s s' i k := fun q h3 h4 => by
 by_cases h : q < j
 ·exact h1 q h3 h
 ·exact h2 q (by omega) h4
theorem Eqw.seg {s s' : List Int} {i n : Nat} {l : List Int} (h : Pr.seg s i n = l) (h' : Pr.seg s' i n = l) : Eqw s s' i (i + n) := fun q h1 h2 => by
 have := seg_wd (h.trans h'.symm) (q - i) (by omega)
 rwa [show i + (q - i) = q by omega] at this
theorem maxP_le {l : List S37} {x : S37} (hx : x ∈ l) : x.f4.length ≤ maxP l := by
 induction l with
 | nil => cases hx
 | cons y l ih =>
  unfold maxP
  rcases List.mem_cons.1 hx with rfl | hx
  ·omega
  ·have := ih hx; omega
mutual
theorem lay_one {s s' : List Int} : ∀ (n : S37) (a nx r r' : Nat), lay s n a nx r → lay s' n a nx r' → r = r' ∧ nx ≤ r ∧ wd s a = wd s' a ∧ Eqw s s' nx r
 | ⟨k, e, n, b, l⟩, a, nx, r, r', h, h' => by
  unfold lay at h h'
  by_cases hk0 : k = 0
  ·rw [if_pos hk0] at h h'
   exact ⟨by omega, by omega, by omega, fun q _ _ => by omega⟩
  rw [if_neg hk0] at h h'
  by_cases hk1 : k = 1
  ·rw [if_pos hk1] at h h'
   by_cases hz : b.length / 8 + l.length = 0
   ·rw [if_pos hz] at h h'
    exact ⟨by omega, by omega, by omega, fun q _ _ => by omega⟩
   rw [if_neg hz] at h h'
   obtain ⟨h1, h2, h3, h4⟩ := h
   obtain ⟨h1', h2', h3', h4'⟩ := h'
   obtain ⟨i1, i2, i3, i4⟩ := lays_one l _ _ r r' h4 h4'
   refine ⟨i1, by omega, by omega, (Eqw.seg h3 h3').join (Eqw.join (j := nx + (b.length / 8 + l.length)) ?_ i4)⟩
   rw [show nx + (b.length / 8 + l.length) = nx + b.length / 8 + l.length by omega]
   exact i3
  rw [if_neg hk1] at h h'
  by_cases he7 : e = 7
  ·rw [if_pos he7] at h h'
   obtain ⟨h1, h2, h3, h4⟩ := h
   obtain ⟨h1', h2', h3', h4'⟩ := h'
   obtain ⟨i1, i2, i3, i4⟩ := layE_one (maxD l) (maxP l) l (fun x hx => maxP_le hx) _ _ r r' h4 h4'
   refine ⟨i1, by omega, by omega, Eqw.join (j := nx + 1) (fun q hq1 hq2 => ?_) (Eqw.join i3 i4)⟩
   obtain rfl : q = nx := by omega
   omega
  rw [if_neg he7] at h h'
  by_cases he6 : e = 6
  ·rw [if_pos he6] at h h'
   obtain ⟨h1, h2, h3⟩ := h
   obtain ⟨h1', h2', h3'⟩ := h'
   obtain ⟨i1, i2, i3, i4⟩ := lays_one l _ _ r r' h3 h3'
   exact ⟨i1, by omega, by omega, Eqw.join i3 i4⟩
  rw [if_neg he6] at h h'
  obtain ⟨h1, h2, h3, h4⟩ := h
  obtain ⟨h1', h2', h3', h4'⟩ := h'
  refine ⟨by omega, by omega, by omega, ?_⟩
  rw [h4]
  exact Eqw.seg h3 h3'
theorem lays_one {s s' : List Int} : ∀ (l : List S37) (a nx r r' : Nat), lays s l a nx r → lays s' l a nx r' → r = r' ∧ nx ≤ r ∧ Eqw s s' a (a + l.length) ∧ Eqw s s' nx r
 | [], a, nx, r, r', h, h' => by
  unfold lays at h h'
  exact ⟨by omega, by omega, fun q h1 h2 => by simp at h2; omega, fun q _ _ => by omega⟩
 | x :: l, a, nx, r, r', h, h' => by
  unfold lays at h h'
  obtain ⟨q, h1, h2⟩ := h
  obtain ⟨q', h1', h2'⟩ := h'
  obtain ⟨i1, i2, i3, i4⟩ := lay_one x a nx q q' h1 h1'
  subst i1
  obtain ⟨j1, j2, j3, j4⟩ := lays_one l (a + 1) q r r' h2 h2'
  refine ⟨j1, by omega, Eqw.join (j := a + 1) (fun p hp1 hp2 => ?_) (by rw [List.length_cons, show a + (l.length + 1) = a + 1 + l.length by omega]; exact j3), i4.join j4⟩
  obtain rfl : p = a := by omega
  exact i3
theorem layE_one {s s' : List Int} (A B : Nat) : ∀ (m : List S37) (hB : ∀ x ∈ m, x.f4.length ≤ B) (at_ nx r r' : Nat), layE s A B m at_ nx r → layE s' A B m at_ nx r' → r = r' ∧ nx ≤ r ∧ Eqw s s' at_ (at_ + m.length * (A + B)) ∧ Eqw s s' nx r
 | [], _, at_, nx, r, r', h, h' => by
  unfold layE at h h'
  exact ⟨by omega, by omega, fun q h1 h2 => by simp at h2; omega, fun q _ _ => by omega⟩
 | ⟨k, e, n, b, l⟩ :: m, hB, at_, nx, r, r', h, h' => by
  unfold layE at h h'
  obtain ⟨h1, h2, q, h3, h4⟩ := h
  obtain ⟨h1', h2', q', h3', h4'⟩ := h'
  obtain ⟨i1, i2, i3, i4⟩ := lays_one l (at_ + A) nx q q' h3 h3'
  subst i1
  obtain ⟨j1, j2, j3, j4⟩ := layE_one A B m (fun x hx => hB x (List.mem_cons_of_mem _ hx)) (at_ + (A + B)) q r r' h4 h4'
  have hl := hB _ List.mem_cons_self
  dsimp only at hl
  refine ⟨j1, by omega, ?_, i4.join j4⟩
  have hz : Eqw s s' (at_ + A + l.length) (at_ + (A + B)) := fun p hp1 hp2 => by
   have z1 := h2 (p - (at_ + A)) (by omega) (by omega)
   have z2 := h2' (p - (at_ + A)) (by omega) (by omega)
   rw [show at_ + A + (p - (at_ + A)) = p by omega] at z1 z2
   omega
  rw [List.length_cons, Nat.add_mul, Nat.one_mul, show at_ + (m.length * (A + B) + (A + B)) = at_ + (A + B) + m.length * (A + B) by omega]
  exact ((Eqw.seg h1 h1').join (i3.join hz)).join j3
end
theorem lay_same {s s' : List Int} {n : S37} (h : lay s n 0 1 s.length) (h' : lay s' n 0 1 s'.length) (h0 : 0 < s.length) (h0' : 0 < s'.length) : s = s' := by
 obtain ⟨h1, h2, h3, h4⟩ := lay_one n 0 1 _ _ h h'
 refine List.ext_getElem h1 (fun i hi hi' => ?_)
 have : wd s i = wd s' i := by
  by_cases hz : i = 0
  ·subst hz; exact h3
  ·exact h4 i (by omega) hi
 unfold wd at this
 rw [List.getD_eq_getElem?_getD, List.getD_eq_getElem?_getD, List.getElem?_eq_getElem hi, List.getElem?_eq_getElem hi'] at this
 simpa using this
end Go.Proofs.YtidglmocekghmaaDoor.Pr
end
section
namespace Go.Proofs.YtidglmocekghmaaDoor.Pr
theorem encS_of {w : Int} (h0 : 0 ≤ w) (h1 : w < 18446744073709551616) (hk : kindW w = 0) : w = encS (offW w) (dataW w) (ptrsW w) := by
 unfold encS offW dataW ptrsW
 unfold kindW at hk
 split <;> omega
theorem encL_of {w : Int} (h0 : 0 ≤ w) (h1 : w < 18446744073709551616) (hk : kindW w = 1) : w = encL (offW w) (elemW w) (cntW w) := by
 unfold encL offW elemW cntW
 unfold kindW at hk
 split <;> omega
theorem encS_dec {off d p : Int} (o0 : -536870912 ≤ off) (o1 : off ≤ 536870911) (d0 : 0 ≤ d) (d1 : d ≤ 65535) (p0 : 0 ≤ p) (p1 : p ≤ 65535) : kindW (encS off d p) = 0 ∧ offW (encS off d p) = off ∧ dataW (encS off d p) = d ∧ ptrsW (encS off d p) = p := by
 unfold encS kindW offW dataW ptrsW
 refine ⟨by omega, ?_, by omega, by omega⟩
 split <;> omega
theorem encL_dec {off e c : Int} (o0 : -536870912 ≤ off) (o1 : off ≤ 536870911) (e0 : 0 ≤ e) (e1 : e ≤ 7) (c0 : 0 ≤ c) (c1 : c ≤ 536870911) : kindW (encL off e c) = 1 ∧ offW (encL off e c) = off ∧ elemW (encL off e c) = e ∧ cntW (encL off e c) = c := by
 unfold encL kindW offW elemW cntW
 refine ⟨by omega, ?_, by omega, by omega⟩
 split <;> omega
theorem wordB_bytesW {w : Int} (h0 : 0 ≤ w) (h1 : w < 18446744073709551616) : wordB (bytesW w) = w := by
 unfold wordB bytesW
 simp only [List.getD_cons_zero, List.getD_cons_succ]
 omega
theorem bytesW_len (w : Int) : (bytesW w).length = 8 := rfl
theorem wordsB_bytesL : ∀ (ws : List Int), (∀ x ∈ ws, 0 ≤ x ∧ x < 18446744073709551616) → wordsB ws.length (bytesL ws) = ws
 | [], _ => rfl
 | w :: ws, h => by
  have hw := h w List.mem_cons_self
  rw [List.length_cons, wordsB, bytesL, List.take_left' (bytesW_len w), List.drop_left' (bytesW_len w), wordB_bytesW hw.1 hw.2, wordsB_bytesL ws (fun x hx => h x (List.mem_cons_of_mem _ hx))]
theorem getD_zeros (b : List Int) (k i : Nat) : (b ++ List.replicate k 0).getD i 0 = b.getD i 0 := by
 rw [List.getD_eq_getElem?_getD, List.getD_eq_getElem?_getD]
 by_cases h : i < b.length
 ·rw [List.getElem?_append_left h]
 ·rw [List.getElem?_append_right (by omega), List.getElem?_eq_none (l := b) (by omega), List.getElem?_replicate]
  split <;> rfl
theorem wordB_eq {b c : List Int} (h : ∀ i, b.getD i 0 = c.getD i 0) : wordB b = wordB c := by
 unfold wordB
 rw [h, h, h, h, h, h, h, h]
theorem getD_take8 (b : List Int) (i : Nat) : (b.take 8).getD i 0 = if i < 8 then b.getD i 0 else 0 := by
 rw [List.getD_eq_getElem?_getD, List.getD_eq_getElem?_getD, List.getElem?_take]
 split <;> rfl
theorem getD_drop8 (b : List Int) (i : Nat) : (b.drop 8).getD i 0 = b.getD (8 + i) 0 := by
 rw [List.getD_eq_getElem?_getD, List.getD_eq_getElem?_getD, List.getElem?_drop]
theorem wordsB_eq : ∀ (n : Nat) {b c : List Int}, (∀ i, i < 8 * n → b.getD i 0 = c.getD i 0) → wordsB n b = wordsB n c
  | 0, _, _, _ => rfl
  | n + 1, b, c, h => by
    rw [wordsB, wordsB]
    congr 1
    · exact wordB_eq (fun i => by
        rw [getD_take8, getD_take8]
        split
        · exact h i (by omega)
        · rfl)
    · exact wordsB_eq n (fun i hi => by rw [getD_drop8, getD_drop8]; exact h (8 + i) (by omega))
theorem wordsB_len : ∀ (n : Nat) (b : List Int), (wordsB n b).length = n
 | 0, _ => rfl
 | n + 1, b => by rw [wordsB, List.length_cons, wordsB_len n]
theorem restM_words {s : List Int} {e c : Int} {nx n : Nat} (hok : ∀ x ∈ s, 0 ≤ x ∧ x < 18446744073709551616) (hn : nx + n ≤ s.length) (h : restM s e c nx n = true) : seg s nx n = wordsB n (trimE e c (bytesL (seg s nx n))) := by
 have hl : (seg s nx n).length = n := by unfold seg; rw [List.length_take, List.length_drop]; omega
 have hw := wordsB_bytesL (seg s nx n) (fun x hx => hok x (List.mem_of_mem_drop (List.mem_of_mem_take hx)))
 rw [hl] at hw
 unfold restM at h
 dsimp only at h
 rw [decide_eq_true_eq] at h
 change (trimE e c (bytesL (seg s nx n)) ++ List.replicate (bytesL (seg s nx n)).length 0).take (bytesL (seg s nx n)).length = bytesL (seg s nx n) at h
 generalize trimE e c (bytesL (seg s nx n)) = T at *
 conv => lhs; rw [← hw]
 have hbl : (bytesL (seg s nx n)).length = 8 * n := by rw [bytesL_length, hl]
 refine wordsB_eq n (fun i hi => ?_)
 rw [← getD_zeros T (bytesL (seg s nx n)).length i, ← h]
 rw [List.getD_eq_getElem?_getD, List.getD_eq_getElem?_getD, List.getElem?_take_of_lt (by omega)]
 rw [h]
end Go.Proofs.YtidglmocekghmaaDoor.Pr
end
section
namespace Go.Proofs.YtidglmocekghmaaDoor.Pr
open Go.RowKit Go.Proofs.YtidglmocekghmaaDoorW.PrintWords Go.Proofs.YtidglmocekghmaaDoorW.PrintLast Go.Proofs.YtidglmocekghmaaDoorW.PrintMore
set_option linter.unusedVariables false
set_option linter.unusedSimpArgs false
structure Ob where
 kd : Int
 sg : Int
 ad : Int
 d : Int
 p : Int
 e : Int
 n : Int
 c : Int
def Ob.z : Ob := ⟨0, 0, 0, 0, 0, 0, 0, 0⟩
abbrev obV (o : Ob) : Value := .agg #[.int .i64 o.kd, .int .i64 o.sg, .int .i64 o.ad, .int .i64 o.d, .int .i64 o.p, .int .i64 o.e, .int .i64 o.n, .int .i64 o.c]
def tagM (sg st e m c t : Int) : Ob × Int :=
 if kindW t ≠ 0 then (Ob.z, 5)
 else if pO t < 0 then (Ob.z, 5)
 else if c < pO t * (pD t + pP t) then (Ob.z, 5)
 else if pD t + pP t = 0 then (⟨2, sg, st + 1, pD t, pP t, e, pO t, m + pO t⟩, 0)
 else (⟨2, sg, st + 1, pD t, pP t, e, pO t, m⟩, 0)
def desM (G : List (List Int)) (x sg st : Int) : Ob × Int :=
 if kindW x = 3 then (if pL x = 0 then (Ob.z, 6) else (Ob.z, 4))
 else if kindW x = 0 then (if inG G sg st (pD x + pP x) = true then (⟨1, sg, st, pD x, pP x, 0, 0, pD x + pP x⟩, 0) else (Ob.z, 2))
 else if inG G sg st (wordsE (pE x) (pC x)) = false then (Ob.z, 2)
 else if pE x ≠ 7 then (⟨2, sg, st, 0, 0, pE x, pC x, wordsE (pE x) (pC x)⟩, 0)
 else tagM sg st (pE x) (wordsE (pE x) (pC x)) (pC x) (wdG G sg st)
def objG (G : List (List Int)) (s a : Int) : Ob × Int :=
 if (folM G s a).2.2.2 ≠ 0 then (Ob.z, (folM G s a).2.2.2)
 else if (folM G s a).1 = 0 then (Ob.z, 0)
 else desM G (folM G s a).1 (folM G s a).2.1 ((folM G s a).2.2.1 + pO (folM G s a).1)
theorem pO_bd (w : Int) : -536870912 ≤ pO w ∧ pO w ≤ 536870911 := by have := offW_bd w; unfold pO; split <;> omega
theorem pD_bd (w : Int) : 0 ≤ pD w ∧ pD w ≤ 65535 := by have := dataW_bd w; unfold pD; split <;> omega
theorem pP_bd (w : Int) : 0 ≤ pP w ∧ pP w ≤ 65535 := by have := ptrsW_bd w; unfold pP; split <;> omega
theorem pE_bd (w : Int) : 0 ≤ pE w ∧ pE w ≤ 7 := by have := elemW_bd w; unfold pE; split <;> omega
theorem pC_bd (w : Int) : 0 ≤ pC w ∧ pC w ≤ 536870911 := by have := cntW_bd w; unfold pC; split <;> omega
theorem wordsE_bd (e c : Int) (c0 : 0 ≤ c) (c1 : c ≤ 536870911) : 0 ≤ wordsE e c ∧ wordsE e c ≤ 536870912 := by
 have := bitsE_mul e c c0 c1
 unfold wordsE
 split <;> omega
theorem folM_bd {G : List (List Int)} (hk : OkG G) (s a : Int) (a0 : -1152921504606846976 ≤ a) (a1 : a ≤ 1152921504606846976) (s0 : s ≤ 4611686018427387904) : 0 ≤ (folM G s a).1 ∧ (folM G s a).1 < 18446744073709551616 ∧ (folM G s a).2.1 ≤ 4611686018427387904 ∧ -1152921504606846976 ≤ (folM G s a).2.2.1 ∧ (folM G s a).2.2.1 ≤ 1152921504606846977 ∧ 0 ≤ (folM G s a).2.2.2 ∧ (folM G s a).2.2.2 ≤ 3 := by
 have h1 := wdG_bd hk s a
 have h2 := wdG_bd hk (segW (wdG G s a)) (padW (wdG G s a))
 have h3 := wdG_bd hk (segW (wdG G s a)) (padW (wdG G s a) + 1)
 have h4 := padW_bd (wdG G s a)
 have h5 := segW_bd (wdG G s a)
 have h6 := padW_bd (wdG G (segW (wdG G s a)) (padW (wdG G s a)))
 have h7 := segW_bd (wdG G (segW (wdG G s a)) (padW (wdG G s a)))
 unfold folM
 repeat' split
 all_goals (dsimp only; omega)
set_option maxRecDepth 100000 in
set_option maxHeartbeats 8000000 in
theorem objG_any (A : Option Addr) (cp : Nat) (G : List (List Int)) (s a : Int) (w : World) (hr : RdG w A G) (hg : G.length ≤ 4611686018427387904) (hl : ∀ x ∈ G, x.length ≤ 4611686018427387904) (hk : OkG G) (a0 : -1152921504606846976 ≤ a) (a1 : a ≤ 1152921504606846976) (s0 : s ≤ 4611686018427387904) :
    Calls Tryd.prog 40 #[.slice A G.length cp, .int .i64 s, .int .i64 a] w fun e w' => e = .returned (.tuple #[obV (objG G s a).1, .int .i64 (objG G s a).2]) ∧ Below w.heap.size w w' := by
  have HF := fun w' (hb : Below w.heap.size w w') => Lib.hid (fol_any A cp G s a w' (Kd.C_below hr hb) hg hl hk (by omega) (by omega))
  have HI := fun s a n w' (hb : Below w.heap.size w w') hs ha hn => Lib.hid (inb_any A cp G s a n w' (Kd.C_below hr hb) hs ha hn hl)
  have HW := fun s a w' (hb : Below w.heap.size w w') => Lib.hid (word_any A cp G s a w' (Kd.C_below hr hb) hg hl)
  have HT := Lib.hid (fun s a => wdG_bd hk s a)
  have hbd := folM_bd hk s a a0 a1 s0
  have HR := Lib.hid (objG.eq_1 G s a)
  have S := Sep.start w
  clear hr hl hk a0 a1 s0
  generalize objG G s a = r at *
  generalize folM G s a = q at *
  obtain ⟨x, sg, ba, er⟩ := q
  dsimp only at HR hbd
  simp only [folV] at HF
  obtain ⟨x0, x1, g1, b0, b1, e0, e1⟩ := hbd
  have D1 := fun w => Lib.hid (rdec_lit x w x0 x1)
  by_cases h1 : er ≠ 0
  · replace HR := Lib.hid (HR.out.trans (if_pos h1))
    have t1 : (er != 0) = true := bne_iff_ne.2 h1
    clear h1
    (go_enter Tryd.func40, Tryd.ntmps40; go_wp2_with (first | go_skip | ((with_reducible refine wl ?_); first | refine sn S (fun g w1 S => ?_) | refine ss S (fun w1 S => ?_) | refine sl S ?_ | refine sa S ?_) | ((with_reducible refine (HF _ S.below).out.mono ?_); rintro e w' ⟨rfl, hb⟩; replace S := S.call hb) | ((with_reducible refine (D1 _).out.mono ?_); rintro e w' ⟨rfl, hb⟩; replace S := S.call hb) | ((with_reducible refine (D2 _).out.mono ?_); rintro e w' ⟨rfl, hb⟩; replace S := S.call hb) | ((with_reducible refine (HI1 _ S.below).out.mono ?_); rintro e w' ⟨rfl, rfl⟩) | ((with_reducible refine (HW1 _ S.below).out.mono ?_); rintro e w' ⟨rfl, rfl⟩) | ((with_reducible refine (HM _).out.mono ?_); rintro e w' ⟨rfl, rfl⟩)); exact rt S ⟨by rw [HR.out], S.below⟩)
  replace HR := Lib.hid (HR.out.trans (if_neg h1))
  obtain rfl : er = 0 := by omega
  clear h1
  by_cases h2 : x = 0
  · replace HR := Lib.hid (HR.out.trans (if_pos h2))
    subst h2
    (go_enter Tryd.func40, Tryd.ntmps40; go_wp2_with (first | go_skip | ((with_reducible refine wl ?_); first | refine sn S (fun g w1 S => ?_) | refine ss S (fun w1 S => ?_) | refine sl S ?_ | refine sa S ?_) | ((with_reducible refine (HF _ S.below).out.mono ?_); rintro e w' ⟨rfl, hb⟩; replace S := S.call hb) | ((with_reducible refine (D1 _).out.mono ?_); rintro e w' ⟨rfl, hb⟩; replace S := S.call hb) | ((with_reducible refine (D2 _).out.mono ?_); rintro e w' ⟨rfl, hb⟩; replace S := S.call hb) | ((with_reducible refine (HI1 _ S.below).out.mono ?_); rintro e w' ⟨rfl, rfl⟩) | ((with_reducible refine (HW1 _ S.below).out.mono ?_); rintro e w' ⟨rfl, rfl⟩) | ((with_reducible refine (HM _).out.mono ?_); rintro e w' ⟨rfl, rfl⟩)); exact rt S ⟨by rw [HR.out], S.below⟩)
  replace HR := Lib.hid (HR.out.trans ((if_neg h2).trans (desM.eq_1 _ _ _ _)))
  have t2 : (x == 0) = false := beq_eq_false_iff_ne.2 h2
  clear h2
  have hkb := kindW_bd x
  obtain ⟨p10, p11⟩ := pO_bd x
  obtain ⟨p20, p21⟩ := pD_bd x
  obtain ⟨p30, p31⟩ := pP_bd x
  obtain ⟨p40, p41⟩ := pE_bd x
  obtain ⟨p50, p51⟩ := pC_bd x
  obtain ⟨m, hm⟩ : ∃ m, wordsE (pE x) (pC x) = m := ⟨_, rfl⟩
  have HM := fun w => Lib.hid (words_any6 (pE x) (pC x) w p50 p51)
  obtain ⟨m0, m1⟩ := wordsE_bd (pE x) (pC x) p50 p51
  rw [hm] at HR HM m0 m1
  clear hm
  by_cases h3 : kindW x = 3
  · replace HR := Lib.hid (HR.out.trans (if_pos h3))
    rw [h3] at D1
    clear h3 hkb
    by_cases h4 : pL x = 0
    · replace HR := Lib.hid (HR.out.trans (if_pos h4))
      have t4 : (pL x == 0) = true := beq_iff_eq.2 h4
      clear h4
      (go_enter Tryd.func40, Tryd.ntmps40; go_wp2_with (first | go_skip | ((with_reducible refine wl ?_); first | refine sn S (fun g w1 S => ?_) | refine ss S (fun w1 S => ?_) | refine sl S ?_ | refine sa S ?_) | ((with_reducible refine (HF _ S.below).out.mono ?_); rintro e w' ⟨rfl, hb⟩; replace S := S.call hb) | ((with_reducible refine (D1 _).out.mono ?_); rintro e w' ⟨rfl, hb⟩; replace S := S.call hb) | ((with_reducible refine (D2 _).out.mono ?_); rintro e w' ⟨rfl, hb⟩; replace S := S.call hb) | ((with_reducible refine (HI1 _ S.below).out.mono ?_); rintro e w' ⟨rfl, rfl⟩) | ((with_reducible refine (HW1 _ S.below).out.mono ?_); rintro e w' ⟨rfl, rfl⟩) | ((with_reducible refine (HM _).out.mono ?_); rintro e w' ⟨rfl, rfl⟩)); exact rt S ⟨by rw [HR.out], S.below⟩)
    · replace HR := Lib.hid (HR.out.trans (if_neg h4))
      have t4 : (pL x == 0) = false := beq_eq_false_iff_ne.2 h4
      clear h4
      (go_enter Tryd.func40, Tryd.ntmps40; go_wp2_with (first | go_skip | ((with_reducible refine wl ?_); first | refine sn S (fun g w1 S => ?_) | refine ss S (fun w1 S => ?_) | refine sl S ?_ | refine sa S ?_) | ((with_reducible refine (HF _ S.below).out.mono ?_); rintro e w' ⟨rfl, hb⟩; replace S := S.call hb) | ((with_reducible refine (D1 _).out.mono ?_); rintro e w' ⟨rfl, hb⟩; replace S := S.call hb) | ((with_reducible refine (D2 _).out.mono ?_); rintro e w' ⟨rfl, hb⟩; replace S := S.call hb) | ((with_reducible refine (HI1 _ S.below).out.mono ?_); rintro e w' ⟨rfl, rfl⟩) | ((with_reducible refine (HW1 _ S.below).out.mono ?_); rintro e w' ⟨rfl, rfl⟩) | ((with_reducible refine (HM _).out.mono ?_); rintro e w' ⟨rfl, rfl⟩)); exact rt S ⟨by rw [HR.out], S.below⟩)
  replace HR := Lib.hid (HR.out.trans (if_neg h3))
  have t3 : (kindW x == 3) = false := beq_eq_false_iff_ne.2 h3
  clear h3
  by_cases h5 : kindW x = 0
  · replace HR := Lib.hid (HR.out.trans (if_pos h5))
    rw [h5] at D1
    clear h5 hkb t3
    have HI1 := fun w' hb => HI sg (ba + pO x) (pD x + pP x) w' hb g1 (by omega) (by omega)
    cases h6 : inG G sg (ba + pO x) (pD x + pP x) with
    | true => replace HR := Lib.hid (HR.out.trans (if_pos h6)); (go_enter Tryd.func40, Tryd.ntmps40; go_wp2_with (first | go_skip | ((with_reducible refine wl ?_); first | refine sn S (fun g w1 S => ?_) | refine ss S (fun w1 S => ?_) | refine sl S ?_ | refine sa S ?_) | ((with_reducible refine (HF _ S.below).out.mono ?_); rintro e w' ⟨rfl, hb⟩; replace S := S.call hb) | ((with_reducible refine (D1 _).out.mono ?_); rintro e w' ⟨rfl, hb⟩; replace S := S.call hb) | ((with_reducible refine (D2 _).out.mono ?_); rintro e w' ⟨rfl, hb⟩; replace S := S.call hb) | ((with_reducible refine (HI1 _ S.below).out.mono ?_); rintro e w' ⟨rfl, rfl⟩) | ((with_reducible refine (HW1 _ S.below).out.mono ?_); rintro e w' ⟨rfl, rfl⟩) | ((with_reducible refine (HM _).out.mono ?_); rintro e w' ⟨rfl, rfl⟩)); exact rt S ⟨by rw [HR.out], S.below⟩)
    | false => replace HR := Lib.hid (HR.out.trans (if_neg (by rw [h6]; simp))); (go_enter Tryd.func40, Tryd.ntmps40; go_wp2_with (first | go_skip | ((with_reducible refine wl ?_); first | refine sn S (fun g w1 S => ?_) | refine ss S (fun w1 S => ?_) | refine sl S ?_ | refine sa S ?_) | ((with_reducible refine (HF _ S.below).out.mono ?_); rintro e w' ⟨rfl, hb⟩; replace S := S.call hb) | ((with_reducible refine (D1 _).out.mono ?_); rintro e w' ⟨rfl, hb⟩; replace S := S.call hb) | ((with_reducible refine (D2 _).out.mono ?_); rintro e w' ⟨rfl, hb⟩; replace S := S.call hb) | ((with_reducible refine (HI1 _ S.below).out.mono ?_); rintro e w' ⟨rfl, rfl⟩) | ((with_reducible refine (HW1 _ S.below).out.mono ?_); rintro e w' ⟨rfl, rfl⟩) | ((with_reducible refine (HM _).out.mono ?_); rintro e w' ⟨rfl, rfl⟩)); exact rt S ⟨by rw [HR.out], S.below⟩)
  replace HR := Lib.hid (HR.out.trans (if_neg h5))
  have t5 : (kindW x == 0) = false := beq_eq_false_iff_ne.2 h5
  clear h5
  have HI1 := fun w' hb => HI sg (ba + pO x) m w' hb g1 (by omega) (by omega)
  cases h7 : inG G sg (ba + pO x) m with
  | false => replace HR := Lib.hid (HR.out.trans (if_pos h7)); (go_enter Tryd.func40, Tryd.ntmps40; go_wp2_with (first | go_skip | ((with_reducible refine wl ?_); first | refine sn S (fun g w1 S => ?_) | refine ss S (fun w1 S => ?_) | refine sl S ?_ | refine sa S ?_) | ((with_reducible refine (HF _ S.below).out.mono ?_); rintro e w' ⟨rfl, hb⟩; replace S := S.call hb) | ((with_reducible refine (D1 _).out.mono ?_); rintro e w' ⟨rfl, hb⟩; replace S := S.call hb) | ((with_reducible refine (D2 _).out.mono ?_); rintro e w' ⟨rfl, hb⟩; replace S := S.call hb) | ((with_reducible refine (HI1 _ S.below).out.mono ?_); rintro e w' ⟨rfl, rfl⟩) | ((with_reducible refine (HW1 _ S.below).out.mono ?_); rintro e w' ⟨rfl, rfl⟩) | ((with_reducible refine (HM _).out.mono ?_); rintro e w' ⟨rfl, rfl⟩)); exact rt S ⟨by rw [HR.out], S.below⟩)
  | true =>
  replace HR := Lib.hid (HR.out.trans (if_neg (by rw [h7]; simp)))
  by_cases h8 : pE x ≠ 7
  · replace HR := Lib.hid (HR.out.trans (if_pos h8))
    have t8 : (pE x != 7) = true := bne_iff_ne.2 h8
    clear h8
    (go_enter Tryd.func40, Tryd.ntmps40; go_wp2_with (first | go_skip | ((with_reducible refine wl ?_); first | refine sn S (fun g w1 S => ?_) | refine ss S (fun w1 S => ?_) | refine sl S ?_ | refine sa S ?_) | ((with_reducible refine (HF _ S.below).out.mono ?_); rintro e w' ⟨rfl, hb⟩; replace S := S.call hb) | ((with_reducible refine (D1 _).out.mono ?_); rintro e w' ⟨rfl, hb⟩; replace S := S.call hb) | ((with_reducible refine (D2 _).out.mono ?_); rintro e w' ⟨rfl, hb⟩; replace S := S.call hb) | ((with_reducible refine (HI1 _ S.below).out.mono ?_); rintro e w' ⟨rfl, rfl⟩) | ((with_reducible refine (HW1 _ S.below).out.mono ?_); rintro e w' ⟨rfl, rfl⟩) | ((with_reducible refine (HM _).out.mono ?_); rintro e w' ⟨rfl, rfl⟩)); exact rt S ⟨by rw [HR.out], S.below⟩)
  replace HR := Lib.hid (HR.out.trans ((if_neg h8).trans (tagM.eq_1 _ _ _ _ _ _)))
  have t8 : (pE x != 7) = false := bne_eq_false_iff_eq.2 (by omega)
  clear h8
  have HW1 := HW sg (ba + pO x)
  obtain ⟨v0, v1⟩ := HT.out sg (ba + pO x)
  generalize wdG G sg (ba + pO x) = v at *
  generalize inG G sg (ba + pO x) 1 = bb at *
  have D2 := fun w => Lib.hid (rdec_lit v w v0 v1)
  obtain ⟨o10, o11⟩ := pO_bd v
  obtain ⟨o20, o21⟩ := pD_bd v
  obtain ⟨o30, o31⟩ := pP_bd v
  by_cases h9 : kindW v ≠ 0
  · replace HR := Lib.hid (HR.out.trans (if_pos h9))
    have t9 : (kindW v != 0) = true := bne_iff_ne.2 h9
    clear h9
    (go_enter Tryd.func40, Tryd.ntmps40; go_wp2_with (first | go_skip | ((with_reducible refine wl ?_); first | refine sn S (fun g w1 S => ?_) | refine ss S (fun w1 S => ?_) | refine sl S ?_ | refine sa S ?_) | ((with_reducible refine (HF _ S.below).out.mono ?_); rintro e w' ⟨rfl, hb⟩; replace S := S.call hb) | ((with_reducible refine (D1 _).out.mono ?_); rintro e w' ⟨rfl, hb⟩; replace S := S.call hb) | ((with_reducible refine (D2 _).out.mono ?_); rintro e w' ⟨rfl, hb⟩; replace S := S.call hb) | ((with_reducible refine (HI1 _ S.below).out.mono ?_); rintro e w' ⟨rfl, rfl⟩) | ((with_reducible refine (HW1 _ S.below).out.mono ?_); rintro e w' ⟨rfl, rfl⟩) | ((with_reducible refine (HM _).out.mono ?_); rintro e w' ⟨rfl, rfl⟩)); exact rt S ⟨by rw [HR.out], S.below⟩)
  replace HR := Lib.hid (HR.out.trans (if_neg h9))
  have t9 : (kindW v != 0) = false := bne_eq_false_iff_eq.2 (by omega)
  clear h9
  by_cases ha : pO v < 0
  · replace HR := Lib.hid (HR.out.trans (if_pos ha))
    have ta : decide (pO v < 0) = true := decide_eq_true ha
    clear ha
    (go_enter Tryd.func40, Tryd.ntmps40; go_wp2_with (first | go_skip | ((with_reducible refine wl ?_); first | refine sn S (fun g w1 S => ?_) | refine ss S (fun w1 S => ?_) | refine sl S ?_ | refine sa S ?_) | ((with_reducible refine (HF _ S.below).out.mono ?_); rintro e w' ⟨rfl, hb⟩; replace S := S.call hb) | ((with_reducible refine (D1 _).out.mono ?_); rintro e w' ⟨rfl, hb⟩; replace S := S.call hb) | ((with_reducible refine (D2 _).out.mono ?_); rintro e w' ⟨rfl, hb⟩; replace S := S.call hb) | ((with_reducible refine (HI1 _ S.below).out.mono ?_); rintro e w' ⟨rfl, rfl⟩) | ((with_reducible refine (HW1 _ S.below).out.mono ?_); rintro e w' ⟨rfl, rfl⟩) | ((with_reducible refine (HM _).out.mono ?_); rintro e w' ⟨rfl, rfl⟩)); exact rt S ⟨by rw [HR.out], S.below⟩)
  replace HR := Lib.hid (HR.out.trans (if_neg ha))
  have ta : decide (pO v < 0) = false := decide_eq_false ha
  have o12 : 0 ≤ pO v := by omega
  clear ha o10
  have y0 : 0 ≤ pO v * (pD v + pP v) := Int.mul_nonneg o12 (by omega)
  have y1 : pO v * (pD v + pP v) ≤ 536870911 * 131070 := Int.le_trans (Int.mul_le_mul_of_nonneg_left (by omega) o12) (Int.mul_le_mul_of_nonneg_right o11 (by omega))
  obtain ⟨y, hy⟩ : ∃ y, pO v * (pD v + pP v) = y := ⟨_, rfl⟩
  rw [hy] at HR y0 y1
  by_cases hb : pC x < y
  · replace HR := Lib.hid (HR.out.trans (if_pos hb))
    have tb : decide (pC x < y) = true := decide_eq_true hb
    clear hb
    (go_enter Tryd.func40, Tryd.ntmps40; go_wp2_with (first | go_skip | ((with_reducible refine wl ?_); first | refine sn S (fun g w1 S => ?_) | refine ss S (fun w1 S => ?_) | refine sl S ?_ | refine sa S ?_) | ((with_reducible refine (HF _ S.below).out.mono ?_); rintro e w' ⟨rfl, hb⟩; replace S := S.call hb) | ((with_reducible refine (D1 _).out.mono ?_); rintro e w' ⟨rfl, hb⟩; replace S := S.call hb) | ((with_reducible refine (D2 _).out.mono ?_); rintro e w' ⟨rfl, hb⟩; replace S := S.call hb) | ((with_reducible refine (HI1 _ S.below).out.mono ?_); rintro e w' ⟨rfl, rfl⟩) | ((with_reducible refine (HW1 _ S.below).out.mono ?_); rintro e w' ⟨rfl, rfl⟩) | ((with_reducible refine (HM _).out.mono ?_); rintro e w' ⟨rfl, rfl⟩)); exact rt S ⟨by rw [HR.out], S.below⟩)
  replace HR := Lib.hid (HR.out.trans (if_neg hb))
  have tb : decide (pC x < y) = false := decide_eq_false hb
  clear hb
  by_cases hc : pD v + pP v = 0
  · replace HR := Lib.hid (HR.out.trans (if_pos hc))
    have tc : (pD v + pP v == 0) = true := beq_iff_eq.2 hc
    clear hc
    (go_enter Tryd.func40, Tryd.ntmps40; go_wp2_with (first | go_skip | ((with_reducible refine wl ?_); first | refine sn S (fun g w1 S => ?_) | refine ss S (fun w1 S => ?_) | refine sl S ?_ | refine sa S ?_) | ((with_reducible refine (HF _ S.below).out.mono ?_); rintro e w' ⟨rfl, hb⟩; replace S := S.call hb) | ((with_reducible refine (D1 _).out.mono ?_); rintro e w' ⟨rfl, hb⟩; replace S := S.call hb) | ((with_reducible refine (D2 _).out.mono ?_); rintro e w' ⟨rfl, hb⟩; replace S := S.call hb) | ((with_reducible refine (HI1 _ S.below).out.mono ?_); rintro e w' ⟨rfl, rfl⟩) | ((with_reducible refine (HW1 _ S.below).out.mono ?_); rintro e w' ⟨rfl, rfl⟩) | ((with_reducible refine (HM _).out.mono ?_); rintro e w' ⟨rfl, rfl⟩)); exact rt S ⟨by rw [HR.out], S.below⟩)
  · replace HR := Lib.hid (HR.out.trans (if_neg hc))
    have tc : (pD v + pP v == 0) = false := beq_eq_false_iff_ne.2 hc
    clear hc
    (go_enter Tryd.func40, Tryd.ntmps40; go_wp2_with (first | go_skip | ((with_reducible refine wl ?_); first | refine sn S (fun g w1 S => ?_) | refine ss S (fun w1 S => ?_) | refine sl S ?_ | refine sa S ?_) | ((with_reducible refine (HF _ S.below).out.mono ?_); rintro e w' ⟨rfl, hb⟩; replace S := S.call hb) | ((with_reducible refine (D1 _).out.mono ?_); rintro e w' ⟨rfl, hb⟩; replace S := S.call hb) | ((with_reducible refine (D2 _).out.mono ?_); rintro e w' ⟨rfl, hb⟩; replace S := S.call hb) | ((with_reducible refine (HI1 _ S.below).out.mono ?_); rintro e w' ⟨rfl, rfl⟩) | ((with_reducible refine (HW1 _ S.below).out.mono ?_); rintro e w' ⟨rfl, rfl⟩) | ((with_reducible refine (HM _).out.mono ?_); rintro e w' ⟨rfl, rfl⟩)); exact rt S ⟨by rw [HR.out], S.below⟩)
end Go.Proofs.YtidglmocekghmaaDoor.Pr
end
section
namespace Go.Proofs.YtidglmocekghmaaDoor.Pr
open Go.RowKit Go.Proofs.YtidglmocekghmaaDoorW.PrintWords Go.Proofs.YtidglmocekghmaaDoorW.PrintLast Go.Proofs.YtidglmocekghmaaDoorW.PrintMore
set_option linter.unusedVariables false
set_option linter.unusedSimpArgs false
def elG (o : Ob) (i : Int) : Ob := ⟨1, o.sg, o.ad + i * (o.d + o.p), o.d, o.p, 0, 0, 0⟩
theorem el_any (o : Ob) (i : Int) (w : World) (i0 : 0 ≤ i) (i1 : i ≤ 536870911) (d0 : 0 ≤ o.d) (d1 : o.d ≤ 65535) (p0 : 0 ≤ o.p) (p1 : o.p ≤ 65535) (a0 : -1152921504606846976 ≤ o.ad) (a1 : o.ad ≤ 2305843009213693952) :
    Calls Tryd.prog 41 #[obV o, .int .i64 i] w fun e w' => e = .returned (obV (elG o i)) ∧ Below w.heap.size w w' := by
  obtain ⟨kd, sg, ad, d, p, e, n, c⟩ := o
  dsimp only at d0 d1 p0 p1 a0 a1
  have y0 : 0 ≤ i * (d + p) := Int.mul_nonneg i0 (by omega)
  have y1 : i * (d + p) ≤ 536870911 * 131070 := Int.le_trans (Int.mul_le_mul_of_nonneg_left (by omega) i0) (Int.mul_le_mul_of_nonneg_right i1 (by omega))
  obtain ⟨y, hy⟩ : ∃ y, i * (d + p) = y := ⟨_, rfl⟩
  rw [hy] at y0 y1
  have HR : Hid (elG ⟨kd, sg, ad, d, p, e, n, c⟩ i = ⟨1, sg, ad + y, d, p, 0, 0, 0⟩) := Lib.hid (by unfold elG; rw [hy])
  have S := Sep.start w
  rw [HR.out]
  go_enter Tryd.func41, Tryd.ntmps41
  go_wp2_with (first | go_skip | ((with_reducible refine wl ?_); first | refine sn S (fun g w1 S => ?_) | refine ss S (fun w1 S => ?_) | refine sl S ?_ | refine sa S ?_))
  exact rt S ⟨rfl, S.below⟩
abbrev limV (D Wd O : Int) : Value := .agg #[.int .i64 D, .int .i64 Wd, .int .i64 O]
def startM (Wd : Int) : Int := if Wd < 0 then 0 else Wd
theorem start_any (D Wd O : Int) (w : World) : Calls Tryd.prog 28 #[limV D Wd O] w fun e w' => e = .returned (.agg #[.int .i64 (startM Wd)]) ∧ Below w.heap.size w w' := by
  have S := Sep.start w
  by_cases h : Wd < 0
  · have HR : Hid (startM Wd = 0) := Lib.hid (if_pos h)
    have t : decide (Wd < 0) = true := decide_eq_true h
    clear h
    go_enter Tryd.func28, Tryd.ntmps28
    go_wp2_with (first | go_skip | ((with_reducible refine wl ?_); first | refine sn S (fun g w1 S => ?_) | refine ss S (fun w1 S => ?_) | refine sl S ?_ | refine sa S ?_))
    exact rt S ⟨by rw [HR.out], S.below⟩
  · have HR : Hid (startM Wd = Wd) := Lib.hid (if_neg h)
    have t : decide (Wd < 0) = false := decide_eq_false h
    clear h
    go_enter Tryd.func28, Tryd.ntmps28
    go_wp2_with (first | go_skip | ((with_reducible refine wl ?_); first | refine sn S (fun g w1 S => ?_) | refine ss S (fun w1 S => ?_) | refine sl S ?_ | refine sa S ?_))
    exact rt S ⟨by rw [HR.out], S.below⟩
theorem rcharge_yes (m c : Int) (w : World) (h : c ≤ m) (c0 : 0 ≤ c) (m1 : m ≤ 4611686018427387904) : Calls Tryd.prog 52 #[.agg #[.int .i64 m], .int .i64 c] w fun e w' => e = .returned (.tuple #[.agg #[.int .i64 (m - c)], .int .i64 0]) ∧ Below w.heap.size w w' := by
  have S := Sep.start w
  have t : decide (m < c) = false := decide_eq_false (by omega)
  go_enter Tryd.func52, Tryd.ntmps52
  go_wp2_with (first | go_skip | ((with_reducible refine wl ?_); first | refine sn S (fun g w1 S => ?_) | refine ss S (fun w1 S => ?_) | refine sl S ?_ | refine sa S ?_))
  exact rt S ⟨rfl, S.below⟩
theorem rcharge_no (m c : Int) (w : World) (h : m < c) : Calls Tryd.prog 52 #[.agg #[.int .i64 m], .int .i64 c] w fun e w' => e = .returned (.tuple #[.agg #[.int .i64 m], .int .i64 8]) ∧ Below w.heap.size w w' := by
  have S := Sep.start w
  have t : decide (m < c) = true := decide_eq_true h
  go_enter Tryd.func52, Tryd.ntmps52
  go_wp2_with (first | go_skip | ((with_reducible refine wl ?_); first | refine sn S (fun g w1 S => ?_) | refine ss S (fun w1 S => ?_) | refine sl S ?_ | refine sa S ?_))
  exact rt S ⟨rfl, S.below⟩
end Go.Proofs.YtidglmocekghmaaDoor.Pr
end
section
namespace Go.Proofs.YtidglmocekghmaaDoor.Pr
set_option linter.unusedSimpArgs false
set_option linter.unusedVariables false
open Go.RowKit Go.Proofs.YtidglmocekghmaaDoorW.PrintWords Go.Proofs.YtidglmocekghmaaDoorW.PrintLast Go.Proofs.YtidglmocekghmaaDoorW.PrintMore
def ndZ : S37 := ⟨0, 0, 0, [], []⟩
abbrev Tr := S37 × Int × Int
def kidsR (v : Int → Int → Tr) : Nat → Int → Int → List S37 × Int × Int
 | 0, _, m => ([], m, 0)
 | n + 1, a, m => if (v a m).2.2 ≠ 0 then ([], (v a m).2.1, (v a m).2.2) else ((v a m).1 :: (kidsR v n (a + 1) (v a m).2.1).1, (kidsR v n (a + 1) (v a m).2.1).2)
def strR (G : List (List Int)) (v : Int → Int → Int → Tr) (o : Ob) (m : Int) : Tr :=
 if (kidsR (v o.sg) o.p.toNat (o.ad + o.d) m).2.2 ≠ 0 then (ndZ, (kidsR (v o.sg) o.p.toNat (o.ad + o.d) m).2)
 else (⟨1, 0, 0, bytesL (cutG G o.sg o.ad o.d), (kidsR (v o.sg) o.p.toNat (o.ad + o.d) m).1⟩, (kidsR (v o.sg) o.p.toNat (o.ad + o.d) m).2.1, 0)
def elsR (s : Ob → Int → Tr) (o : Ob) : Nat → Int → Int → List S37 × Int × Int
 | 0, _, m => ([], m, 0)
 | n + 1, i, m => if (s (elG o i) m).2.2 ≠ 0 then ([], (s (elG o i) m).2.1, (s (elG o i) m).2.2) else ((s (elG o i) m).1 :: (elsR s o n (i + 1) (s (elG o i) m).2.1).1, (elsR s o n (i + 1) (s (elG o i) m).2.1).2)
def bodR (G : List (List Int)) (v : Int → Int → Int → Tr) (o : Ob) (m : Int) : Tr :=
 if o.kd = 1 then strR G v o m
 else if o.e < 6 then (⟨2, o.e, o.n, trimE o.e o.n (bytesL (cutG G o.sg o.ad o.c)), []⟩, m, 0)
 else if o.e = 6 then
  if (kidsR (v o.sg) o.n.toNat o.ad m).2.2 ≠ 0 then (ndZ, (kidsR (v o.sg) o.n.toNat o.ad m).2)
  else (⟨2, o.e, o.n, [], (kidsR (v o.sg) o.n.toNat o.ad m).1⟩, (kidsR (v o.sg) o.n.toNat o.ad m).2.1, 0)
 else if (elsR (strR G v) o o.n.toNat 0 m).2.2 ≠ 0 then (ndZ, (elsR (strR G v) o o.n.toNat 0 m).2)
 else (⟨2, o.e, o.n, [], (elsR (strR G v) o o.n.toNat 0 m).1⟩, (elsR (strR G v) o o.n.toNat 0 m).2.1, 0)
def valR (G : List (List Int)) : Nat → Int → Int → Int → Tr
 | f, sg, a, m =>
  if (folM G sg a).2.2.2 ≠ 0 then (ndZ, m, (folM G sg a).2.2.2)
  else if (folM G sg a).1 = 0 then (ndZ, m, 0)
  else match f with
   | 0 => (ndZ, m, 7)
   | f + 1 =>
    if (objG G sg a).2 ≠ 0 then (ndZ, m, (objG G sg a).2)
    else if m < (objG G sg a).1.c then (ndZ, m, 8)
    else bodR G (valR G f) (objG G sg a).1 (m - (objG G sg a).1.c)
def TrV (w : World) (q : Tr) (r : Ending) (w' : World) : Prop := ∃ v3 v4, r = .returned (.tuple #[.agg #[.int .i64 q.1.f0, .int .i64 q.1.f1, .int .i64 q.1.f2, v3, v4], .agg #[.int .i64 q.2.1], .int .i64 q.2.2]) ∧ k37.M w' w.heap.size (fun _ => True) q.1 [.int .i64 q.1.f0, .int .i64 q.1.f1, .int .i64 q.1.f2, v3, v4] ∧ Below w.heap.size w w'
structure EnvG (w : World) (A : Option Addr) (G : List (List Int)) : Prop where
 rd : RdG w A G
 len : G.length ≤ 4611686018427387904
 sgs : ∀ x ∈ G, x.length ≤ 17592186040320
 ok : OkG G
theorem EnvG.below {w w' : World} {A : Option Addr} {G : List (List Int)} (h : EnvG w A G) (hb : Below w.heap.size w w') : EnvG w' A G := ⟨Kd.C_below h.rd hb, h.len, h.sgs, h.ok⟩
def ValC (f : Nat) : Prop := ∀ (A : Option Addr) (cp : Nat) (G : List (List Int)) (D Wd O m sg a dp : Int) (w : World), EnvG w A G → -1152921504606846976 ≤ a → a ≤ 1152921504606846976 → sg ≤ 4611686018427387904 → 0 ≤ m → m ≤ 4611686018427387904 → D ≤ 4611686018427387904 → 0 ≤ dp → dp + f = D + 1 ∨ (f = 0 ∧ D < dp ∧ dp ≤ 4611686018427387904) →
 Calls Tryd.prog 27 #[.slice A G.length cp, limV D Wd O, .agg #[.int .i64 m], .int .i64 sg, .int .i64 a, .int .i64 dp] w (TrV w (valR G f sg a m))
def StrC (f : Nat) : Prop := ∀ (A : Option Addr) (cp : Nat) (G : List (List Int)) (D Wd O m dp : Int) (o : Ob) (w : World), EnvG w A G → inG G o.sg o.ad (o.d + o.p) = true → 0 ≤ o.d → o.d ≤ 65535 → 0 ≤ o.p → o.p ≤ 65535 → 0 ≤ m → m ≤ 4611686018427387904 → D ≤ 4611686018427387904 → 0 ≤ dp → dp + f = D →
 Calls Tryd.prog 53 #[.slice A G.length cp, limV D Wd O, .agg #[.int .i64 m], obV o, .int .i64 dp] w (TrV w (strR G (valR G f) o m))
end Go.Proofs.YtidglmocekghmaaDoor.Pr
end
section
namespace Go.Proofs.YtidglmocekghmaaDoor.Pr
set_option linter.unusedSimpArgs false
set_option linter.unusedVariables false
open Go.RowKit Go.Proofs.YtidglmocekghmaaDoorW.PrintWords Go.Proofs.YtidglmocekghmaaDoorW.PrintLast Go.Proofs.YtidglmocekghmaaDoorW.PrintMore
def Sinks (v : Int → Int → Tr) : Prop := ∀ a m, 0 ≤ m → 0 ≤ (v a m).2.1 ∧ (v a m).2.1 ≤ m
theorem kidsR_sinks {v : Int → Int → Tr} (hv : Sinks v) : ∀ n a m, 0 ≤ m → 0 ≤ (kidsR v n a m).2.1 ∧ (kidsR v n a m).2.1 ≤ m
 | 0, a, m, h => ⟨h, Int.le_refl _⟩
 | n + 1, a, m, h => by
  have h1 := hv a m h
  have h2 := kidsR_sinks hv n (a + 1) _ h1.1
  unfold kidsR
  split
  ·exact h1
  ·exact ⟨h2.1, Int.le_trans h2.2 h1.2⟩
theorem elsR_kids (s : Ob → Int → Tr) (o : Ob) : ∀ n i m, elsR s o n i m = kidsR (fun i m => s (elG o i) m) n i m
 | 0, _, _ => rfl
 | n + 1, i, m => by unfold elsR kidsR; rw [elsR_kids s o n]
theorem strR_sinks (G : List (List Int)) {v : Int → Int → Int → Tr} (hv : ∀ sg, Sinks (v sg)) (o : Ob) (m : Int) (h : 0 ≤ m) : 0 ≤ (strR G v o m).2.1 ∧ (strR G v o m).2.1 ≤ m := by
 have := kidsR_sinks (hv o.sg) o.p.toNat (o.ad + o.d) m h
 unfold strR
 split
 ·exact this
 ·exact this
theorem bodR_sinks (G : List (List Int)) {v : Int → Int → Int → Tr} (hv : ∀ sg, Sinks (v sg)) (o : Ob) (m : Int) (h : 0 ≤ m) : 0 ≤ (bodR G v o m).2.1 ∧ (bodR G v o m).2.1 ≤ m := by
 have h1 := strR_sinks G hv o m h
 have h2 := kidsR_sinks (hv o.sg) o.n.toNat o.ad m h
 have h3 := kidsR_sinks (v := fun i m => strR G v (elG o i) m) (fun i m hm => strR_sinks G hv (elG o i) m hm) o.n.toNat 0 m h
 rw [← elsR_kids] at h3
 unfold bodR
 repeat' split
 all_goals first | exact h1 | exact h2 | exact h3 | exact ⟨h, Int.le_refl _⟩
theorem tagM_c (sg st e m c t : Int) (h : 0 ≤ m) : 0 ≤ (tagM sg st e m c t).1.c := by
 unfold tagM
 repeat' split
 all_goals first | exact Int.le_refl _ | (dsimp only; omega)
theorem objG_c (G : List (List Int)) (s a : Int) : 0 ≤ (objG G s a).1.c := by
 have h1 := fun x => pD_bd x
 have h2 := fun x => pP_bd x
 have h3 := fun x => wordsE_bd (pE x) (pC x) (pC_bd x).1 (pC_bd x).2
 unfold objG desM
 repeat' split
 all_goals first | exact Int.le_refl _ | exact tagM_c _ _ _ _ _ _ (h3 _).1 | exact (h3 _).1 | exact Int.add_nonneg (h1 _).1 (h2 _).1
theorem valR_sinks (G : List (List Int)) : ∀ f sg, Sinks (valR G f sg)
 | 0, sg => fun a m h => by
  rw [valR]
  by_cases h1 : (folM G sg a).2.2.2 ≠ 0
  ·rw [if_pos h1]; exact ⟨h, Int.le_refl _⟩
  ·rw [if_neg h1]
   by_cases h2 : (folM G sg a).1 = 0
   ·rw [if_pos h2]; exact ⟨h, Int.le_refl _⟩
   ·rw [if_neg h2]; exact ⟨h, Int.le_refl _⟩
 | f + 1, sg => fun a m h => by
  rw [valR]
  split
  ·exact ⟨h, Int.le_refl _⟩
  split
  ·exact ⟨h, Int.le_refl _⟩
  split
  ·exact ⟨h, Int.le_refl _⟩
  split
  ·exact ⟨h, Int.le_refl _⟩
  have hc := objG_c G sg a
  have := bodR_sinks G (v := valR G f) (fun sg => valR_sinks G f sg) (objG G sg a).1 (m - (objG G sg a).1.c) (by omega)
  exact ⟨this.1, by omega⟩
structure Rnd (v : Int → Int → Tr) (n : Nat) (a m : Int) (i : Nat) (ks : List S37) (mi : Int) : Prop where
 le : i ≤ n
 len : ks.length = i
 lo : 0 ≤ mi
 hi : mi ≤ m
 eq : kidsR v n a m = (ks ++ (kidsR v (n - i) (a + i) mi).1, (kidsR v (n - i) (a + i) mi).2)
theorem Rnd.start (v : Int → Int → Tr) (n : Nat) (a m : Int) (h : 0 ≤ m) : Rnd v n a m 0 [] m := ⟨Nat.zero_le _, rfl, h, Int.le_refl _, by simp⟩
theorem Rnd.stop {v : Int → Int → Tr} {n : Nat} {a m : Int} {i : Nat} {ks : List S37} {mi : Int} (h : Rnd v n a m i ks mi) (hi : i = n) : kidsR v n a m = (ks, mi, 0) := by
 subst hi
 have := h.eq
 simpa [kidsR] using this
theorem Rnd.fail {v : Int → Int → Tr} {n : Nat} {a m : Int} {i : Nat} {ks : List S37} {mi : Int} (h : Rnd v n a m i ks mi) (hi : i < n) (he : (v (a + i) mi).2.2 ≠ 0) : (kidsR v n a m).2 = ((v (a + i) mi).2.1, (v (a + i) mi).2.2) := by
 rw [h.eq]
 obtain ⟨k, hk⟩ : ∃ k, n - i = k + 1 := ⟨n - i - 1, by omega⟩
 rw [hk, kidsR, if_pos he]
theorem Rnd.next {v : Int → Int → Tr} (hv : Sinks v) {n : Nat} {a m : Int} {i : Nat} {ks : List S37} {mi : Int} (h : Rnd v n a m i ks mi) (hi : i < n) (he : (v (a + i) mi).2.2 = 0) : Rnd v n a m (i + 1) (ks ++ [(v (a + i) mi).1]) (v (a + i) mi).2.1 := by
 have h1 := hv (a + i) mi h.lo
 refine ⟨hi, by simp [h.len], h1.1, Int.le_trans h1.2 h.hi, ?_⟩
 rw [h.eq]
 obtain ⟨k, hk⟩ : ∃ k, n - i = k + 1 := ⟨n - i - 1, by omega⟩
 rw [show n - (i + 1) = k by omega, hk, kidsR, if_neg (by simpa using he)]
 have : a + ((i + 1 : Nat) : Int) = a + i + 1 := by omega
 rw [this]
 simp
end Go.Proofs.YtidglmocekghmaaDoor.Pr
end
section
namespace Go.Proofs.YtidglmocekghmaaDoor.Pr
set_option linter.unusedSimpArgs false
set_option linter.unusedVariables false
def vptrs (v : Nat → Nat → Option Nat) : Nat → Nat → Nat → Option Nat
 | 0, _, nx => some nx
 | n + 1, a, nx => match v a nx with
  | none => none
  | some r => vptrs v n (a + 1) r
def velems (v : Nat → Nat → Option Nat) (p size : Nat) : Nat → Nat → Nat → Option Nat
 | 0, _, nx => some nx
 | k + 1, a, nx => match vptrs v p a nx with
  | none => none
  | some r => velems v p size k (a + size) r
def vstr (s : List Int) (v : Nat → Nat → Option Nat) (a : Nat) (w : Int) (nx : Nat) : Option Nat :=
 if (dataW w).toNat + (ptrsW w).toNat = 0 then if offW w = -1 then some nx else none
 else if (a : Int) + 1 + offW w = nx then
  if lastM s nx (dataW w).toNat = true then
   if (decide ((ptrsW w).toNat = 0) || decide (wd s (nx + (dataW w).toNat + (ptrsW w).toNat - 1) ≠ 0)) = true then vptrs v (ptrsW w).toNat (nx + (dataW w).toNat) (nx + ((dataW w).toNat + (ptrsW w).toNat)) else none
  else none
 else none
def vcomp (s : List Int) (v : Nat → Nat → Option Nat) (a : Nat) (w : Int) (nx : Nat) : Option Nat :=
 if (a : Int) + 1 + offW w = nx then
  if offW (wd s nx) * (dataW (wd s nx) + ptrsW (wd s nx)) = cntW w then
   if ((decide ((dataW (wd s nx)).toNat = 0) || anyM s ((dataW (wd s nx)).toNat + (ptrsW (wd s nx)).toNat) (offW (wd s nx)).toNat (nx + 1 + (dataW (wd s nx)).toNat - 1)) && (decide ((ptrsW (wd s nx)).toNat = 0) || anyM s ((dataW (wd s nx)).toNat + (ptrsW (wd s nx)).toNat) (offW (wd s nx)).toNat (nx + 1 + ((dataW (wd s nx)).toNat + (ptrsW (wd s nx)).toNat) - 1))) = true then
    velems v (ptrsW (wd s nx)).toNat ((dataW (wd s nx)).toNat + (ptrsW (wd s nx)).toNat) (offW (wd s nx)).toNat (nx + 1 + (dataW (wd s nx)).toNat) (nx + ((cntW w).toNat + 1))
   else none
  else none
 else none
def vlist (s : List Int) (v : Nat → Nat → Option Nat) (a : Nat) (w : Int) (nx : Nat) : Option Nat :=
 if elemW w = 7 then vcomp s v a w nx
 else if (a : Int) + 1 + offW w = nx then
  if elemW w = 6 then vptrs v (wordsE (elemW w) (cntW w)).toNat nx (nx + (wordsE (elemW w) (cntW w)).toNat)
  else if restM s (elemW w) (cntW w) nx (wordsE (elemW w) (cntW w)).toNat = true then some (nx + (wordsE (elemW w) (cntW w)).toNat) else none
 else none
def visV (s : List Int) : Nat → Nat → Nat → Option Nat
 | 0, a, nx => if wd s a = 0 then some nx else none
 | f + 1, a, nx =>
  if wd s a = 0 then some nx
  else if kindW (wd s a) = 0 then vstr s (visV s f) a (wd s a) nx
  else if kindW (wd s a) = 1 then vlist s (visV s f) a (wd s a) nx
  else none
def Agr (s : List Int) (v : Int → Int → Tr) (V : Nat → Nat → Option Nat) (M : Nat → Nat → Nat → Option (Nat × Nat)) : Prop :=
 ∀ a nx m : Nat, a < s.length → nx ≤ s.length → M a nx m = if (v a m).2.2 = 0 then (V a nx).map (fun r => (r, (v a m).2.1.toNat)) else none
section
variable {s : List Int} {v : Int → Int → Tr} {V : Nat → Nat → Option Nat} {M : Nat → Nat → Nat → Option (Nat × Nat)}
theorem agr_kids (H : Agr s v V M) (hv : Sinks v) (hM : InM s M) : ∀ n a nx m : Nat, a + n ≤ s.length → nx ≤ s.length → ptrsM M n a nx m = if (kidsR v n a m).2.2 = 0 then (vptrs V n a nx).map (fun r => (r, (kidsR v n a m).2.1.toNat)) else none
 | 0, a, nx, m, h1, h2 => by simp [ptrsM, vptrs, kidsR]
 | n + 1, a, nx, m, h1, h2 => by
  have h3 := H a nx m (by omega) h2
  have h4 := hM a nx m
  have h5 := hv a m (by omega)
  have h6 := agr_kids H hv hM n (a + 1)
  rw [ptrsM, vptrs, kidsR, h3]
  rw [h3] at h4
  by_cases he : (v a m).2.2 = 0
  ·rw [if_pos he] at h4 ⊢
   rw [if_neg (show ¬ (v a m).2.2 ≠ 0 from fun h => h he)]
   cases hV : V a nx with
   | none => simp
   | some r =>
    rw [hV] at h4
    have h7 := (h4 _ rfl h2).2.1
    have h8 := h6 r (v a m).2.1.toNat (by omega) h7
    rw [show ((((v a m).2.1.toNat : Nat)) : Int) = (v a m).2.1 by omega, show (((a + 1 : Nat)) : Int) = (a : Int) + 1 by omega] at h8
    exact h8
  ·rw [if_neg he, if_pos he]
   simp [he]
theorem strR_2 (G : List (List Int)) (v : Int → Int → Int → Tr) (o : Ob) (m : Int) : (strR G v o m).2 = (kidsR (v o.sg) o.p.toNat (o.ad + o.d) m).2 := by
 unfold strR
 split
 ·rfl
 ·rename_i h
  have : (kidsR (v o.sg) o.p.toNat (o.ad + o.d) m).2.2 = 0 := by simpa using h
  exact Prod.ext rfl this.symm
theorem agr_elems (H : Agr s v V M) (hv : Sinks v) (hM : InM s M) (S : Ob → Int → Tr) (o : Ob) (d p ad : Nat) (hd : o.d = d) (hp : o.p = p) (ha : o.ad = ad) (hS : ∀ (o' : Ob) (m : Int), o'.p = (p : Int) → o'.sg = o.sg → (S o' m).2 = (kidsR v p (o'.ad + o'.d) m).2) :
  ∀ k i a nx m : Nat, a = ad + i * (d + p) + d → a + k * (d + p) ≤ s.length + d → nx ≤ s.length → elemsM M p (d + p) k a nx m = if (elsR S o k i m).2.2 = 0 then (velems V p (d + p) k a nx).map (fun r => (r, (elsR S o k i m).2.1.toNat)) else none
 | 0, i, a, nx, m, h0, h1, h2 => by simp [elemsM, velems, elsR]
 | k + 1, i, a, nx, m, h0, h1, h2 => by
  have y1 : (k + 1) * (d + p) = k * (d + p) + (d + p) := by rw [Nat.add_mul, Nat.one_mul]
  have h3 := agr_kids H hv hM p a nx m (by omega) h2
  have h4 := ptrsM_in hM p a nx m
  have h5 := kidsR_sinks hv p a m (by omega)
  have h6 := fun nx m => agr_elems H hv hM S o d p ad hd hp ha hS k (i + 1) (a + (d + p)) nx m
  have h9 : (S (elG o i) m).2 = (kidsR v p a m).2 := by
   rw [hS (elG o i) m hp rfl]
   unfold elG
   dsimp only
   rw [hd, hp, ha, h0]
   congr 2
  rw [elemsM, velems, elsR, h3, h9]
  rw [h3] at h4
  by_cases he : (kidsR v p a m).2.2 = 0
  ·rw [if_pos he] at h4 ⊢
   rw [if_neg (show ¬ (kidsR v p a m).2.2 ≠ 0 from fun h => h he)]
   cases hV : vptrs V p a nx with
   | none => simp
   | some r =>
    rw [hV] at h4
    have h7 := (h4 _ rfl h2).2.1
    have y2 : (i + 1) * (d + p) = i * (d + p) + (d + p) := by rw [Nat.add_mul, Nat.one_mul]
    have h8 := h6 r (kidsR v p a m).2.1.toNat (by omega) (by omega) h7
    rw [show ((((kidsR v p a m).2.1.toNat : Nat)) : Int) = (kidsR v p a m).2.1 by omega, show (((i + 1 : Nat)) : Int) = (i : Int) + 1 by omega] at h8
    exact h8
  ·rw [if_neg he, if_pos he]
   simp [he]
end
theorem inG_one {s : List Int} {a n : Int} : inG [s] 0 a n = decide (0 ≤ a ∧ 0 ≤ n ∧ a + n ≤ s.length) := by
 unfold inG sgG
 simp
theorem wdG_one {s : List Int} {a : Int} (h0 : 0 ≤ a) (h1 : a < s.length) : wdG [s] 0 a = wd s a.toNat := by
 unfold wdG
 rw [inG_one, if_pos (by simp; omega)]
 simp [sgG]
theorem folM_one {s : List Int} {a : Nat} (h : a < s.length) (hk : kindW (wd s a) ≠ 2) : folM [s] 0 a = (wd s a, 0, (a : Int) + 1, 0) := by
 unfold folM
 rw [inG_one, wdG_one (by omega) (by omega), if_neg (by simp; omega), Int.toNat_natCast, if_pos (by simp [farB, hk])]
theorem agr_str {s : List Int} {f : Nat} (H : Agr s (valR [s] f 0) (visV s f) (visM s f)) (a nx m : Nat) (ha : a < s.length) (hn : nx ≤ s.length) (h0 : wd s a ≠ 0) (hk : kindW (wd s a) = 0) :
  structM s (visM s f) a (wd s a) nx m = if (valR [s] (f + 1) 0 a m).2.2 = 0 then (vstr s (visV s f) a (wd s a) nx).map (fun r => (r, (valR [s] (f + 1) 0 a m).2.1.toNat)) else none := by
 have hF := folM_one ha (by omega)
 have hd := dataW_bd (wd s a)
 have hp := ptrsW_bd (wd s a)
 obtain ⟨d, hd1⟩ := Int.eq_ofNat_of_zero_le hd.1
 obtain ⟨p, hp1⟩ := Int.eq_ofNat_of_zero_le hp.1
 have hO : objG [s] 0 a = if inG [s] 0 ((a : Int) + 1 + offW (wd s a)) ((d : Int) + p) = true then (⟨1, 0, (a : Int) + 1 + offW (wd s a), d, p, 0, 0, (d : Int) + p⟩, 0) else (Ob.z, 2) := by
  unfold objG desM
  rw [hF]
  simp only [pO, pD, pP, hk, hd1, hp1, h0, ne_eq, not_true_eq_false, if_false, if_true, show ((0 : Int) = 3) = False by simp, show ((0 : Int) ≤ 1) = True by simp]
 have hV : valR [s] (f + 1) 0 a m = if (objG [s] 0 a).2 ≠ 0 then (ndZ, (m : Int), (objG [s] 0 a).2) else if (m : Int) < (objG [s] 0 a).1.c then (ndZ, (m : Int), 8) else bodR [s] (valR [s] f) (objG [s] 0 a).1 ((m : Int) - (objG [s] 0 a).1.c) := by
  rw [valR, hF]
  simp [h0]
 unfold structM vstr
 simp only [hd1, hp1, Int.toNat_natCast]
 rw [hV, hO]
 clear hV hO hF
 by_cases h1 : d + p = 0
 ·have hd0 : d = 0 := by omega
  have hp0 : p = 0 := by omega
  subst hd0 hp0
  by_cases h2 : offW (wd s a) = -1
  ·have : inG [s] 0 ((a : Int) + 1 + offW (wd s a)) (((0 : Nat) : Int) + ((0 : Nat) : Int)) = true := by rw [inG_one, h2]; simp; omega
   rw [this]
   have h3 : ¬ ((m : Int) < 0) := by omega
   simp [h2, bodR, strR, kidsR, h3]
  ·simp [h2]
 ·simp only [h1, if_false]
  by_cases h2 : (a : Int) + 1 + offW (wd s a) = nx
  ·simp only [h2, if_true]
   have hI : inG [s] 0 (nx : Int) ((d : Int) + p) = decide (nx + (d + p) ≤ s.length) := by rw [inG_one]; congr 1; simp only [eq_iff_iff]; omega
   have hB : objM s a (offW (wd s a)) (d + p) nx = decide (nx + (d + p) ≤ s.length) := by unfold objM; simp [h2]
   rw [hI, hB]
   by_cases h3 : nx + (d + p) ≤ s.length
   ·simp only [h3, decide_true, if_true, ne_eq, not_true_eq_false, if_false]
    by_cases h4 : d + p ≤ m
    ·rw [if_pos h4, if_neg (show ¬ ((m : Int) < (d : Int) + p) by omega)]
     have hK := agr_kids H (valR_sinks [s] f 0) (visM_in s f) p (nx + d) (nx + (d + p)) (m - (d + p)) (by omega) (by omega)
     rw [hK]
     simp only [bodR, if_true]
     rw [strR_2]
     dsimp only
     rw [Int.toNat_natCast, show ((nx : Int) + (d : Int)) = ((nx + d : Nat) : Int) by omega, show ((m : Int) - ((d : Int) + p)) = ((m - (d + p) : Nat) : Int) by omega]
     by_cases h5 : lastM s nx d = true
     ·by_cases h6 : (decide (p = 0) || decide (wd s (nx + d + p - 1) ≠ 0)) = true
      ·rw [if_pos h5, if_pos h6, if_pos h5, if_pos h6]
      ·rw [if_pos h5, if_neg h6, if_pos h5, if_neg h6]; simp
     ·rw [if_neg h5, if_neg h5]; simp
    ·rw [if_neg h4, if_pos (show ((m : Int) < (d : Int) + p) by omega)]
     simp
   ·simp [h3]
  ·have hB : objM s a (offW (wd s a)) (d + p) nx = false := by unfold objM; simp [h2]
   simp [h2, hB]
end Go.Proofs.YtidglmocekghmaaDoor.Pr
end
section
namespace Go.Proofs.YtidglmocekghmaaDoor.Pr
set_option linter.unusedSimpArgs false
set_option linter.unusedVariables false
theorem elemsM_zero (v : Nat → Nat → Nat → Option (Nat × Nat)) : ∀ k a nx m : Nat, elemsM v 0 0 k a nx m = some (nx, m)
 | 0, _, _, _ => rfl
 | k + 1, a, nx, m => by simp [elemsM, ptrsM, elemsM_zero v k]
theorem valR_obj {s : List Int} {f a m : Nat} (ha : a < s.length) (h0 : wd s a ≠ 0) (hk : kindW (wd s a) ≠ 2) : valR [s] (f + 1) 0 a m = if (objG [s] 0 a).2 ≠ 0 then (ndZ, (m : Int), (objG [s] 0 a).2) else if (m : Int) < (objG [s] 0 a).1.c then (ndZ, (m : Int), 8) else bodR [s] (valR [s] f) (objG [s] 0 a).1 ((m : Int) - (objG [s] 0 a).1.c) := by
 rw [valR, folM_one ha hk]
 simp [h0]
theorem agr_comp {s : List Int} {f : Nat} (H : Agr s (valR [s] f 0) (visV s f) (visM s f)) (a nx m : Nat) (ha : a < s.length) (hn : nx ≤ s.length) (h0 : wd s a ≠ 0) (hk : kindW (wd s a) = 1) (he : elemW (wd s a) = 7) :
  compM s (visM s f) a (wd s a) nx m = if (valR [s] (f + 1) 0 a m).2.2 = 0 then (vcomp s (visV s f) a (wd s a) nx).map (fun r => (r, (valR [s] (f + 1) 0 a m).2.1.toNat)) else none := by
 have hF := folM_one ha (by omega)
 obtain ⟨c, hc⟩ := Int.eq_ofNat_of_zero_le (cntW_bd (wd s a)).1
 rw [valR_obj ha h0 (by omega)]
 unfold compM vcomp
 by_cases h2 : (a : Int) + 1 + offW (wd s a) = nx
 ·have hW : wordsE 7 (c : Int) = (c : Int) + 1 := rfl
  have hI : inG [s] 0 (nx : Int) ((c : Int) + 1) = decide (nx + (c + 1) ≤ s.length) := by rw [inG_one]; congr 1; simp only [eq_iff_iff]; omega
  have hB : objM s a (offW (wd s a)) (c + 1) nx = decide (nx + (c + 1) ≤ s.length) := by unfold objM; simp [h2]
  have hO : objG [s] 0 a = if nx + (c + 1) ≤ s.length then tagM 0 nx 7 ((c : Int) + 1) c (wdG [s] 0 nx) else (Ob.z, 2) := by
   unfold objG desM
   rw [hF]
   simp only [pO, pD, pP, pE, pC, hk, he, hc, h0, h2, hW, hI, ne_eq, not_true_eq_false, if_false, if_true, show ((1 : Int) = 3) = False by simp, show ((1 : Int) = 0) = False by simp, show ((1 : Int) ≤ 1) = True by simp, decide_eq_false_iff_not]
   by_cases h3 : nx + (c + 1) ≤ s.length <;> simp [h3]
  simp only [hc, Int.toNat_natCast, h2, if_true]
  rw [hO, hB]
  by_cases h3 : nx + (c + 1) ≤ s.length
  ·simp only [h3, decide_true, if_true]
   rw [wdG_one (by omega) (by omega), Int.toNat_natCast]
   generalize wd s nx = t
   obtain ⟨d, hd1⟩ := Int.eq_ofNat_of_zero_le (dataW_bd t).1
   obtain ⟨p, hp1⟩ := Int.eq_ofNat_of_zero_le (ptrsW_bd t).1
   by_cases hkt : kindW t = 0
   ·have hpo : pO t = offW t := by unfold pO; rw [if_pos (by omega)]
    have hpd : pD t = d := by unfold pD; rw [if_pos hkt, hd1]
    have hpp : pP t = p := by unfold pP; rw [if_pos hkt, hp1]
    by_cases ho : 0 ≤ offW t
    ·obtain ⟨k, hk1⟩ := Int.eq_ofNat_of_zero_le ho
     simp only [hk1, hd1, hp1, Int.toNat_natCast]
     rw [hk1] at hpo
     by_cases hs : (k : Int) * ((d : Int) + p) = c
     ·have hs' : k * (d + p) = c := by exact_mod_cast hs
      by_cases hz : d + p = 0
      ·have hd0 : d = 0 := by omega
       have hp0 : p = 0 := by omega
       subst hd0 hp0
       have hT : tagM 0 nx 7 ((c : Int) + 1) c t = (⟨2, 0, (nx : Int) + 1, 0, 0, 7, k, (c : Int) + 1 + k⟩, 0) := by
        unfold tagM
        simp only [hpo, hpd, hpp, hkt, ne_eq, not_true_eq_false, if_false]
        rw [if_neg (by omega), if_neg (by simp), if_pos (by simp)]
        rfl
       rw [hT]
       simp only [hkt, hs, true_and, Int.natCast_nonneg, if_true, ne_eq, not_true_eq_false, if_false]
       by_cases h4 : c + 1 ≤ m
       ·by_cases h5 : k ≤ m - (c + 1)
        ·have hE := agr_elems H (valR_sinks [s] f 0) (visM_in s f) (strR [s] (valR [s] f)) ⟨2, 0, (nx : Int) + 1, 0, 0, 7, k, (c : Int) + 1 + k⟩ 0 0 (nx + 1) rfl rfl (by simp) (fun o' m hp hg => by rw [strR_2, hp, hg]; rfl) k 0 (nx + 1 + 0) (nx + (c + 1)) (m - (c + 1) - k) (by omega) (by omega) (by omega)
         rw [show (0 : Nat) + 0 = 0 from rfl, elemsM_zero] at hE
         rw [show ((m - (c + 1) - k : Nat) : Int) = (m : Int) - ((c : Int) + 1 + k) by omega] at hE
         have hlt : ¬ ((m : Int) < (c : Int) + 1 + k) := by omega
         simp only [h4, h5, hlt, if_true, if_false, bodR, show ((2 : Int) = 1) = False by simp, show ((7 : Int) < 6) = False by simp, show ((7 : Int) = 6) = False by simp, Int.toNat_natCast]
         simp only [decide_true, Bool.true_or, Bool.and_self, if_true]
         generalize elsR (strR [s] (valR [s] f)) ⟨2, 0, (nx : Int) + 1, 0, 0, 7, k, (c : Int) + 1 + k⟩ k 0 ((m : Int) - ((c : Int) + 1 + k)) = z at *
         obtain ⟨z1, z2, z3⟩ := z
         dsimp only at hE ⊢
         by_cases hz3 : z3 = 0
         ·subst hz3
          simpa using hE
         ·simp [hz3] at hE
        ·have hlt : ((m : Int) < (c : Int) + 1 + k) := by omega
         simp [h4, h5, hlt]
       ·have hlt : ((m : Int) < (c : Int) + 1 + k) := by omega
        simp [h4, hlt]
      ·have hT : tagM 0 nx 7 ((c : Int) + 1) c t = (⟨2, 0, (nx : Int) + 1, d, p, 7, k, (c : Int) + 1⟩, 0) := by
        unfold tagM
        simp only [hpo, hpd, hpp, hkt, ne_eq, not_true_eq_false, if_false]
        rw [if_neg (by omega), if_neg (by omega), if_neg (by omega)]
       rw [hT]
       simp only [hkt, hs, hz, true_and, Int.natCast_nonneg, if_true, ne_eq, not_true_eq_false, if_false]
       by_cases h4 : c + 1 ≤ m
       ·have hE := agr_elems H (valR_sinks [s] f 0) (visM_in s f) (strR [s] (valR [s] f)) ⟨2, 0, (nx : Int) + 1, d, p, 7, k, (c : Int) + 1⟩ d p (nx + 1) rfl rfl (by simp) (fun o' m hp hg => by rw [strR_2, hp, hg]; simp) k 0 (nx + 1 + d) (nx + (c + 1)) (m - (c + 1)) (by omega) (by rw [hs']; omega) (by omega)
        rw [show ((m - (c + 1) : Nat) : Int) = (m : Int) - ((c : Int) + 1) by omega] at hE
        have hlt : ¬ ((m : Int) < (c : Int) + 1) := by omega
        simp only [h4, hlt, if_true, if_false, bodR, show ((2 : Int) = 1) = False by simp, show ((7 : Int) < 6) = False by simp, show ((7 : Int) = 6) = False by simp, Int.toNat_natCast]
        rw [hE]
        generalize elsR (strR [s] (valR [s] f)) ⟨2, 0, (nx : Int) + 1, d, p, 7, k, (c : Int) + 1⟩ k ((0 : Nat) : Int) ((m : Int) - ((c : Int) + 1)) = z
        obtain ⟨z1, z2, z3⟩ := z
        dsimp only
        by_cases hz3 : z3 = 0
        ·subst hz3
         simp only [ne_eq, not_true_eq_false, if_false, if_true]
         split <;> simp
        ·simp [hz3]
       ·have hlt : ((m : Int) < (c : Int) + 1) := by omega
        simp [h4, hlt]
     ·simp [hs]
    ·have hT : (tagM 0 nx 7 ((c : Int) + 1) c t).2 = 5 := by
      unfold tagM
      rw [if_neg (by omega), hpo, if_pos (by omega)]
     simp [ho, hT]
   ·have hT : (tagM 0 nx 7 ((c : Int) + 1) c t).2 = 5 := by
     unfold tagM
     rw [if_pos hkt]
    simp [hkt, hT]
  ·simp [h3]
 ·have hB : objM s a (offW (wd s a)) ((cntW (wd s a)).toNat + 1) nx = false := by unfold objM; simp [h2]
  simp [h2, hB]
theorem agr_list {s : List Int} {f : Nat} (H : Agr s (valR [s] f 0) (visV s f) (visM s f)) (a nx m : Nat) (ha : a < s.length) (hn : nx ≤ s.length) (h0 : wd s a ≠ 0) (hk : kindW (wd s a) = 1) :
  listM s (visM s f) a (wd s a) nx m = if (valR [s] (f + 1) 0 a m).2.2 = 0 then (vlist s (visV s f) a (wd s a) nx).map (fun r => (r, (valR [s] (f + 1) 0 a m).2.1.toNat)) else none := by
 unfold listM vlist
 by_cases he : elemW (wd s a) = 7
 ·rw [if_pos he, if_pos he]
  exact agr_comp H a nx m ha hn h0 hk he
 rw [if_neg he, if_neg he]
 have hF := folM_one ha (by omega)
 obtain ⟨c, hc⟩ := Int.eq_ofNat_of_zero_le (cntW_bd (wd s a)).1
 have heb := elemW_bd (wd s a)
 rw [valR_obj ha h0 (by omega), hc]
 obtain ⟨e, hE⟩ : ∃ e, elemW (wd s a) = e := ⟨_, rfl⟩
 rw [hE] at he heb ⊢
 have hcb := (cntW_bd (wd s a)).2
 obtain ⟨n, hw⟩ := Int.eq_ofNat_of_zero_le (wordsE_bd e (c : Int) (by omega) (by omega)).1
 simp only [hw, Int.toNat_natCast]
 by_cases h2 : (a : Int) + 1 + offW (wd s a) = nx
 ·have hI : inG [s] 0 (nx : Int) (n : Int) = decide (nx + n ≤ s.length) := by rw [inG_one]; congr 1; simp only [eq_iff_iff]; omega
  have hB : objM s a (offW (wd s a)) n nx = decide (nx + n ≤ s.length) := by unfold objM; simp [h2]
  have hO : objG [s] 0 a = if nx + n ≤ s.length then (⟨2, 0, nx, 0, 0, e, c, n⟩, 0) else (Ob.z, 2) := by
   unfold objG desM
   rw [hF]
   simp only [pO, pD, pP, pE, pC, hk, hE, hc, h0, h2, hw, hI, he, ne_eq, not_true_eq_false, not_false_eq_true, if_false, if_true, show ((1 : Int) = 3) = False by simp, show ((1 : Int) = 0) = False by simp, show ((1 : Int) ≤ 1) = True by simp, decide_eq_false_iff_not]
   by_cases h3 : nx + n ≤ s.length <;> simp [h3]
  simp only [h2, if_true]
  rw [hO, hB]
  by_cases h3 : nx + n ≤ s.length
  ·simp only [h3, decide_true, if_true, ne_eq, not_true_eq_false, if_false]
   by_cases h4 : n ≤ m
   ·have hlt : ¬ ((m : Int) < n) := by omega
    simp only [h4, hlt, if_true, if_false, bodR, show ((2 : Int) = 1) = False by simp, Int.toNat_natCast]
    by_cases h6 : e = 6
    ·have hnc : n = c := by
      rw [h6] at hw
      unfold wordsE bitsE at hw
      simp at hw
      omega
     subst hnc
     have hK := agr_kids H (valR_sinks [s] f 0) (visM_in s f) n nx (nx + n) (m - n) (by omega) (by omega)
     rw [show ((m - n : Nat) : Int) = (m : Int) - n by omega] at hK
     have h7 : ¬ e < 6 := by omega
     rw [if_pos h6, if_pos h6, if_neg h7, if_pos h6, hK]
     generalize kidsR (valR [s] f 0) n nx ((m : Int) - n) = z
     obtain ⟨z1, z2, z3⟩ := z
     dsimp only
     by_cases hz3 : z3 = 0
     ·subst hz3
      simp
     ·simp [hz3]
    ·have h7 : e < 6 := by omega
     rw [if_neg h6, if_neg h6, if_pos h7]
     split
     ·simp
     ·simp
   ·have hlt : ((m : Int) < n) := by omega
    simp [h4, hlt]
  ·simp [h3]
 ·have hB : objM s a (offW (wd s a)) n nx = false := by unfold objM; simp [h2]
  simp [h2, hB]
theorem agr_vis (s : List Int) : ∀ f, Agr s (valR [s] f 0) (visV s f) (visM s f)
 | 0 => fun a nx m ha hn => by
  unfold visM visV
  by_cases h0 : wd s a = 0
  ·have hk : kindW (wd s a) ≠ 2 := by rw [h0]; decide
   rw [valR, folM_one ha hk]
   simp [h0]
  ·simp [h0]
 | f + 1 => fun a nx m ha hn => by
  have H := agr_vis s f
  by_cases h0 : wd s a = 0
  ·have hk : kindW (wd s a) ≠ 2 := by rw [h0]; decide
   rw [visM, visV, if_pos h0, if_pos h0, valR, folM_one ha hk]
   simp [h0]
  ·rw [visM, visV, if_neg h0, if_neg h0]
   by_cases h1 : kindW (wd s a) = 0
   ·rw [if_pos h1, if_pos h1]
    exact agr_str H a nx m ha hn h0 h1
   ·rw [if_neg h1, if_neg h1]
    by_cases h2 : kindW (wd s a) = 1
    ·rw [if_pos h2, if_pos h2]
     exact agr_list H a nx m ha hn h0 h2
    ·rw [if_neg h2, if_neg h2]
     simp
end Go.Proofs.YtidglmocekghmaaDoor.Pr
end
section
namespace Go.Proofs.YtidglmocekghmaaDoor.Pr
open Go.RowKit Go.Proofs.YtidglmocekghmaaDoorW.PrintWords Go.Proofs.YtidglmocekghmaaDoorW.PrintLast Go.Proofs.YtidglmocekghmaaDoorW.PrintMore
set_option linter.unusedVariables false
set_option linter.unusedSimpArgs false
theorem cutG_mem {G : List (List Int)} (h : OkG G) (s a n : Int) : ∀ x ∈ cutG G s a n, 0 ≤ x ∧ x < 18446744073709551616 := by
 intro x hx
 have h1 := List.mem_of_mem_drop (List.mem_of_mem_take hx)
 unfold sgG at h1
 by_cases hs : s.toNat < G.length
 ·rw [List.getD_eq_getElem?_getD, List.getElem?_eq_getElem hs] at h1
  exact h _ (List.getElem_mem hs) _ h1
 ·rw [List.getD_eq_getElem?_getD, List.getElem?_eq_none (by omega)] at h1
  cases h1
theorem cutG_len {G : List (List Int)} {s a n : Int} (h : (sgG G s).length ≤ 17592186040320) : (cutG G s a n).length ≤ 17592186040320 := by
 unfold cutG
 rw [List.length_take, List.length_drop]
 omega
theorem TrV.openV {w : World} {q : Tr} {r : Ending} {w' : World} (h : TrV w q r w') : ∃ A3 c3 A4 c4, r = .returned (.tuple #[.agg #[.int .i64 q.1.f0, .int .i64 q.1.f1, .int .i64 q.1.f2, .slice A3 q.1.f3.length c3, .slice A4 q.1.f4.length c4], .agg #[.int .i64 q.2.1], .int .i64 q.2.2]) ∧ k37.M w' w.heap.size (fun _ => True) q.1 [.int .i64 q.1.f0, .int .i64 q.1.f1, .int .i64 q.1.f2, .slice A3 q.1.f3.length c3, .slice A4 q.1.f4.length c4] ∧ Below w.heap.size w w' := by
 obtain ⟨v3, v4, h1, h2, h3⟩ := h
 obtain ⟨A3, c3, A4, c4, e, _⟩ := k37_open (k37.K_of_M h2)
 simp only [List.cons.injEq, true_and, and_true] at e
 obtain ⟨rfl, rfl⟩ := e
 exact ⟨A3, c3, A4, c4, h1, h2, h3⟩
set_option maxRecDepth 100000 in
set_option maxHeartbeats 4000000 in
theorem str_walk (f : Nat) (hv : ValC f) : StrC f := by
  intro A cp G D Wd O m dp o w hE hin d0 d1 p0 p1 m0 m1 D1 dp0 hdp
  obtain ⟨kd, sg, ad, d, p, e, n0, c⟩ := o
  dsimp only at hin d0 d1 p0 p1
  have hb : 0 ≤ sg ∧ sg < G.length ∧ 0 ≤ ad ∧ 0 ≤ d + p ∧ ad + (d + p) ≤ (sgG G sg).length := by unfold inG at hin; rw [decide_eq_true_eq] at hin; exact hin
  obtain ⟨s0, s1, a0, -, hn⟩ := hb
  have hid : inG G sg ad d = true := decide_eq_true ⟨s0, s1, a0, d0, by omega⟩
  have hlen := hE.len
  have hsl : (sgG G sg).length ≤ 17592186040320 := by
    obtain ⟨i, rfl⟩ := Int.eq_ofNat_of_zero_le s0
    exact sg_len hE.sgs i (by omega)
  obtain ⟨n, rfl⟩ := Int.eq_ofNat_of_zero_le p0
  have HS := fun w' (hb : Below w.heap.size w w') => Lib.hid (slice_at A cp G sg ad d w' (Kd.C_below hE.rd hb) hid hE.len hE.sgs)
  have HBY := fun (A' : Option Addr) c' (w' : World) hr => Lib.hid (rbytes_any A' c' (cutG G sg ad d) w' hr (cutG_len hsl) (cutG_mem hE.ok sg ad d))
  have HV := fun (j : Nat) (hj : j < n) mi (q0 : 0 ≤ mi) (q1 : mi ≤ m) w' (hb : Below w.heap.size w w') => Lib.hid (hv A cp G D Wd O mi sg (ad + d + j) (dp + 1) w' (hE.below hb) (by omega) (by omega) (by omega) q0 (by omega) D1 (by omega) (.inl (by omega)))
  have HN := Lib.hid (valR_sinks G f sg)
  have HR := Lib.hid (strR.eq_1 G (valR G f) ⟨kd, sg, ad, d, (n : Int), e, n0, c⟩ m)
  dsimp only at HR
  rw [Int.toNat_natCast] at HR
  have HR0 := Lib.hid (Rnd.start (valR G f sg) n (ad + d) m m0)
  generalize strR G (valR G f) ⟨kd, sg, ad, d, (n : Int), e, n0, c⟩ m = r at *
  generalize cutG G sg ad d = ws at *
  generalize valR G f sg = v at *
  have a1 : ad ≤ 17592186040320 := by omega
  have S := Sep.start w
  clear hv hin hid hn hE
  go_enter Tryd.func53, Tryd.ntmps53
  go_wp2_with (first | go_skip | ((with_reducible refine wl ?_); first | (refine sn S (fun g w1 S => ?_); first | ((fail_if_success (have := gl)); revert g; intro gl S) | ((fail_if_success (have := gm)); revert g; intro gm S) | ((fail_if_success (have := go)); revert g; intro go S) | ((fail_if_success (have := gr)); revert g; intro gr S) | ((fail_if_success (have := gs)); revert g; intro gs S) | ((fail_if_success (have := gN)); revert g; intro gN S) | ((fail_if_success (have := gM)); revert g; intro gM S)) | refine ss S (fun w1 S => ?_) | refine sl S ?_ | refine sa S ?_)  | ((with_reducible refine (HS _ S.below).out.mono ?_); rintro e w' ⟨vs, rfl, hR, hb⟩; obtain ⟨A', c', rfl, hle, hC⟩ := Kd.R_reads hR; replace S := S.call hb) | ((with_reducible refine (HBY _ _ _ hC).out.mono ?_); rintro e w' ⟨v3, rfl, hR, hb⟩; obtain ⟨A3, c3, rfl⟩ := Kd.R_slice hR; replace S := S.push (a := .row (Kd.int .u8) 5 _ (bytesL ws)) hb hR))
  have S := Lib.hid (S.nil k37 37)
  have S := Lib.hid (S.out.pick 1 rfl rfl)
  have S := Lib.hid (S.out.pick 1 rfl rfl)
  go_loopw [17] (fun k wr => ∃ (j : Nat) (ks : List S37) (mi : Int) (Ak : Option Addr) (ck : Nat), Rnd v n (ad + d) m j ks mi ∧ k = .int .i64 j ∧ Hid (Sep w wr [.row k37 37 (.slice Ak ks.length ck) ks, .box gM #[.int .i64 mi] 52, .row (Kd.int .u8) 5 (.slice A3 (bytesL ws).length c3) (bytesL ws), .box gN #[.int .i64 1, .int .i64 0, .int .i64 0, .slice A3 (bytesL ws).length c3, .slice Ak ks.length ck] 37, .box gs #[.int .i64 0] 52, .box gr #[.int .i64 0, .int .i64 0, .int .i64 0, .slice none 0 0, .slice none 0 0] 37, .box go #[.int .i64 kd, .int .i64 sg, .int .i64 ad, .int .i64 d, .int .i64 n, .int .i64 e, .int .i64 n0, .int .i64 c] 75, .box gm #[.int .i64 m] 52, .box gl #[.int .i64 D, .int .i64 Wd, .int .i64 O] 24])) (fun k _ => n - (intOf k).toNat)
  case atStart => exact ⟨0, [], m, none, 0, HR0.out, rfl, S⟩
  case round =>
    clear S
    obtain ⟨j, ks, mi, Ak, ck, hr, rfl, S⟩ := hrel
    by_cases hj : j < n
    · have HVj := HV j hj mi hr.lo hr.hi
      have e1 := hr.fail hj
      have e2 := hr.next HN.out hj
      generalize v (ad + d + j) mi = q at *
      obtain ⟨⟨f0, f1, f2, f3, f4⟩, m', e'⟩ := q
      dsimp only at e1 e2
      by_cases he : e' ≠ 0
      · have HR := Lib.hid (HR.out.trans (by rw [e1 he, if_pos he]))
        have t1 : (e' != 0) = true := bne_iff_ne.2 he
        clear e1 e2 he HR0
        have S := S.out
        go_wp2_with (first | go_skip | ((with_reducible refine wl ?_); first | refine sn S (fun g w1 S => ?_) | refine ss S (fun w1 S => ?_) | refine sl S ?_ | refine sa S ?_)  | ((with_reducible refine (HVj _ S.below).out.mono ?_); rintro r' w' hT; obtain ⟨B3, d3, B4, d4, rfl, hM, hb⟩ := TrV.openV hT; replace S := S.push (a := .made k37 _ _) hb hM; dsimp only at S))
        refine rs [0] S (fun w1 S => ?_)
        refine pu 0 64 ?_
        refine lt 1 S ?_
        refine pu 2 66 ?_
        refine ls 3 S (fun w2 S => ?_)
        refine ls 4 S (fun w3 S => ?_)
        refine pu 5 12 ?_
        refine dn ?_
        go_wp2
        have S1 := ((S.nil k37 37).nil (Kd.int .u8) 5).node (f0 := 0) (f1 := 0) (f2 := 0)
        have HR := HR.out
        subst HR
        exact rt S ⟨_, _, rfl, S1.out .here, S.below⟩
      · obtain rfl : e' = 0 := by omega
        have hr2 := Lib.hid (e2 rfl)
        clear e1 e2 he
        have S := S.out
        have HLL : Hid ((ks.length + 1) * 72 ≤ 140737488355328) := Lib.hid (by have := hr.len; omega)
        go_wp2_with (first | go_skip | ((with_reducible refine wl ?_); first | refine sn S (fun g w1 S => ?_) | refine ss S (fun w1 S => ?_) | refine sl S ?_ | refine sa S ?_)  | ((with_reducible refine (HVj _ S.below).out.mono ?_); rintro r' w' hT; obtain ⟨B3, d3, B4, d4, rfl, hM, hb⟩ := TrV.openV hT; replace S := S.push (a := .made k37 _ _) hb hM; dsimp only at S) | (at_builtin; refine sp_append S.tail.tail.swap rfl rfl Tryd.underlying35 info37 rfl (by decide) (by omega) rfl rfl HLL.out (fun v1 w1 S => ?_); obtain ⟨Ak, ck, rfl⟩ := Kd.R_slice (S.outR .here)))
        go_roundw
        case rel => exact ⟨j + 1, _, m', Ak, ck, hr2.out, by go_num, Lib.hid (by simp only [List.length_append, List.length_singleton] at S ⊢; exact S)⟩
        case measure => simp [intOf]; omega
    · obtain rfl : j = n := by have := hr.le; omega
      have HR := Lib.hid (HR.out.trans (by rw [hr.stop rfl, if_neg (by simp)]))
      dsimp only at HR
      have S := S.out
      go_wp2_with (first | go_skip | ((with_reducible refine wl ?_); first | refine sn S (fun g w1 S => ?_) | refine ss S (fun w1 S => ?_) | refine sl S ?_ | refine sa S ?_) )
      refine rs [3, 1] S (fun w1 S => ?_)
      refine lt 0 S ?_
      refine lt 1 S ?_
      refine ls 2 S (fun w2 S => ?_)
      refine ls 3 S (fun w3 S => ?_)
      refine pu 4 12 ?_
      refine dn ?_
      go_wp2
      have S1 := (S.pick 2 rfl rfl).node (f0 := 1) (f1 := 0) (f2 := 0)
      have HR := HR.out
      subst HR
      exact rt S ⟨_, _, rfl, S1.out .here, S.below⟩
end Go.Proofs.YtidglmocekghmaaDoor.Pr
end
section
namespace Go.Proofs.YtidglmocekghmaaDoor.Pr
set_option linter.unusedSimpArgs false
set_option linter.unusedVariables false
theorem inG_sub {G : List (List Int)} {s a n k b : Int} (h : inG G s a n = true) (hb : a ≤ b) (hk : 0 ≤ k) (hn : b + k ≤ a + n) : inG G s b k = true := by
 unfold inG at *
 rw [decide_eq_true_eq] at *
 omega
theorem inG_bd {G : List (List Int)} {s a n : Int} (h : inG G s a n = true) (hl : ∀ x ∈ G, x.length ≤ 17592186040320) : 0 ≤ s ∧ s < G.length ∧ 0 ≤ a ∧ 0 ≤ n ∧ a + n ≤ 17592186040320 := by
 unfold inG at h
 rw [decide_eq_true_eq] at h
 have := sg_len hl s.toNat (by omega)
 rw [show ((s.toNat : Nat) : Int) = s by omega] at this
 omega
structure ObK (G : List (List Int)) (o : Ob) : Prop where
 c0 : 0 ≤ o.c
 is : (o.kd = 1 ∧ inG G o.sg o.ad (o.d + o.p) = true ∧ 0 ≤ o.d ∧ o.d ≤ 65535 ∧ 0 ≤ o.p ∧ o.p ≤ 65535) ∨
  (o.kd = 2 ∧ 0 ≤ o.e ∧ o.e ≤ 6 ∧ 0 ≤ o.n ∧ o.n ≤ 536870911 ∧ o.c = wordsE o.e o.n ∧ inG G o.sg o.ad o.c = true) ∨
  (o.kd = 2 ∧ o.e = 7 ∧ 0 ≤ o.n ∧ o.n ≤ 536870911 ∧ 0 ≤ o.d ∧ o.d ≤ 65535 ∧ 0 ≤ o.p ∧ o.p ≤ 65535 ∧ ∃ C, inG G o.sg o.ad C = true ∧ o.n * (o.d + o.p) ≤ C)
theorem obj_ok (G : List (List Int)) (s a : Int) (h : (objG G s a).2 = 0) (he : (folM G s a).2.2.2 = 0) (hx : (folM G s a).1 ≠ 0) : ObK G (objG G s a).1 := by
 refine ⟨objG_c G s a, ?_⟩
 revert h
 unfold objG
 rw [if_neg (by simpa using he), if_neg hx]
 generalize folM G s a = q
 obtain ⟨x, sg, ba, er⟩ := q
 dsimp only
 have q1 := pD_bd x
 have q2 := pP_bd x
 have q3 := pE_bd x
 have q4 := pC_bd x
 unfold desM
 split
 ·split
  ·intro h; cases h
  ·intro h; cases h
 split
 ·split
  ·rename_i hi
   intro _
   exact .inl ⟨rfl, hi, q1.1, q1.2, q2.1, q2.2⟩
  ·intro h; cases h
 split
 ·intro h; cases h
 rename_i hi
 have hi : inG G sg (ba + pO x) (wordsE (pE x) (pC x)) = true := by
  cases hh : inG G sg (ba + pO x) (wordsE (pE x) (pC x)) with
  | true => rfl
  | false => exact (hi hh).elim
 split
 ·intro _
  exact .inr (.inl ⟨rfl, q3.1, by dsimp only; omega, q4.1, q4.2, rfl, hi⟩)
 rename_i he7
 have he7 : pE x = 7 := by omega
 have hw : wordsE (pE x) (pC x) = pC x + 1 := by rw [he7]; rfl
 have t1 := pO_bd (wdG G sg (ba + pO x))
 have t2 := pD_bd (wdG G sg (ba + pO x))
 have t3 := pP_bd (wdG G sg (ba + pO x))
 generalize wdG G sg (ba + pO x) = t at *
 rw [hw] at hi ⊢
 unfold tagM
 split
 ·intro h; cases h
 split
 ·intro h; cases h
 split
 ·intro h; cases h
 rename_i h1 h2 h3
 have hC := inG_sub (b := ba + pO x + 1) (k := pC x) hi (by omega) q4.1 (by omega)
 split
 all_goals
  intro _
  exact .inr (.inr ⟨rfl, he7, by dsimp only; omega, t1.2, t2.1, t2.2, t3.1, t3.2, pC x, hC, by dsimp only; omega⟩)
end Go.Proofs.YtidglmocekghmaaDoor.Pr
end
section
namespace Go.Proofs.YtidglmocekghmaaDoor.Pr
open Go.RowKit Go.Proofs.YtidglmocekghmaaDoorW.PrintWords Go.Proofs.YtidglmocekghmaaDoorW.PrintLast Go.Proofs.YtidglmocekghmaaDoorW.PrintMore
set_option linter.unusedVariables false
set_option linter.unusedSimpArgs false
theorem bytesL_bd : ∀ (l : List Int), ∀ x ∈ bytesL l, 0 ≤ x ∧ x < 256
 | [], x, h => by cases h
 | w :: l, x, h => by
  rcases List.mem_append.1 h with h | h
  ·simp only [bytesW, List.mem_cons, List.not_mem_nil, or_false] at h
   omega
  ·exact bytesL_bd l x h
abbrev ObG (G : List (List Int)) (A : Option Addr) (cp : Nat) (sg a : Int) (w : World) (o : Ob) (e : Int) : Prop :=
 ∀ w', Below w.heap.size w w' → Hid (Calls Tryd.prog 40 #[.slice A G.length cp, .int .i64 sg, .int .i64 a] w' fun r w1 => r = .returned (.tuple #[obV o, .int .i64 e]) ∧ Below w'.heap.size w' w1)
abbrev FoG (G : List (List Int)) (A : Option Addr) (cp : Nat) (sg a : Int) (w : World) (x s' b' e : Int) : Prop :=
 ∀ w', Below w.heap.size w w' → Hid (Calls Tryd.prog 51 #[.slice A G.length cp, .int .i64 sg, .int .i64 a] w' fun r w1 => r = .returned (.tuple #[.int .u64 x, .int .i64 s', .int .i64 b', .int .i64 e]) ∧ Below w'.heap.size w' w1)
set_option maxRecDepth 100000 in
set_option maxHeartbeats 4000000 in
theorem val_1 (A : Option Addr) (cp : Nat) (G : List (List Int)) (D Wd O m sg a dp x s' b' : Int) (w : World) (r : Tr) (e : Int) (HF : FoG G A cp sg a w x s' b' e) (he : e ≠ 0) (HR : Hid (r = (ndZ, m, e))) :
    Calls Tryd.prog 27 #[.slice A G.length cp, limV D Wd O, .agg #[.int .i64 m], .int .i64 sg, .int .i64 a, .int .i64 dp] w (TrV w r) := by
  have S := Sep.start w
  have t1 : (e != 0) = true := bne_iff_ne.2 he
  clear he
  go_enter Tryd.func27, Tryd.ntmps27
  go_wp2_with (first | go_skip | ((with_reducible refine wl ?_); first | refine sn S (fun g w1 S => ?_) | refine ss S (fun w1 S => ?_) | refine sl S ?_ | refine sa S ?_) | ((with_reducible refine (HF _ S.below).out.mono ?_); rintro r w' ⟨rfl, hb⟩; replace S := S.call hb))
  refine rs [0, 3] S (fun w1 S => ?_)
  refine pu 2 46 ?_
  refine lt 0 S ?_
  refine lt 1 S ?_
  refine ls 3 S (fun w2 S => ?_)
  refine ls 4 S (fun w2 S => ?_)
  refine pu 5 14 ?_
  refine dn ?_
  go_wp2
  have S1 := ((S.nil k37 37).nil (Kd.int .u8) 5).node (f0 := 0) (f1 := 0) (f2 := 0)
  have HR := HR.out
  subst HR
  exact rt S ⟨_, _, rfl, S1.out .here, S.below⟩
set_option maxRecDepth 100000 in
set_option maxHeartbeats 4000000 in
theorem val_2 (A : Option Addr) (cp : Nat) (G : List (List Int)) (D Wd O m sg a dp x s' b' : Int) (w : World) (r : Tr) (HF : FoG G A cp sg a w 0 s' b' 0) (HR : Hid (r = (ndZ, m, 0))) :
    Calls Tryd.prog 27 #[.slice A G.length cp, limV D Wd O, .agg #[.int .i64 m], .int .i64 sg, .int .i64 a, .int .i64 dp] w (TrV w r) := by
  have S := Sep.start w
  go_enter Tryd.func27, Tryd.ntmps27
  go_wp2_with (first | go_skip | ((with_reducible refine wl ?_); first | refine sn S (fun g w1 S => ?_) | refine ss S (fun w1 S => ?_) | refine sl S ?_ | refine sa S ?_) | ((with_reducible refine (HF _ S.below).out.mono ?_); rintro r w' ⟨rfl, hb⟩; replace S := S.call hb))
  refine rs [0, 3] S (fun w1 S => ?_)
  refine pu 2 46 ?_
  refine lt 0 S ?_
  refine lt 1 S ?_
  refine ls 3 S (fun w2 S => ?_)
  refine ls 4 S (fun w2 S => ?_)
  refine pu 5 14 ?_
  refine dn ?_
  go_wp2
  have S1 := ((S.nil k37 37).nil (Kd.int .u8) 5).node (f0 := 0) (f1 := 0) (f2 := 0)
  have HR := HR.out
  subst HR
  exact rt S ⟨_, _, rfl, S1.out .here, S.below⟩
set_option maxRecDepth 100000 in
set_option maxHeartbeats 4000000 in
theorem val_3 (A : Option Addr) (cp : Nat) (G : List (List Int)) (D Wd O m sg a dp x s' b' : Int) (w : World) (r : Tr) (HF : FoG G A cp sg a w x s' b' 0) (hx : x ≠ 0) (hd : D < dp) (HR : Hid (r = (ndZ, m, 7))) :
    Calls Tryd.prog 27 #[.slice A G.length cp, limV D Wd O, .agg #[.int .i64 m], .int .i64 sg, .int .i64 a, .int .i64 dp] w (TrV w r) := by
  have S := Sep.start w
  have tx : (x == 0) = false := beq_eq_false_iff_ne.2 hx
  clear hx
  have td : decide (D < dp) = true := decide_eq_true hd
  clear hd
  go_enter Tryd.func27, Tryd.ntmps27
  go_wp2_with (first | go_skip | ((with_reducible refine wl ?_); first | refine sn S (fun g w1 S => ?_) | refine ss S (fun w1 S => ?_) | refine sl S ?_ | refine sa S ?_) | ((with_reducible refine (HF _ S.below).out.mono ?_); rintro r w' ⟨rfl, hb⟩; replace S := S.call hb))
  refine rs [0, 3] S (fun w1 S => ?_)
  refine lt 0 S ?_
  refine lt 1 S ?_
  refine ls 2 S (fun w2 S => ?_)
  refine ls 3 S (fun w2 S => ?_)
  refine pu 4 14 ?_
  refine dn ?_
  go_wp2
  have S1 := ((S.nil k37 37).nil (Kd.int .u8) 5).node (f0 := 0) (f1 := 0) (f2 := 0)
  have HR := HR.out
  subst HR
  exact rt S ⟨_, _, rfl, S1.out .here, S.below⟩
set_option maxRecDepth 100000 in
set_option maxHeartbeats 4000000 in
theorem val_4 (A : Option Addr) (cp : Nat) (G : List (List Int)) (D Wd O m sg a dp x s' b' : Int) (w : World) (r : Tr) (o : Ob) (e : Int) (HF : FoG G A cp sg a w x s' b' 0) (hx : x ≠ 0) (hd : dp ≤ D) (HO : ObG G A cp sg a w o e) (he : e ≠ 0) (HR : Hid (r = (ndZ, m, e))) :
    Calls Tryd.prog 27 #[.slice A G.length cp, limV D Wd O, .agg #[.int .i64 m], .int .i64 sg, .int .i64 a, .int .i64 dp] w (TrV w r) := by
  have S := Sep.start w
  have tx : (x == 0) = false := beq_eq_false_iff_ne.2 hx
  clear hx
  have td : decide (D < dp) = false := decide_eq_false (by omega)
  clear hd
  have t1 : (e != 0) = true := bne_iff_ne.2 he
  clear he
  go_enter Tryd.func27, Tryd.ntmps27
  go_wp2_with (first | go_skip | ((with_reducible refine wl ?_); first | refine sn S (fun g w1 S => ?_) | refine ss S (fun w1 S => ?_) | refine sl S ?_ | refine sa S ?_) | ((with_reducible refine (HF _ S.below).out.mono ?_); rintro r w' ⟨rfl, hb⟩; replace S := S.call hb) | ((with_reducible refine (HO _ S.below).out.mono ?_); rintro r w' ⟨rfl, hb⟩; replace S := S.call hb))
  refine rs [1, 4] S (fun w1 S => ?_)
  refine pu 2 64 ?_
  refine lt 0 S ?_
  refine lt 1 S ?_
  refine ls 3 S (fun w2 S => ?_)
  refine ls 4 S (fun w2 S => ?_)
  refine pu 5 14 ?_
  refine dn ?_
  go_wp2
  have S1 := ((S.nil k37 37).nil (Kd.int .u8) 5).node (f0 := 0) (f1 := 0) (f2 := 0)
  have HR := HR.out
  subst HR
  exact rt S ⟨_, _, rfl, S1.out .here, S.below⟩
set_option maxRecDepth 100000 in
set_option maxHeartbeats 4000000 in
theorem val_5 (A : Option Addr) (cp : Nat) (G : List (List Int)) (D Wd O m sg a dp x s' b' : Int) (w : World) (r : Tr) (o : Ob) (HF : FoG G A cp sg a w x s' b' 0) (hx : x ≠ 0) (hd : dp ≤ D) (HO : ObG G A cp sg a w o 0) (hc : m < o.c) (HR : Hid (r = (ndZ, m, 8))) :
    Calls Tryd.prog 27 #[.slice A G.length cp, limV D Wd O, .agg #[.int .i64 m], .int .i64 sg, .int .i64 a, .int .i64 dp] w (TrV w r) := by
  have S := Sep.start w
  have tx : (x == 0) = false := beq_eq_false_iff_ne.2 hx
  clear hx
  have td : decide (D < dp) = false := decide_eq_false (by omega)
  clear hd
  obtain ⟨kd, osg, ad, d, p, e, n, c⟩ := o
  dsimp only at hc
  have HC := fun w => Lib.hid (rcharge_no m c w hc)
  clear hc
  go_enter Tryd.func27, Tryd.ntmps27
  go_wp2_with (first | go_skip | ((with_reducible refine wl ?_); first | refine sn S (fun g w1 S => ?_) | refine ss S (fun w1 S => ?_) | refine sl S ?_ | refine sa S ?_) | ((with_reducible refine (HF _ S.below).out.mono ?_); rintro r w' ⟨rfl, hb⟩; replace S := S.call hb) | ((with_reducible refine (HO _ S.below).out.mono ?_); rintro r w' ⟨rfl, hb⟩; replace S := S.call hb) | ((with_reducible refine (HC _).out.mono ?_); rintro r w' ⟨rfl, hb⟩; replace S := S.call hb))
  refine rs [2, 5] S (fun w1 S => ?_)
  refine pu 2 76 ?_
  refine lt 0 S ?_
  refine lt 1 S ?_
  refine ls 3 S (fun w2 S => ?_)
  refine ls 4 S (fun w2 S => ?_)
  refine pu 5 14 ?_
  refine dn ?_
  go_wp2
  have S1 := ((S.nil k37 37).nil (Kd.int .u8) 5).node (f0 := 0) (f1 := 0) (f2 := 0)
  have HR := HR.out
  subst HR
  exact rt S ⟨_, _, rfl, S1.out .here, S.below⟩
set_option maxRecDepth 100000 in
set_option maxHeartbeats 4000000 in
theorem val_6 (A : Option Addr) (cp : Nat) (G : List (List Int)) (D Wd O m sg a dp x s' b' : Int) (w : World) (r : Tr) (o : Ob) (HF : FoG G A cp sg a w x s' b' 0) (hx : x ≠ 0) (hd : dp ≤ D) (HO : ObG G A cp sg a w o 0) (hc0 : 0 ≤ o.c) (hc : o.c ≤ m) (hm : m ≤ 4611686018427387904) (hk : o.kd = 1) (HS : ∀ w', Below w.heap.size w w' → Hid (Calls Tryd.prog 53 #[.slice A G.length cp, limV D Wd O, .agg #[.int .i64 (m - o.c)], obV o, .int .i64 dp] w' (TrV w' r))) :
    Calls Tryd.prog 27 #[.slice A G.length cp, limV D Wd O, .agg #[.int .i64 m], .int .i64 sg, .int .i64 a, .int .i64 dp] w (TrV w r) := by
  have S := Sep.start w
  have tx : (x == 0) = false := beq_eq_false_iff_ne.2 hx
  clear hx
  have td : decide (D < dp) = false := decide_eq_false (by omega)
  clear hd
  obtain ⟨kd, osg, ad, d, p, e, n, c⟩ := o
  dsimp only at hc hc0 hk HS
  subst hk
  have HC := fun w => Lib.hid (rcharge_yes m c w hc hc0 hm)
  obtain ⟨⟨f0, f1, f2, f3, f4⟩, m', e'⟩ := r
  go_enter Tryd.func27, Tryd.ntmps27
  go_wp2_with (first | go_skip | ((with_reducible refine wl ?_); first | refine sn S (fun g w1 S => ?_) | refine ss S (fun w1 S => ?_) | refine sl S ?_ | refine sa S ?_) | ((with_reducible refine (HF _ S.below).out.mono ?_); rintro r w' ⟨rfl, hb⟩; replace S := S.call hb) | ((with_reducible refine (HO _ S.below).out.mono ?_); rintro r w' ⟨rfl, hb⟩; replace S := S.call hb) | ((with_reducible refine (HC _).out.mono ?_); rintro r w' ⟨rfl, hb⟩; replace S := S.call hb) | ((with_reducible refine (HS _ S.below).out.mono ?_); rintro r' w' hT; obtain ⟨B3, d3, B4, d4, rfl, hM, hb⟩ := TrV.openV hT; replace S := S.push (a := .made k37 _ _) hb hM; dsimp only at S))
  exact rt S ⟨_, _, rfl, S.out .here, S.below⟩
set_option maxRecDepth 100000 in
set_option maxHeartbeats 4000000 in
theorem val_7 (A : Option Addr) (cp : Nat) (G : List (List Int)) (D Wd O m sg a dp x s' b' : Int) (w : World) (r : Tr) (o : Ob) (ws : List Int) (HF : FoG G A cp sg a w x s' b' 0) (hx : x ≠ 0) (hd : dp ≤ D) (HO : ObG G A cp sg a w o 0) (hc0 : 0 ≤ o.c) (hc : o.c ≤ m) (hm : m ≤ 4611686018427387904) (hk : o.kd = 2) (he : o.e < 6) (hn0 : 0 ≤ o.n) (hn1 : o.n ≤ 536870911) (HSl : ∀ w', Below w.heap.size w w' → Hid (Calls Tryd.prog 54 #[.slice A G.length cp, .int .i64 o.sg, .int .i64 o.ad, .int .i64 o.c] w' fun e w1 => ∃ v, e = .returned (.tuple #[v, .bool true]) ∧ Kd.R (Kd.int .u64) 32 w1 w'.heap.size (fun _ => True) v ws ∧ Below w'.heap.size w' w1)) (hl : ws.length ≤ 17592186040320) (hw : ∀ x ∈ ws, 0 ≤ x ∧ x < 18446744073709551616) (hb8 : (bytesE o.e o.n).toNat ≤ (bytesL ws).length) (HR : Hid (r = (⟨2, o.e, o.n, trimE o.e o.n (bytesL ws), []⟩, m - o.c, 0))) :
    Calls Tryd.prog 27 #[.slice A G.length cp, limV D Wd O, .agg #[.int .i64 m], .int .i64 sg, .int .i64 a, .int .i64 dp] w (TrV w r) := by
  have S := Sep.start w
  have tx : (x == 0) = false := beq_eq_false_iff_ne.2 hx
  clear hx
  have td : decide (D < dp) = false := decide_eq_false (by omega)
  clear hd
  obtain ⟨kd, osg, ad, d, p, e, n, c⟩ := o
  dsimp only at hc hc0 hk hn0 hn1 he HSl hb8 HR
  have HBY := fun A' c' w' hr => Lib.hid (rbytes_any A' c' ws w' hr hl hw)
  have HTR := fun A' c' w' hr => Lib.hid (rtrim_any e n A' c' (bytesL ws) w' hr (bytesL_bd ws) hn0 hn1 hb8)
  clear hw hl hb8
  subst hk
  have HC := fun w => Lib.hid (rcharge_yes m c w hc hc0 hm)
  have te : decide (e < 6) = true := decide_eq_true he
  clear he
  go_enter Tryd.func27, Tryd.ntmps27
  go_wp2_with (first | go_skip | ((with_reducible refine wl ?_); first | refine sn S (fun g w1 S => ?_) | refine ss S (fun w1 S => ?_) | refine sl S ?_ | refine sa S ?_) | ((with_reducible refine (HF _ S.below).out.mono ?_); rintro r w' ⟨rfl, hb⟩; replace S := S.call hb) | ((with_reducible refine (HO _ S.below).out.mono ?_); rintro r w' ⟨rfl, hb⟩; replace S := S.call hb) | ((with_reducible refine (HC _).out.mono ?_); rintro r w' ⟨rfl, hb⟩; replace S := S.call hb) | ((with_reducible refine (HSl _ S.below).out.mono ?_); rintro r' w' ⟨vs, rfl, hR, hb⟩; obtain ⟨A', c', rfl⟩ := Kd.R_slice hR; replace S := S.push (a := .row (Kd.int .u64) 32 _ ws) hb hR))
  refine rs [2] S (fun w1 S => ?_)
  refine pu 0 110 ?_
  refine lt 1 S ?_
  refine pu 2 112 ?_
  refine lt 3 S ?_
  refine pu 4 114 ?_
  have hC := R_C (S.outR .here)
  refine lc 5 115 Tryd.func38 (HBY _ _ _ hC).out (fun r' w2 hT => ?_)
  obtain ⟨v, rfl, hR2, hb2⟩ := hT
  obtain ⟨A2, c2, rfl, hle2, hC2⟩ := Kd.R_reads hR2
  replace S := S.call hb2
  refine ⟨_, rfl, S.kpq 0, _, rfl, ?_⟩
  simp only [Act.put, List.setIfInBounds_toArray, List.set_cons_zero, List.set_cons_succ]
  refine lc 6 116 Tryd.func39 (HTR _ _ _ hC2).out (fun r' w3 hT => ?_)
  obtain ⟨v, rfl, hR3, hb3⟩ := hT
  obtain ⟨A4, c4, rfl⟩ := Kd.R_slice hR3
  replace S := S.push (a := .row (Kd.int .u8) 5 _ _) hb3 hR3
  refine ⟨_, rfl, S.kpq 1, _, rfl, ?_⟩
  simp only [Act.put, List.setIfInBounds_toArray, List.set_cons_zero, List.set_cons_succ]
  refine pu 7 117 ?_
  refine lsd 8 1 S (fun w4 S => ?_)
  refine dn ?_
  go_wp2
  refine rs [4, 2] S (fun w1 S => ?_)
  refine lt 0 S ?_
  refine lt 1 S ?_
  refine ls 2 S (fun w2 S => ?_)
  refine ls 3 S (fun w2 S => ?_)
  refine pu 4 14 ?_
  refine dn ?_
  go_wp2
  have S1 := (S.nil k37 37).swap.node (f0 := 2) (f1 := e) (f2 := n)
  have HR := HR.out
  subst HR
  exact rt S ⟨_, _, rfl, S1.out .here, S.below⟩
end Go.Proofs.YtidglmocekghmaaDoor.Pr
end
section
namespace Go.Proofs.YtidglmocekghmaaDoor.Pr
open Go.RowKit Go.Proofs.YtidglmocekghmaaDoorW.PrintWords Go.Proofs.YtidglmocekghmaaDoorW.PrintLast Go.Proofs.YtidglmocekghmaaDoorW.PrintMore
set_option linter.unusedVariables false
set_option linter.unusedSimpArgs false
set_option maxRecDepth 100000 in
set_option maxHeartbeats 8000000 in
theorem val_8 (A : Option Addr) (cp : Nat) (G : List (List Int)) (D Wd O m sg a dp x s' b' : Int) (w : World) (r : Tr) (o : Ob) (v : Int → Int → Tr) (HF : FoG G A cp sg a w x s' b' 0) (hx : x ≠ 0) (hd : dp ≤ D) (HO : ObG G A cp sg a w o 0) (hc0 : 0 ≤ o.c) (hc : o.c ≤ m) (hm : m ≤ 4611686018427387904) (hk : o.kd = 2) (hn0 : 0 ≤ o.n) (hn1 : o.n ≤ 536870911) (hdp : 0 ≤ dp) (hD : D ≤ 4611686018427387904) (he : o.e = 6) (ha0 : 0 ≤ o.ad) (ha1 : o.ad ≤ 17592186040320) (HN : Hid (Sinks v)) (HV : ∀ j : Nat, (j : Int) < o.n → ∀ mi, 0 ≤ mi → mi ≤ m - o.c → ∀ w', Below w.heap.size w w' → Hid (Calls Tryd.prog 27 #[.slice A G.length cp, limV D Wd O, .agg #[.int .i64 mi], .int .i64 o.sg, .int .i64 (o.ad + j), .int .i64 (dp + 1)] w' (TrV w' (v (o.ad + j) mi)))) (HR : Hid (r = if (kidsR v o.n.toNat o.ad (m - o.c)).2.2 ≠ 0 then (ndZ, (kidsR v o.n.toNat o.ad (m - o.c)).2) else (⟨2, o.e, o.n, [], (kidsR v o.n.toNat o.ad (m - o.c)).1⟩, (kidsR v o.n.toNat o.ad (m - o.c)).2.1, 0))) :
    Calls Tryd.prog 27 #[.slice A G.length cp, limV D Wd O, .agg #[.int .i64 m], .int .i64 sg, .int .i64 a, .int .i64 dp] w (TrV w r) := by
  have S := Sep.start w
  have tx : (x == 0) = false := beq_eq_false_iff_ne.2 hx
  clear hx
  have td : decide (D < dp) = false := decide_eq_false (by omega)
  obtain ⟨kd, osg, ad, d, p, e, n, c⟩ := o
  dsimp only at hc hc0 hk hn0 hn1 he HV HR ha0 ha1
  have te : decide (e < 6) = false := decide_eq_false (by omega)
  have te6 : (e == 6) = true := beq_iff_eq.2 he
  clear he
  have tk : (kd == 1) = false := beq_eq_false_iff_ne.2 (by omega)
  clear hk
  have HC := fun w => Lib.hid (rcharge_yes m c w hc hc0 hm)
  obtain ⟨n, rfl⟩ := Int.eq_ofNat_of_zero_le hn0
  rw [Int.toNat_natCast] at HR
  obtain ⟨m2, hm2⟩ : ∃ m2, m - c = m2 := ⟨_, rfl⟩
  have hm0 : 0 ≤ m2 := by omega
  have hm1 : m2 ≤ 4611686018427387904 := by omega
  rw [hm2] at HR HC HV
  clear hm2 hc hc0
  have HR0 := Lib.hid (Rnd.start v n ad m2 hm0)
  go_enter Tryd.func27, Tryd.ntmps27
  go_wp2_with (first | go_skip | ((with_reducible refine wl ?_); first | (refine sn S (fun g w1 S => ?_); first | ((fail_if_success (have := g7)); revert g; intro g7 S) | ((fail_if_success (have := g8)); revert g; intro g8 S) | ((fail_if_success (have := g12)); revert g; intro g12 S) | ((fail_if_success (have := g13)); revert g; intro g13 S) | ((fail_if_success (have := g15)); revert g; intro g15 S) | ((fail_if_success (have := g20)); revert g; intro g20 S) | ((fail_if_success (have := g22)); revert g; intro g22 S)) | refine ss S (fun w1 S => ?_) | refine sl S ?_ | refine sa S ?_) | ((with_reducible refine (HF _ S.below).out.mono ?_); rintro r w' ⟨rfl, hb⟩; replace S := S.call hb) | ((with_reducible refine (HO _ S.below).out.mono ?_); rintro r w' ⟨rfl, hb⟩; replace S := S.call hb) | ((with_reducible refine (HC _).out.mono ?_); rintro r w' ⟨rfl, hb⟩; replace S := S.call hb))
  have S := Lib.hid (S.nil k37 37)
  simp only [List.getElem_toArray, List.getElem_cons_zero, List.getElem_cons_succ]
  go_loopw [26] (fun k wr => ∃ (j : Nat) (ks : List S37) (mi : Int) (Ak : Option Addr) (ck : Nat), Rnd v n ad m2 j ks mi ∧ k = .int .i64 j ∧ Hid (Sep w wr [.row k37 37 (.slice Ak ks.length ck) ks, .box g22 #[.int .i64 mi] 52, .box g20 #[.int .i64 kd, .int .i64 osg, .int .i64 ad, .int .i64 d, .int .i64 p, .int .i64 e, .int .i64 n, .int .i64 c] 75, .box g15 #[.int .i64 2, .int .i64 e, .int .i64 n, .slice none 0 0, .slice Ak ks.length ck] 37, .box g13 #[.int .i64 0] 52, .box g12 #[.int .i64 0, .int .i64 0, .int .i64 0, .slice none 0 0, .slice none 0 0] 37, .box g8 #[.int .i64 m] 52, .box g7 #[.int .i64 D, .int .i64 Wd, .int .i64 O] 24])) (fun k _ => n - (intOf k).toNat)
  case atStart => exact ⟨0, [], m2, none, 0, HR0.out, rfl, S⟩
  case round =>
    clear S
    obtain ⟨j, ks, mi, Ak, ck, hr, rfl, S⟩ := hrel
    by_cases hj : j < n
    · have HVj := HV j (by omega) mi hr.lo hr.hi
      have e1 := hr.fail hj
      have e2 := hr.next HN.out hj
      generalize v (ad + j) mi = q at *
      obtain ⟨⟨f0, f1, f2, f3, f4⟩, m', e'⟩ := q
      dsimp only at e1 e2
      by_cases he : e' ≠ 0
      · have HR := Lib.hid (HR.out.trans (by rw [e1 he, if_pos he]))
        have t1 : (e' != 0) = true := bne_iff_ne.2 he
        clear e1 e2 he HR0
        have S := S.out
        go_wp2_with (first | go_skip | ((with_reducible refine wl ?_); first | refine sn S (fun g w1 S => ?_) | refine ss S (fun w1 S => ?_) | refine sl S ?_ | refine sa S ?_) | ((with_reducible refine (HVj _ S.below).out.mono ?_); rintro r' w' hT; obtain ⟨B3, d3, B4, d4, rfl, hM, hb⟩ := TrV.openV hT; replace S := S.push (a := .made k37 _ _) hb hM; dsimp only at S))
        refine rs [3] S (fun w1 S => ?_)
        refine pu 0 159 ?_
        refine lt 1 S ?_
        refine pu 2 161 ?_
        refine ls 3 S (fun w2 S => ?_)
        refine ls 4 S (fun w2 S => ?_)
        refine pu 5 14 ?_
        refine dn ?_
        go_wp2
        have S1 := ((S.nil k37 37).nil (Kd.int .u8) 5).node (f0 := 0) (f1 := 0) (f2 := 0)
        have HR := HR.out
        subst HR
        exact rt S ⟨_, _, rfl, S1.out .here, S.below⟩
      · obtain rfl : e' = 0 := by omega
        have hr2 := Lib.hid (e2 rfl)
        clear e1 e2 he
        have S := S.out
        have HLL : Hid ((ks.length + 1) * 72 ≤ 140737488355328) := Lib.hid (by have := hr.len; omega)
        go_wp2_with (first | go_skip | ((with_reducible refine wl ?_); first | refine sn S (fun g w1 S => ?_) | refine ss S (fun w1 S => ?_) | refine sl S ?_ | refine sa S ?_) | ((with_reducible refine (HVj _ S.below).out.mono ?_); rintro r' w' hT; obtain ⟨B3, d3, B4, d4, rfl, hM, hb⟩ := TrV.openV hT; replace S := S.push (a := .made k37 _ _) hb hM; dsimp only at S) | (at_builtin; refine sp_append S.swap.tail.swap rfl rfl Tryd.underlying35 info37 rfl (by decide) (by omega) rfl rfl HLL.out (fun v1 w1 S => ?_); obtain ⟨Ak, ck, rfl⟩ := Kd.R_slice (S.outR .here)))
        go_roundw
        case rel => exact ⟨j + 1, _, m', Ak, ck, hr2.out, by go_num, Lib.hid (by simp only [List.length_append, List.length_singleton] at S ⊢; exact S)⟩
        case measure => simp [intOf]; omega
    · obtain rfl : j = n := by have := hr.le; omega
      have HR := Lib.hid (HR.out.trans (by rw [hr.stop rfl, if_neg (by simp)]))
      dsimp only at HR
      have S := S.out
      go_wp2_with (first | go_skip | ((with_reducible refine wl ?_); first | refine sn S (fun g w1 S => ?_) | refine ss S (fun w1 S => ?_) | refine sl S ?_ | refine sa S ?_))
      refine rs [3, 1] S (fun w1 S => ?_)
      refine lt 0 S ?_
      refine lt 1 S ?_
      refine ls 2 S (fun w2 S => ?_)
      refine ls 3 S (fun w2 S => ?_)
      refine pu 4 14 ?_
      refine dn ?_
      go_wp2
      have S1 := (S.nil (Kd.int .u8) 5).node (f0 := 2) (f1 := e) (f2 := j)
      have HR := HR.out
      subst HR
      exact rt S ⟨_, _, rfl, S1.out .here, S.below⟩
set_option maxRecDepth 100000 in
set_option maxHeartbeats 8000000 in
theorem val_9 (A : Option Addr) (cp : Nat) (G : List (List Int)) (D Wd O m sg a dp x s' b' : Int) (w : World) (r : Tr) (o : Ob) (v : Int → Int → Tr) (HF : FoG G A cp sg a w x s' b' 0) (hx : x ≠ 0) (hd : dp ≤ D) (HO : ObG G A cp sg a w o 0) (hc0 : 0 ≤ o.c) (hc : o.c ≤ m) (hm : m ≤ 4611686018427387904) (hk : o.kd = 2) (hn0 : 0 ≤ o.n) (hn1 : o.n ≤ 536870911) (hdp : 0 ≤ dp) (hD : D ≤ 4611686018427387904) (he : o.e = 7) (HN : Hid (Sinks v)) (HE : ∀ j : Nat, (j : Int) < o.n → ∀ w', Hid (Calls Tryd.prog 41 #[obV o, .int .i64 j] w' fun e w1 => e = .returned (obV (elG o j)) ∧ Below w'.heap.size w' w1)) (HV : ∀ j : Nat, (j : Int) < o.n → ∀ mi, 0 ≤ mi → mi ≤ m - o.c → ∀ w', Below w.heap.size w w' → Hid (Calls Tryd.prog 53 #[.slice A G.length cp, limV D Wd O, .agg #[.int .i64 mi], obV (elG o j), .int .i64 dp] w' (TrV w' (v (0 + j) mi)))) (HR : Hid (r = if (kidsR v o.n.toNat 0 (m - o.c)).2.2 ≠ 0 then (ndZ, (kidsR v o.n.toNat 0 (m - o.c)).2) else (⟨2, o.e, o.n, [], (kidsR v o.n.toNat 0 (m - o.c)).1⟩, (kidsR v o.n.toNat 0 (m - o.c)).2.1, 0))) :
    Calls Tryd.prog 27 #[.slice A G.length cp, limV D Wd O, .agg #[.int .i64 m], .int .i64 sg, .int .i64 a, .int .i64 dp] w (TrV w r) := by
  have S := Sep.start w
  have tx : (x == 0) = false := beq_eq_false_iff_ne.2 hx
  clear hx
  have td : decide (D < dp) = false := decide_eq_false (by omega)
  obtain ⟨kd, osg, ad, d, p, e, n, c⟩ := o
  dsimp only at hc hc0 hk hn0 hn1 he HV HR HE
  have te : decide (e < 6) = false := decide_eq_false (by omega)
  have te6 : (e == 6) = false := beq_eq_false_iff_ne.2 (by omega)
  clear he
  have tk : (kd == 1) = false := beq_eq_false_iff_ne.2 (by omega)
  clear hk
  have HC := fun w => Lib.hid (rcharge_yes m c w hc hc0 hm)
  obtain ⟨n, rfl⟩ := Int.eq_ofNat_of_zero_le hn0
  rw [Int.toNat_natCast] at HR
  obtain ⟨m2, hm2⟩ : ∃ m2, m - c = m2 := ⟨_, rfl⟩
  have hm0 : 0 ≤ m2 := by omega
  have hm1 : m2 ≤ 4611686018427387904 := by omega
  rw [hm2] at HR HC HV
  clear hm2 hc hc0
  have HR0 := Lib.hid (Rnd.start v n 0 m2 hm0)
  go_enter Tryd.func27, Tryd.ntmps27
  go_wp2_with (first | go_skip | ((with_reducible refine wl ?_); first | (refine sn S (fun g w1 S => ?_); first | ((fail_if_success (have := g7)); revert g; intro g7 S) | ((fail_if_success (have := g8)); revert g; intro g8 S) | ((fail_if_success (have := g12)); revert g; intro g12 S) | ((fail_if_success (have := g13)); revert g; intro g13 S) | ((fail_if_success (have := g15)); revert g; intro g15 S) | ((fail_if_success (have := g20)); revert g; intro g20 S) | ((fail_if_success (have := g22)); revert g; intro g22 S)) | refine ss S (fun w1 S => ?_) | refine sl S ?_ | refine sa S ?_) | ((with_reducible refine (HF _ S.below).out.mono ?_); rintro r w' ⟨rfl, hb⟩; replace S := S.call hb) | ((with_reducible refine (HO _ S.below).out.mono ?_); rintro r w' ⟨rfl, hb⟩; replace S := S.call hb) | ((with_reducible refine (HC _).out.mono ?_); rintro r w' ⟨rfl, hb⟩; replace S := S.call hb))
  have S := Lib.hid (S.nil k37 37)
  simp only [List.getElem_toArray, List.getElem_cons_zero, List.getElem_cons_succ]
  go_loopw [26] (fun k wr => ∃ (j : Nat) (ks : List S37) (mi : Int) (Ak : Option Addr) (ck : Nat), Rnd v n 0 m2 j ks mi ∧ k = .int .i64 j ∧ Hid (Sep w wr [.row k37 37 (.slice Ak ks.length ck) ks, .box g22 #[.int .i64 mi] 52, .box g20 #[.int .i64 kd, .int .i64 osg, .int .i64 ad, .int .i64 d, .int .i64 p, .int .i64 e, .int .i64 n, .int .i64 c] 75, .box g15 #[.int .i64 2, .int .i64 e, .int .i64 n, .slice none 0 0, .slice Ak ks.length ck] 37, .box g13 #[.int .i64 0] 52, .box g12 #[.int .i64 0, .int .i64 0, .int .i64 0, .slice none 0 0, .slice none 0 0] 37, .box g8 #[.int .i64 m] 52, .box g7 #[.int .i64 D, .int .i64 Wd, .int .i64 O] 24])) (fun k _ => n - (intOf k).toNat)
  case atStart => exact ⟨0, [], m2, none, 0, HR0.out, rfl, S⟩
  case round =>
    clear S
    obtain ⟨j, ks, mi, Ak, ck, hr, rfl, S⟩ := hrel
    by_cases hj : j < n
    · have HVj := HV j (by omega) mi hr.lo hr.hi
      have e1 := hr.fail hj
      have e2 := hr.next HN.out hj
      generalize v (0 + j) mi = q at *
      obtain ⟨⟨f0, f1, f2, f3, f4⟩, m', e'⟩ := q
      dsimp only at e1 e2
      by_cases he : e' ≠ 0
      · have HR := Lib.hid (HR.out.trans (by rw [e1 he, if_pos he]))
        have t1 : (e' != 0) = true := bne_iff_ne.2 he
        clear e1 e2 he HR0
        have S := S.out
        go_wp2_with (first | go_skip | ((with_reducible refine wl ?_); first | refine sn S (fun g w1 S => ?_) | refine ss S (fun w1 S => ?_) | refine sl S ?_ | refine sa S ?_))
        refine rsd [2, 3, 8] [13] S (fun w1 S => ?_)
        refine pu 0 146 ?_
        refine ltd 1 S ?_
        refine ltd 2 S ?_
        refine ltd 3 S ?_
        refine pu 4 150 ?_
        refine pu 6 152 ?_
        refine lcd 5 151 Tryd.func41 (HE j (by omega) _).out (fun r' w2 hT => ?_)
        obtain ⟨rfl, hb2⟩ := hT
        replace S := S.call hb2
        refine ⟨_, rfl, S.kpq 0, _, rfl, ?_⟩
        simp only [Act.put, List.setIfInBounds_toArray, List.set_cons_zero, List.set_cons_succ]
        refine lcd 7 153 Tryd.func53 (HVj _ S.below).out (fun r' w3 hT => ?_)
        obtain ⟨B3, d3, B4, d4, rfl, hM, hb3⟩ := TrV.openV hT
        replace S := S.push (a := .made k37 _ _) hb3 hM
        dsimp only at S
        refine ⟨_, rfl, S.kpq 1, _, rfl, ?_⟩
        simp only [Act.put, List.setIfInBounds_toArray, List.set_cons_zero, List.set_cons_succ]
        refine pu 8 145 ?_
        refine pu 9 154 ?_
        refine pu 10 155 ?_
        refine pu 11 156 ?_
        refine lse 12 1 S (fun w4 S => ?_)
        refine lsl 13 S (fun w5 S => ?_)
        refine pu 14 28 ?_
        refine dn ?_
        go_wp2_with (first | go_skip | ((with_reducible refine wl ?_); first | refine sn S (fun g w1 S => ?_) | refine ss S (fun w1 S => ?_) | refine sl S ?_ | refine sa S ?_))
        refine rs [3] S (fun w1 S => ?_)
        refine pu 0 159 ?_
        refine lt 1 S ?_
        refine pu 2 161 ?_
        refine ls 3 S (fun w2 S => ?_)
        refine ls 4 S (fun w2 S => ?_)
        refine pu 5 14 ?_
        refine dn ?_
        go_wp2
        have S1 := ((S.nil k37 37).nil (Kd.int .u8) 5).node (f0 := 0) (f1 := 0) (f2 := 0)
        have HR := HR.out
        subst HR
        exact rt S ⟨_, _, rfl, S1.out .here, S.below⟩
      · obtain rfl : e' = 0 := by omega
        have hr2 := Lib.hid (e2 rfl)
        clear e1 e2 he
        have S := S.out
        have HLL : Hid ((ks.length + 1) * 72 ≤ 140737488355328) := Lib.hid (by have := hr.len; omega)
        go_wp2_with (first | go_skip | ((with_reducible refine wl ?_); first | refine sn S (fun g w1 S => ?_) | refine ss S (fun w1 S => ?_) | refine sl S ?_ | refine sa S ?_))
        refine rsd [2, 3, 8] [13] S (fun w1 S => ?_)
        refine pu 0 146 ?_
        refine ltd 1 S ?_
        refine ltd 2 S ?_
        refine ltd 3 S ?_
        refine pu 4 150 ?_
        refine pu 6 152 ?_
        refine lcd 5 151 Tryd.func41 (HE j (by omega) _).out (fun r' w2 hT => ?_)
        obtain ⟨rfl, hb2⟩ := hT
        replace S := S.call hb2
        refine ⟨_, rfl, S.kpq 0, _, rfl, ?_⟩
        simp only [Act.put, List.setIfInBounds_toArray, List.set_cons_zero, List.set_cons_succ]
        refine lcd 7 153 Tryd.func53 (HVj _ S.below).out (fun r' w3 hT => ?_)
        obtain ⟨B3, d3, B4, d4, rfl, hM, hb3⟩ := TrV.openV hT
        replace S := S.push (a := .made k37 _ _) hb3 hM
        dsimp only at S
        refine ⟨_, rfl, S.kpq 1, _, rfl, ?_⟩
        simp only [Act.put, List.setIfInBounds_toArray, List.set_cons_zero, List.set_cons_succ]
        refine pu 8 145 ?_
        refine pu 9 154 ?_
        refine pu 10 155 ?_
        refine pu 11 156 ?_
        refine lse 12 1 S (fun w4 S => ?_)
        refine lsl 13 S (fun w5 S => ?_)
        refine pu 14 28 ?_
        refine dn ?_
        go_wp2_with (first | go_skip | ((with_reducible refine wl ?_); first | refine sn S (fun g w1 S => ?_) | refine ss S (fun w1 S => ?_) | refine sl S ?_ | refine sa S ?_) | (at_builtin; refine sp_append S.swap.tail.swap rfl rfl Tryd.underlying35 info37 rfl (by decide) (by omega) rfl rfl HLL.out (fun v1 w1 S => ?_); obtain ⟨Ak, ck, rfl⟩ := Kd.R_slice (S.outR .here)))
        go_roundw
        case rel => exact ⟨j + 1, _, m', Ak, ck, hr2.out, by go_num, Lib.hid (by simp only [List.length_append, List.length_singleton] at S ⊢; exact S)⟩
        case measure => simp [intOf]; omega
    · obtain rfl : j = n := by have := hr.le; omega
      have HR := Lib.hid (HR.out.trans (by rw [hr.stop rfl, if_neg (by simp)]))
      dsimp only at HR
      have S := S.out
      go_wp2_with (first | go_skip | ((with_reducible refine wl ?_); first | refine sn S (fun g w1 S => ?_) | refine ss S (fun w1 S => ?_) | refine sl S ?_ | refine sa S ?_))
      refine rs [3, 1] S (fun w1 S => ?_)
      refine lt 0 S ?_
      refine lt 1 S ?_
      refine ls 2 S (fun w2 S => ?_)
      refine ls 3 S (fun w2 S => ?_)
      refine pu 4 14 ?_
      refine dn ?_
      go_wp2
      have S1 := (S.nil (Kd.int .u8) 5).node (f0 := 2) (f1 := e) (f2 := j)
      have HR := HR.out
      subst HR
      exact rt S ⟨_, _, rfl, S1.out .here, S.below⟩
end Go.Proofs.YtidglmocekghmaaDoor.Pr
end
section
namespace Go.Proofs.YtidglmocekghmaaDoor.Pr
open Go.RowKit Go.Proofs.YtidglmocekghmaaDoorW.PrintWords Go.Proofs.YtidglmocekghmaaDoorW.PrintLast Go.Proofs.YtidglmocekghmaaDoorW.PrintMore
set_option linter.unusedVariables false
set_option linter.unusedSimpArgs false
theorem bytes_fit {G : List (List Int)} {s a e n : Int} (h : inG G s a (wordsE e n) = true) (he : e < 6) (n0 : 0 ≤ n) : (bytesE e n).toNat ≤ (bytesL (cutG G s a (wordsE e n))).length := by
 unfold inG at h
 rw [decide_eq_true_eq] at h
 rw [bytesL_length]
 unfold cutG
 rw [List.length_take, List.length_drop]
 have hw : wordsE e n = (bitsE e * n + 63) / 64 := by unfold wordsE; rw [if_neg (by omega)]
 have hb := (bitsE_bd e).1
 have hn := Int.mul_nonneg hb n0
 unfold bytesE
 rw [hw] at h ⊢
 clear hw
 generalize bitsE e * n = b at *
 omega
theorem val_walk (f : Nat) (hf : ∀ f', f = f' + 1 → ValC f' ∧ StrC f') : ValC f := by
 intro A cp G D Wd O m sg a dp w hE a0 a1 s1 m0 m1 D1 dp0 hdp
 have hlen : ∀ x ∈ G, x.length ≤ 4611686018427387904 := fun x hx => Nat.le_trans (hE.sgs x hx) (by omega)
 have HF : FoG G A cp sg a w (folM G sg a).1 (folM G sg a).2.1 (folM G sg a).2.2.1 (folM G sg a).2.2.2 := fun w' hb => Lib.hid (fol_any A cp G sg a w' (Kd.C_below hE.rd hb) hE.len hlen hE.ok (by omega) (by omega))
 by_cases he : (folM G sg a).2.2.2 ≠ 0
 ·exact val_1 A cp G D Wd O m sg a dp _ _ _ w _ _ HF he (Lib.hid (by cases f <;> rw [valR, if_pos he]))
 have he0 : (folM G sg a).2.2.2 = 0 := by omega
 rw [he0] at HF
 by_cases hx : (folM G sg a).1 = 0
 ·rw [hx] at HF
  exact val_2 A cp G D Wd O m sg a dp 0 _ _ w _ HF (Lib.hid (by cases f <;> rw [valR, if_neg he, if_pos hx]))
 cases f with
 | zero => exact val_3 A cp G D Wd O m sg a dp _ _ _ w _ HF hx (by omega) (Lib.hid (by rw [valR, if_neg he, if_neg hx]))
 | succ f =>
  obtain ⟨hv, hs⟩ := hf f rfl
  have hd : dp + f = D := by omega
  have hV : valR G (f + 1) sg a m = if (objG G sg a).2 ≠ 0 then (ndZ, m, (objG G sg a).2) else if m < (objG G sg a).1.c then (ndZ, m, 8) else bodR G (valR G f) (objG G sg a).1 (m - (objG G sg a).1.c) := by rw [valR, if_neg he, if_neg hx]
  have HO : ObG G A cp sg a w (objG G sg a).1 (objG G sg a).2 := fun w' hb => Lib.hid (objG_any A cp G sg a w' (Kd.C_below hE.rd hb) hE.len hlen hE.ok a0 a1 s1)
  by_cases ho : (objG G sg a).2 ≠ 0
  ·exact val_4 A cp G D Wd O m sg a dp _ _ _ w _ _ _ HF hx (by omega) HO ho (Lib.hid (by rw [hV, if_pos ho]))
  have ho0 : (objG G sg a).2 = 0 := by omega
  have hK := obj_ok G sg a ho0 he0 hx
  rw [if_neg ho] at hV
  rw [ho0] at HO
  clear he ho ho0 he0
  generalize objG G sg a = q at *
  obtain ⟨o, _⟩ := q
  dsimp only at hV HO hK
  by_cases hc : m < o.c
  ·exact val_5 A cp G D Wd O m sg a dp _ _ _ w _ o HF hx (by omega) HO hc (Lib.hid (by rw [hV, if_pos hc]))
  rw [if_neg hc] at hV
  have hc0 := hK.c0
  unfold bodR at hV
  rcases hK.is with ⟨hk, hi, d0, d1, p0, p1⟩ | ⟨hk, e0, e6, n0, n1, hw, hi⟩ | ⟨hk, e7, n0, n1, d0, d1, p0, p1, C, hi, hC⟩
  ·rw [if_pos hk] at hV
   rw [hV]
   exact val_6 A cp G D Wd O m sg a dp _ _ _ w _ o HF hx (by omega) HO hc0 (by omega) m1 hk (fun w' hb => Lib.hid (hs A cp G D Wd O (m - o.c) dp o w' (hE.below hb) hi d0 d1 p0 p1 (by omega) (by omega) D1 dp0 hd))
  ·rw [if_neg (by omega)] at hV
   have hib := inG_bd hi hE.sgs
   by_cases he : o.e < 6
   ·rw [if_pos he] at hV
    have hsl : (sgG G o.sg).length ≤ 17592186040320 := by
     have := sg_len hE.sgs o.sg.toNat (by omega)
     rwa [show ((o.sg.toNat : Nat) : Int) = o.sg by omega] at this
    exact val_7 A cp G D Wd O m sg a dp _ _ _ w _ o (cutG G o.sg o.ad o.c) HF hx (by omega) HO hc0 (by omega) m1 hk he n0 n1 (fun w' hb => Lib.hid (slice_at A cp G o.sg o.ad o.c w' (Kd.C_below hE.rd hb) hi hE.len hE.sgs)) (cutG_len hsl) (cutG_mem hE.ok _ _ _) (by rw [hw] at hi ⊢; exact bytes_fit hi he n0) (Lib.hid hV)
   ·have he6 : o.e = 6 := by omega
    rw [if_neg he, if_pos he6] at hV
    have hwn : o.c = o.n := by rw [hw, he6]; unfold wordsE bitsE; simp; omega
    exact val_8 A cp G D Wd O m sg a dp _ _ _ w _ o (valR G f o.sg) HF hx (by omega) HO hc0 (by omega) m1 hk n0 n1 dp0 D1 he6 (by omega) (by omega) (Lib.hid (valR_sinks G f o.sg)) (fun j hj mi q0 q1 w' hb => Lib.hid (hv A cp G D Wd O mi o.sg (o.ad + j) (dp + 1) w' (hE.below hb) (by omega) (by omega) (by have := hE.len; omega) q0 (by omega) D1 (by omega) (.inl (by omega)))) (Lib.hid hV)
  ·rw [if_neg (by omega), if_neg (by omega), if_neg (by omega)] at hV
   rw [elsR_kids] at hV
   have hib := inG_bd hi hE.sgs
   refine val_9 A cp G D Wd O m sg a dp _ _ _ w _ o (fun i m => strR G (valR G f) (elG o i) m) HF hx (by omega) HO hc0 (by omega) m1 hk n0 n1 dp0 D1 e7 (Lib.hid (fun i m h => strR_sinks G (valR_sinks G f) (elG o i) m h)) (fun j hj w' => Lib.hid (el_any o j w' (by omega) (by omega) d0 d1 p0 p1 (by omega) (by omega))) (fun j hj mi q0 q1 w' hb => Lib.hid ?_) (Lib.hid hV)
   rw [Int.zero_add]
   have y0 : 0 ≤ (j : Int) * (o.d + o.p) := Int.mul_nonneg (by omega) (by omega)
   have y1 : ((j : Int) + 1) * (o.d + o.p) ≤ o.n * (o.d + o.p) := Int.mul_le_mul_of_nonneg_right (by omega) (by omega)
   rw [Int.add_mul, Int.one_mul] at y1
   exact hs A cp G D Wd O mi dp (elG o j) w' (hE.below hb) (inG_sub hi (by unfold elG; dsimp only; omega) (by unfold elG; dsimp only; omega) (by unfold elG; dsimp only; omega)) d0 d1 p0 p1 q0 (by omega) D1 dp0 hd
theorem val_any : ∀ f, ValC f
  | 0 => val_walk 0 (fun f' h => by omega)
  | f + 1 => val_walk (f + 1) (fun f' h => by
    obtain rfl : f = f' := by omega
    exact ⟨val_any f, str_walk f (val_any f)⟩)
end Go.Proofs.YtidglmocekghmaaDoor.Pr
end
section
namespace Go.Proofs.YtidglmocekghmaaDoor.Pr
set_option linter.unusedSimpArgs false
set_option linter.unusedVariables false
def Good (k : Int) (q : Tr) (m : Int) : Prop := q.2.2 = 0 → (tsize q.1 : Int) ≤ k + 9 * (m - q.2.1) ∧ wordsT q.1
theorem kidsR_good {v : Int → Int → Tr} (hs : Sinks v) (k : Int) (hv : ∀ a m, 0 ≤ m → Good k (v a m) m) : ∀ (n : Nat) (a m : Int), 0 ≤ m → (kidsR v n a m).2.2 = 0 → (tsizes (kidsR v n a m).1 : Int) ≤ n * k + 9 * (m - (kidsR v n a m).2.1) ∧ ∀ x ∈ (kidsR v n a m).1, wordsT x
 | 0, a, m, hm, h => by simp [kidsR, tsizes]
 | n + 1, a, m, hm, h => by
  revert h
  unfold kidsR
  split
  ·rename_i he
   intro h
   exact (he h).elim
  ·rename_i he
   have he : (v a m).2.2 = 0 := by omega
   intro h
   have h1 := hv a m hm he
   have h2 := kidsR_good hs k hv n (a + 1) (v a m).2.1 (hs a m hm).1 h
   have h3 : ((n + 1 : Nat) : Int) * k = n * k + k := by rw [Int.natCast_add, Int.add_mul]; simp
   dsimp only
   rw [tsizes]
   refine ⟨by rw [h3]; omega, fun x hx => ?_⟩
   rcases List.mem_cons.1 hx with rfl | hx
   ·exact h1.2
   ·exact h2.2 x hx
theorem ndZ_good (k m : Int) (e : Int) (h : 1 ≤ k) (hw : wordsT ndZ) : Good k (ndZ, m, e) m := fun _ => ⟨by rw [tsize_eq]; simp [ndZ, tsizes]; omega, hw⟩
theorem ndZ_words : wordsT ndZ := .mk (by intro h; simp [ndZ] at h) (by intro x hx; simp [ndZ] at hx)
theorem cutG_length_le (G : List (List Int)) (s a : Int) (n : Int) (h : 0 ≤ n) : ((cutG G s a n).length : Int) ≤ n := by
 unfold cutG
 rw [List.length_take]
 omega
theorem strR_good (G : List (List Int)) {v : Int → Int → Int → Tr} (hs : ∀ sg, Sinks (v sg)) (hv : ∀ sg a m, 0 ≤ m → Good 1 (v sg a m) m) (o : Ob) (m : Int) (hm : 0 ≤ m) (d0 : 0 ≤ o.d) (p0 : 0 ≤ o.p) : Good (1 + 8 * o.d + o.p) (strR G v o m) m := by
 intro h
 have hk := kidsR_good (hs o.sg) 1 (hv o.sg) o.p.toNat (o.ad + o.d) m hm
 have hc := cutG_length_le G o.sg o.ad o.d d0
 revert h
 unfold strR
 split
 ·rename_i he
  intro h
  exact (he h).elim
 ·rename_i he
  intro h
  obtain ⟨h1, h2⟩ := hk (by omega)
  refine ⟨?_, .mk (fun _ => ?_) h2⟩
  ·rw [tsize_eq, bytesL_length]
   dsimp only
   omega
  ·rw [bytesL_length]
   omega
theorem trimE_len_le (e c : Int) (b : List Int) : (trimE e c b).length ≤ b.length := by
 unfold trimE
 split
 ·rw [List.length_set, List.length_take]; omega
 ·rw [List.length_take]; omega
theorem obj_c (G : List (List Int)) (s a : Int) (h : (objG G s a).2 = 0) (he : (folM G s a).2.2.2 = 0) (hx : (folM G s a).1 ≠ 0) : ((objG G s a).1.kd = 1 → (objG G s a).1.c = (objG G s a).1.d + (objG G s a).1.p) ∧ ((objG G s a).1.kd = 2 → (objG G s a).1.e = 7 → (objG G s a).1.n * ((objG G s a).1.d + (objG G s a).1.p) ≤ (objG G s a).1.c ∧ ((objG G s a).1.d + (objG G s a).1.p = 0 → (objG G s a).1.n ≤ (objG G s a).1.c)) := by
 revert h
 unfold objG
 rw [if_neg (by simpa using he), if_neg hx]
 generalize folM G s a = q
 obtain ⟨x, sg, ba, er⟩ := q
 dsimp only
 have q1 := pD_bd x
 have q2 := pP_bd x
 have q3 := pE_bd x
 have q4 := pC_bd x
 unfold desM
 split
 ·split
  ·intro h; cases h
  ·intro h; cases h
 split
 ·split
  ·rename_i hi
   intro _
   exact ⟨fun _ => rfl, fun h => by simp at h⟩
  ·intro h; cases h
 split
 ·intro h; cases h
 rename_i hi
 have hi : inG G sg (ba + pO x) (wordsE (pE x) (pC x)) = true := by
  cases hh : inG G sg (ba + pO x) (wordsE (pE x) (pC x)) with
  | true => rfl
  | false => exact (hi hh).elim
 split
 ·intro _
  exact ⟨fun h => by simp at h, fun _ h7 => by dsimp only at h7; omega⟩
 rename_i he7
 have he7 : pE x = 7 := by omega
 have hw : wordsE (pE x) (pC x) = pC x + 1 := by rw [he7]; rfl
 have t1 := pO_bd (wdG G sg (ba + pO x))
 have t2 := pD_bd (wdG G sg (ba + pO x))
 have t3 := pP_bd (wdG G sg (ba + pO x))
 generalize wdG G sg (ba + pO x) = t at *
 rw [hw] at hi ⊢
 unfold tagM
 split
 ·intro h; cases h
 split
 ·intro h; cases h
 split
 ·intro h; cases h
 rename_i h1 h2 h3
 have hC := inG_sub (b := ba + pO x + 1) (k := pC x) hi (by omega) q4.1 (by omega)
 split
 all_goals
  intro _
  exact ⟨fun h => by simp at h, fun _ _ => ⟨by dsimp only; omega, fun hz => by dsimp only at hz ⊢; omega⟩⟩
theorem valR_good (G : List (List Int)) : ∀ f sg a m, 0 ≤ m → Good 1 (valR G f sg a m) m
 | f, sg, a, m => by
  intro hm
  induction f generalizing sg a m with
  | zero =>
   rw [valR]
   split
   ·exact ndZ_good _ _ _ (by omega) ndZ_words
   split
   ·exact ndZ_good _ _ _ (by omega) ndZ_words
   ·exact ndZ_good _ _ _ (by omega) ndZ_words
  | succ f ih =>
   rw [valR]
   split
   ·exact ndZ_good _ _ _ (by omega) ndZ_words
   rename_i he
   split
   ·exact ndZ_good _ _ _ (by omega) ndZ_words
   rename_i hx
   split
   ·exact ndZ_good _ _ _ (by omega) ndZ_words
   rename_i ho
   have hK := obj_ok G sg a (by omega) (by omega) hx
   have hC := obj_c G sg a (by omega) (by omega) hx
   generalize objG G sg a = q at *
   obtain ⟨o, _⟩ := q
   dsimp only at hK hC ⊢
   split
   ·exact ndZ_good _ _ _ (by omega) ndZ_words
   have hs := valR_sinks G f
   have hst := fun (o : Ob) m => strR_good G hs (fun sg a m hm => ih sg a m hm) o m
   have hc0 := hK.c0
   have hm1 : 0 ≤ m - o.c := by omega
   unfold bodR
   rcases hK.is with ⟨hk, hi, d0, d1, p0, p1⟩ | ⟨hk, e0, e6, n0, n1, hw, hi⟩ | ⟨hk, e7, n0, n1, d0, d1, p0, p1, C, hi, hCC⟩
   ·rw [if_pos hk]
    intro h
    have := hst o (m - o.c) hm1 d0 p0 h
    have hcc := hC.1 hk
    exact ⟨by omega, this.2⟩
   ·rw [if_neg (by omega)]
    by_cases he6 : o.e < 6
    ·rw [if_pos he6]
     intro _
     have h1 := trimE_len_le o.e o.n (bytesL (cutG G o.sg o.ad o.c))
     rw [bytesL_length] at h1
     have h2 := cutG_length_le G o.sg o.ad o.c hc0
     refine ⟨?_, .mk (fun h => by simp at h) (fun x hx => by simp at hx)⟩
     rw [tsize_eq]
     dsimp only
     rw [tsizes]
     omega
    ·have he6 : o.e = 6 := by omega
     rw [if_neg (by omega), if_pos he6]
     have hwn : o.c = o.n := by rw [hw, he6]; unfold wordsE bitsE; simp; omega
     have hk := kidsR_good (hs o.sg) 1 (fun a m hm => ih o.sg a m hm) o.n.toNat o.ad (m - o.c) hm1
     split
     ·rename_i hh
      intro h
      exact (hh h).elim
     ·rename_i hh
      intro _
      obtain ⟨h1, h2⟩ := hk (by omega)
      refine ⟨?_, .mk (fun h => by simp at h) h2⟩
      rw [tsize_eq]
      dsimp only [List.length_nil]
      omega
   ·rw [if_neg (by omega), if_neg (by omega), if_neg (by omega), elsR_kids]
    have hkk := kidsR_good (v := fun i m => strR G (valR G f) (elG o i) m) (fun i m h => strR_sinks G hs (elG o i) m h) (1 + 8 * o.d + o.p) (fun i m hm => hst (elG o i) m hm d0 p0) o.n.toNat 0 (m - o.c) hm1
    split
    ·rename_i hh
     intro h
     exact (hh h).elim
    ·rename_i hh
     intro _
     obtain ⟨h1, h2⟩ := hkk (by omega)
     refine ⟨?_, .mk (fun h => by simp at h) h2⟩
     rw [tsize_eq]
     dsimp only [List.length_nil]
     obtain ⟨c1, c2⟩ := hC.2 hk e7
     rw [show ((o.n.toNat : Nat) : Int) = o.n by omega] at h1
     have y : o.n * (1 + 8 * o.d + o.p) ≤ 9 * o.c := by
      by_cases hz : o.d + o.p = 0
      ·have := c2 hz
       rw [show 1 + 8 * o.d + o.p = 1 by omega]
       omega
      ·have y1 : o.n * (1 + 8 * o.d + o.p) ≤ o.n * (9 * (o.d + o.p)) := Int.mul_le_mul_of_nonneg_left (by omega) n0
       rw [Int.mul_left_comm] at y1
       omega
     generalize o.n * (1 + 8 * o.d + o.p) = z at *
     omega
end Go.Proofs.YtidglmocekghmaaDoor.Pr
end
section
namespace Go.Proofs.YtidglmocekghmaaDoor.Pr
open Go.RowKit Go.Proofs.YtidglmocekghmaaDoorW.PrintWords Go.Proofs.YtidglmocekghmaaDoorW.PrintLast Go.Proofs.YtidglmocekghmaaDoorW.PrintMore
set_option linter.unusedVariables false
set_option linter.unusedSimpArgs false
def visI : Option Nat → Int
 | none => -1
 | some r => r
abbrev AtS (w : World) (ad : Addr) (i : Nat) (x : Int) : Prop := w.cell? (ad.add i) = some (.int .u64 x)
end Go.Proofs.YtidglmocekghmaaDoor.Pr
end
section
namespace Go.Proofs.YtidglmocekghmaaDoor.Pr
set_option linter.unusedSimpArgs false
open Go.RowKit Go.Proofs.YtidglmocekghmaaDoorW.PrintWords Go.Proofs.YtidglmocekghmaaDoorW.PrintLast Go.Proofs.YtidglmocekghmaaDoorW.PrintMore
set_option linter.unusedVariables false
section
variable {P : Program} {ops : Array Oper} {rest : List Oper} {o : Oper} {a : Act} {Q : Exit → Act → World → Prop} {w0 W : World} {L : List Asr}
def isBs (o : Oper) : Bool := match o.op with
 | .buildSlice _ _ _ => true
 | _ => false
def BsAt (P : Program) (W : World) (o : Oper) (a : Act) (cs : Array Value) (t k : Nat) (f : Nat → Act) : Prop :=
 (execOp a.eval o).run P W = .ok (.value (.slice (some ⟨W.heap.size, 0, none⟩) k k)) (W.alloc (.cells cs t (0, 0))) ∧ ∀ g, a.put o.dst (.slice (some ⟨g, 0, none⟩) k k) = f g
theorem sb (S : Sep w0 W L) {cs : Array Value} {t k : Nat} {f : Nat → Act} (h : ∀ g w1, Sep w0 w1 (.box g cs t :: L) → wpList P ops Q rest (f g) w1) (_ : isBs o = true := by rfl) (hg : o.guard = none := by rfl)
    (k : BsAt P W o a cs t k f := by
      refine ⟨?_, fun g => ?_⟩
      · first | (go_simp; done) | (go_simp; rfl)
      · simp only [Act.put, List.setIfInBounds_toArray, List.set_cons_zero, List.set_cons_succ]; rfl) : wpList P ops Q (o :: rest) a W := by
  obtain ⟨hr, hf⟩ := k
  refine Kd.event_run hg hr ?_
  rw [hf]
  exact h _ _ (S.new cs t)
end
theorem C_sl1 {w : World} {g e cp : Nat} {A : Option Addr} {s : List Int} (hb : w.heap[g]? = some (.cells #[.slice A s.length cp] e (0, 0))) (hc : s.length ≤ cp) (h : (Kd.int .u64).C w A s.length s) : (Kd.slice 32 (Kd.int .u64)).C w (some ⟨g, 0, none⟩) 1 [s] := by
 refine ⟨rfl, by simp, fun hn => ⟨_, rfl, fun j p hj => ?_⟩⟩
 have hj0 : j = 0 := by
  have := (List.getElem?_eq_some_iff.1 hj).1
  simpa using this
 subst hj0
 obtain rfl : s = p := by simpa using hj
 refine ⟨[.slice A s.length cp], rfl, ⟨A, cp, rfl, hc, h⟩, fun i u hu => ?_⟩
 match i with
 | 0 =>
  obtain rfl : Value.slice A s.length cp = u := by simpa using hu
  rw [add_zero_at, blk_cell hb]
  simp
 | i + 1 => simp at hu
end Go.Proofs.YtidglmocekghmaaDoor.Pr
end
section
namespace Go.Proofs.YtidglmocekghmaaDoor.Pr
open Go.RowKit Go.Proofs.YtidglmocekghmaaDoorW.PrintWords Go.Proofs.YtidglmocekghmaaDoorW.PrintLast Go.Proofs.YtidglmocekghmaaDoorW.PrintMore
set_option linter.unusedVariables false
set_option linter.unusedSimpArgs false
def tb (T : List Int) (i : Nat) : Int := if i < T.length then wd T i else 0
end Go.Proofs.YtidglmocekghmaaDoor.Pr
end
section
namespace Go.Proofs.YtidglmocekghmaaDoor.Pr
open Go.RowKit Go.Proofs.YtidglmocekghmaaDoorW.PrintWords Go.Proofs.YtidglmocekghmaaDoorW.PrintLast Go.Proofs.YtidglmocekghmaaDoorW.PrintMore
set_option linter.unusedVariables false
set_option linter.unusedSimpArgs false
def msgR (G : List (List Int)) (D Wd : Int) : S37 × Int :=
 if G.length ≠ 0 ∧ (sgG G 0).length = 0 then (ndZ, 0)
 else if (valR G D.toNat 0 0 (startM Wd)).2.2 ≠ 0 then (ndZ, (valR G D.toNat 0 0 (startM Wd)).2.2)
 else (ttrim (valR G D.toNat 0 0 (startM Wd)).1, 0)
theorem jn {P : Program} {Q : Exit → Act → World → Prop} {c : Code} {a : Act} {w : World} {σ : Type} (F : σ → World → Prop) (ns : σ → List (Tmp × Value)) (h1 : ∀ s w', F s w' → Q .normal (putAll a (ns s)) w') (h2 : (∀ s w', F s w' → Q .normal (putAll a (ns s)) w') → c.wp P Q a w) : c.wp P Q a w := h2 h1
theorem trim_opn (a : S37) (hw : wordsT a) (hs : tsize a ≤ 1000000000000) (w : World) {A3 A4 : Option Addr} {c3 c4 : Nat} (h : k37.K w a [.int .i64 a.f0, .int .i64 a.f1, .int .i64 a.f2, .slice A3 a.f3.length c3, .slice A4 a.f4.length c4]) :
  Calls Tryd.prog 29 #[.agg #[.int .i64 a.f0, .int .i64 a.f1, .int .i64 a.f2, .slice A3 a.f3.length c3, .slice A4 a.f4.length c4]] w fun r w' => ∃ B3 d3 B4 d4, r = .returned (.agg #[.int .i64 (ttrim a).f0, .int .i64 (ttrim a).f1, .int .i64 (ttrim a).f2, .slice B3 (ttrim a).f3.length d3, .slice B4 (ttrim a).f4.length d4]) ∧ k37.M w' w.heap.size (fun _ => True) (ttrim a) [.int .i64 (ttrim a).f0, .int .i64 (ttrim a).f1, .int .i64 (ttrim a).f2, .slice B3 (ttrim a).f3.length d3, .slice B4 (ttrim a).f4.length d4] ∧ Below w.heap.size w w' := by
 refine (trim_any a hw hs w h).mono ?_
 rintro r w' ⟨v3, v4, rfl, hM, hb⟩
 obtain ⟨B3, d3, B4, d4, e, _⟩ := k37_open (k37.K_of_M hM)
 simp only [List.cons.injEq, true_and, and_true] at e
 obtain ⟨rfl, rfl⟩ := e
 exact ⟨B3, d3, B4, d4, rfl, hM, hb⟩
def MsV (w : World) (q : S37 × Int) (r : Ending) (w' : World) : Prop := ∃ v3 v4, r = .returned (.tuple #[.agg #[.int .i64 q.1.f0, .int .i64 q.1.f1, .int .i64 q.1.f2, v3, v4], .int .i64 q.2]) ∧ k37.M w' w.heap.size (fun _ => True) q.1 [.int .i64 q.1.f0, .int .i64 q.1.f1, .int .i64 q.1.f2, v3, v4] ∧ Below w.heap.size w w'
set_option maxRecDepth 100000 in
set_option maxHeartbeats 4000000 in
theorem msg_any (A : Option Addr) (cp : Nat) (G : List (List Int)) (D Wd O : Int) (w : World) (hE : EnvG w A G) (hD : D ≤ 40) (hW : Wd ≤ 2000) :
    Calls Tryd.prog 16 #[.slice A G.length cp, limV D Wd O] w (MsV w (msgR G D Wd)) := by
  have hs0 : 0 ≤ startM Wd ∧ startM Wd ≤ 2000 := by unfold startM; split <;> omega
  have HV := fun w' (hb : Below w.heap.size w w') => Lib.hid (val_any D.toNat A cp G D Wd O (startM Wd) 0 0 1 w' (hE.below hb) (by omega) (by omega) (by omega) hs0.1 (by omega) (by omega) (by omega) (by omega))
  have HG := Lib.hid (valR_good G D.toNat 0 0 (startM Wd) hs0.1)
  have HN := Lib.hid (valR_sinks G D.toNat 0 0 (startM Wd) hs0.1)
  have HS := fun w' => Lib.hid (start_any D Wd O w')
  have HR := Lib.hid (msgR.eq_1 G D Wd)
  have HX : Hid (∀ i : Nat, i < G.length → ∃ ad A0 c0, A = some ad ∧ w.cell? (ad.add i) = some (.slice A0 (sgG G i).length c0)) := Lib.hid (fun i hi => by
    obtain ⟨ad, A0, c0, h1, h2, _⟩ := at_G hE.rd i hi
    exact ⟨ad, A0, c0, h1, h2⟩)
  have hlen := hE.len
  have S := Sep.start w
  clear hE hD hW
  generalize msgR G D Wd = r at *
  generalize valR G D.toNat 0 0 (startM Wd) = q at *
  obtain ⟨⟨f0, f1, f2, f3, f4⟩, m', e'⟩ := q
  dsimp only at HR HG HN
  generalize startM Wd = m at *
  by_cases h0 : G.length ≠ 0 ∧ (sgG G 0).length = 0
  · replace HR := Lib.hid (HR.out.trans (if_pos h0))
    obtain ⟨ad, A0, c0, rfl, hv⟩ := HX.out 0 (by omega)
    have h1 : 0 < G.length := by omega
    rw [show sgG G ((0 : Nat) : Int) = sgG G 0 from rfl, h0.2] at hv
    have h2 : ((G.length : Int) > 0) := by omega
    have hv0 : ad.add 0 = ad := rfl
    rw [hv0] at hv
    clear h0 hv0
    go_enter Tryd.func16, Tryd.ntmps16
    go_wp2_with (first | go_skip | ((with_reducible refine wl ?_); first | refine sn S (fun g w1 S => ?_) | refine ss S (fun w1 S => ?_) | refine sl S ?_ | refine sa S ?_ | refine sx S hv ?_))
    have S1 := ((S.nil k37 37).nil (Kd.int .u8) 5).node (f0 := 0) (f1 := 0) (f2 := 0)
    have HR := HR.out
    subst HR
    exact rt S ⟨_, _, rfl, S1.out .here, S.below⟩
  replace HR := Lib.hid (HR.out.trans (if_neg h0))
  replace HS := HS
  by_cases h1 : G.length = 0
  · obtain rfl : G = [] := List.eq_nil_of_length_eq_zero h1
    clear h0 h1
    go_enter Tryd.func16, Tryd.ntmps16
    go_wp2_with (first | go_skip | ((with_reducible refine wl ?_); first | (refine sn S (fun g w1 S => ?_); first | ((fail_if_success (have := g3)); revert g; intro g3 S) | ((fail_if_success (have := g4)); revert g; intro g4 S)) | refine ss S (fun w1 S => ?_) | refine sl S ?_ | refine sa S ?_ ))
    refine jn (fun (s : Nat × Nat × Option Addr × Nat × Option Addr × Nat) w' => Sep w w' [.made k37 ⟨f0, f1, f2, f3, f4⟩ [.int .i64 f0, .int .i64 f1, .int .i64 f2, .slice s.2.2.1 f3.length s.2.2.2.1, .slice s.2.2.2.2.1 f4.length s.2.2.2.2.2], .box s.2.1 #[.int .i64 m'] 52, .box s.1 [.int .i64 f0, .int .i64 f1, .int .i64 f2, .slice s.2.2.1 f3.length s.2.2.2.1, .slice s.2.2.2.2.1 f4.length s.2.2.2.2.2].toArray 37, .box g4 #[.int .i64 0, .int .i64 0, .int .i64 0, .slice none 0 0, .slice none 0 0] 37, .box g3 #[.int .i64 D, .int .i64 Wd, .int .i64 O] 24]) (fun s => [(21, .slice A ([] : List (List Int)).length cp), (22, limV D Wd O), (23, limV D Wd O), (24, .agg #[.int .i64 m]), (25, .tuple #[.agg #[.int .i64 f0, .int .i64 f1, .int .i64 f2, .slice s.2.2.1 f3.length s.2.2.2.1, .slice s.2.2.2.2.1 f4.length s.2.2.2.2.2], .agg #[.int .i64 m'], .int .i64 e']), (20, .tuple #[.agg #[.int .i64 f0, .int .i64 f1, .int .i64 f2, .slice s.2.2.1 f3.length s.2.2.2.1, .slice s.2.2.2.2.1 f4.length s.2.2.2.2.2], .agg #[.int .i64 m'], .int .i64 e']), (26, .agg #[.int .i64 f0, .int .i64 f1, .int .i64 f2, .slice s.2.2.1 f3.length s.2.2.2.1, .slice s.2.2.2.2.1 f4.length s.2.2.2.2.2]), (27, .agg #[.int .i64 m']), (28, .int .i64 e'), (6, .pointer (some ⟨s.1, 0, none⟩)), (7, .pointer (some ⟨s.2.1, 0, none⟩)), (8, .int .i64 e')]) (fun s w' S => ?_) (fun hJ => ?_)
    · obtain ⟨g6, g7, B3, d3, B4, d4⟩ := s
      dsimp only at S
      simp only [putAll, Act.put, List.setIfInBounds_toArray, List.set_cons_zero, List.set_cons_succ]
      by_cases he : e' ≠ 0
      · replace HR := Lib.hid (HR.out.trans (if_pos he))
        have t1 : (e' != 0) = true := bne_iff_ne.2 he
        clear he HG HN
        go_wp2_with (first | go_skip | ((with_reducible refine wl ?_); first | refine sn S (fun g w1 S => ?_) | refine ss S (fun w1 S => ?_) | refine sl S ?_ | refine sa S ?_))
        have S1 := ((S.nil k37 37).nil (Kd.int .u8) 5).node (f0 := 0) (f1 := 0) (f2 := 0)
        have HR := HR.out
        subst HR
        exact rt S ⟨_, _, rfl, S1.out .here, S.below⟩
      · replace HR := Lib.hid (HR.out.trans (if_neg he))
        obtain rfl : e' = 0 := by omega
        obtain ⟨hg1, hg2⟩ := HG.out rfl
        have HT := fun w' (h : k37.K w' ⟨f0, f1, f2, f3, f4⟩ [.int .i64 f0, .int .i64 f1, .int .i64 f2, .slice B3 f3.length d3, .slice B4 f4.length d4]) => Lib.hid (trim_opn ⟨f0, f1, f2, f3, f4⟩ hg2 (by have := HN.out; dsimp only at hg1; omega) w' h)
        clear hg1 hg2 HG HN he
        generalize ttrim ⟨f0, f1, f2, f3, f4⟩ = z at *
        obtain ⟨z0, z1, z2, z3, z4⟩ := z
        dsimp only at HT
        go_wp2_with (first | go_skip | ((with_reducible refine wl ?_); first | refine sn S (fun g w1 S => ?_) | refine ss S (fun w1 S => ?_) | refine sl S ?_ | refine sa S ?_) | ((with_reducible refine (HT _ (k37.K_of_M (S.out .here))).out.mono ?_); rintro r' w' ⟨C3, d5, C4, d6, rfl, hM, hb⟩; replace S := S.push (a := .made k37 _ _) hb hM))
        have HR := HR.out
        subst HR
        exact rt S ⟨_, _, rfl, S.out .here, S.below⟩
    refine rs [1] S (fun w1 S => ?_)
    refine pu 0 21 ?_
    refine lt 1 S ?_
    refine lt 2 S ?_
    refine rdo [3, 9, 10] (by simp) (List.forall_mem_cons.2 ⟨?_, List.forall_mem_cons.2 ⟨?_, List.forall_mem_cons.2 ⟨?_, List.forall_mem_nil _⟩⟩⟩)
    · refine rc 24 Tryd.func28 (HS _).out (fun r' w2 hT => ?_)
      obtain ⟨rfl, hb⟩ := hT
      replace S := S.call hb
      refine ⟨_, rfl, S.kpq 0, _, rfl, ?_⟩
      simp only [Act.put, List.setIfInBounds_toArray, List.set_cons_zero, List.set_cons_succ]
      refine rdo [4, 9, 10] (by simp) (List.forall_mem_cons.2 ⟨?_, List.forall_mem_cons.2 ⟨?_, List.forall_mem_cons.2 ⟨?_, List.forall_mem_nil _⟩⟩⟩)
      · refine rc 25 Tryd.func27 (HV _ S.below).out (fun r' w2 hT => ?_)
        obtain ⟨B3, d3, B4, d4, rfl, hM, hb⟩ := TrV.openV hT
        replace S := S.push (a := .made k37 _ _) hb hM
        dsimp only at S
        refine ⟨_, rfl, S.kpq 1, _, rfl, ?_⟩
        simp only [Act.put, List.setIfInBounds_toArray, List.set_cons_zero, List.set_cons_succ]
        refine pu 5 20 ?_
        refine pu 6 26 ?_
        refine pu 7 27 ?_
        refine pu 8 28 ?_
        refine rdo [9, 10] (by simp) (List.forall_mem_cons.2 ⟨?_, List.forall_mem_cons.2 ⟨?_, List.forall_mem_nil _⟩⟩)
        · refine rn 6 S (fun g6 w2 S => ⟨S.kpq 2, ?_⟩)
          refine rdo [10] (by simp) (List.forall_mem_cons.2 ⟨?_, List.forall_mem_nil _⟩)
          · refine rn 7 S (fun g7 w2 S => ⟨S.kpq 3, ?_⟩)
            refine lsd 11 3 S (fun w2 S => ?_)
            refine lsd 12 3 S (fun w2 S => ?_)
            refine pu 13 8 ?_
            refine dn ?_
            replace S := S.pick 1 rfl rfl
            replace S := S.pick 1 rfl rfl
            replace S := S.pick 2 rfl rfl
            have hj := hJ (g6, g7, B3, d3, B4, d4) _ S
            simp only [putAll, Act.put, List.setIfInBounds_toArray, List.set_cons_zero, List.set_cons_succ] at hj
            exact hj
        · refine rn 7 S (fun g7 w2 S => ⟨S.kpq 2, ?_⟩)
          refine rdo [9] (by simp) (List.forall_mem_cons.2 ⟨?_, List.forall_mem_nil _⟩)
          · refine rn 6 S (fun g6 w2 S => ⟨S.kpq 3, ?_⟩)
            refine lsd 11 3 S (fun w2 S => ?_)
            refine lsd 12 3 S (fun w2 S => ?_)
            refine pu 13 8 ?_
            refine dn ?_
            replace S := S.pick 0 rfl rfl
            replace S := S.pick 1 rfl rfl
            replace S := S.pick 2 rfl rfl
            have hj := hJ (g6, g7, B3, d3, B4, d4) _ S
            simp only [putAll, Act.put, List.setIfInBounds_toArray, List.set_cons_zero, List.set_cons_succ] at hj
            exact hj
      · refine rn 6 S (fun g6 w2 S => ⟨S.kpq 1, ?_⟩)
        refine rdo [4, 10] (by simp) (List.forall_mem_cons.2 ⟨?_, List.forall_mem_cons.2 ⟨?_, List.forall_mem_nil _⟩⟩)
        · refine rc 25 Tryd.func27 (HV _ S.below).out (fun r' w2 hT => ?_)
          obtain ⟨B3, d3, B4, d4, rfl, hM, hb⟩ := TrV.openV hT
          replace S := S.push (a := .made k37 _ _) hb hM
          dsimp only at S
          refine ⟨_, rfl, S.kpq 2, _, rfl, ?_⟩
          simp only [Act.put, List.setIfInBounds_toArray, List.set_cons_zero, List.set_cons_succ]
          refine pu 5 20 ?_
          refine pu 6 26 ?_
          refine pu 7 27 ?_
          refine pu 8 28 ?_
          refine rdo [10] (by simp) (List.forall_mem_cons.2 ⟨?_, List.forall_mem_nil _⟩)
          · refine rn 7 S (fun g7 w2 S => ⟨S.kpq 3, ?_⟩)
            refine lsd 11 3 S (fun w2 S => ?_)
            refine lsd 12 3 S (fun w2 S => ?_)
            refine pu 13 8 ?_
            refine dn ?_
            replace S := S.pick 2 rfl rfl
            replace S := S.pick 1 rfl rfl
            replace S := S.pick 2 rfl rfl
            have hj := hJ (g6, g7, B3, d3, B4, d4) _ S
            simp only [putAll, Act.put, List.setIfInBounds_toArray, List.set_cons_zero, List.set_cons_succ] at hj
            exact hj
        · refine rn 7 S (fun g7 w2 S => ⟨S.kpq 2, ?_⟩)
          refine rdo [4] (by simp) (List.forall_mem_cons.2 ⟨?_, List.forall_mem_nil _⟩)
          · refine rc 25 Tryd.func27 (HV _ S.below).out (fun r' w2 hT => ?_)
            obtain ⟨B3, d3, B4, d4, rfl, hM, hb⟩ := TrV.openV hT
            replace S := S.push (a := .made k37 _ _) hb hM
            dsimp only at S
            refine ⟨_, rfl, S.kpq 3, _, rfl, ?_⟩
            simp only [Act.put, List.setIfInBounds_toArray, List.set_cons_zero, List.set_cons_succ]
            refine pu 5 20 ?_
            refine pu 6 26 ?_
            refine pu 7 27 ?_
            refine pu 8 28 ?_
            refine lsd 11 3 S (fun w2 S => ?_)
            refine lsd 12 3 S (fun w2 S => ?_)
            refine pu 13 8 ?_
            refine dn ?_
            replace S := S.pick 2 rfl rfl
            replace S := S.pick 2 rfl rfl
            replace S := S.pick 2 rfl rfl
            have hj := hJ (g6, g7, B3, d3, B4, d4) _ S
            simp only [putAll, Act.put, List.setIfInBounds_toArray, List.set_cons_zero, List.set_cons_succ] at hj
            exact hj
      · refine rn 7 S (fun g7 w2 S => ⟨S.kpq 1, ?_⟩)
        refine rdo [4, 9] (by simp) (List.forall_mem_cons.2 ⟨?_, List.forall_mem_cons.2 ⟨?_, List.forall_mem_nil _⟩⟩)
        · refine rc 25 Tryd.func27 (HV _ S.below).out (fun r' w2 hT => ?_)
          obtain ⟨B3, d3, B4, d4, rfl, hM, hb⟩ := TrV.openV hT
          replace S := S.push (a := .made k37 _ _) hb hM
          dsimp only at S
          refine ⟨_, rfl, S.kpq 2, _, rfl, ?_⟩
          simp only [Act.put, List.setIfInBounds_toArray, List.set_cons_zero, List.set_cons_succ]
          refine pu 5 20 ?_
          refine pu 6 26 ?_
          refine pu 7 27 ?_
          refine pu 8 28 ?_
          refine rdo [9] (by simp) (List.forall_mem_cons.2 ⟨?_, List.forall_mem_nil _⟩)
          · refine rn 6 S (fun g6 w2 S => ⟨S.kpq 3, ?_⟩)
            refine lsd 11 3 S (fun w2 S => ?_)
            refine lsd 12 3 S (fun w2 S => ?_)
            refine pu 13 8 ?_
            refine dn ?_
            replace S := S.pick 0 rfl rfl
            replace S := S.pick 2 rfl rfl
            replace S := S.pick 2 rfl rfl
            have hj := hJ (g6, g7, B3, d3, B4, d4) _ S
            simp only [putAll, Act.put, List.setIfInBounds_toArray, List.set_cons_zero, List.set_cons_succ] at hj
            exact hj
        · refine rn 6 S (fun g6 w2 S => ⟨S.kpq 2, ?_⟩)
          refine rdo [4] (by simp) (List.forall_mem_cons.2 ⟨?_, List.forall_mem_nil _⟩)
          · refine rc 25 Tryd.func27 (HV _ S.below).out (fun r' w2 hT => ?_)
            obtain ⟨B3, d3, B4, d4, rfl, hM, hb⟩ := TrV.openV hT
            replace S := S.push (a := .made k37 _ _) hb hM
            dsimp only at S
            refine ⟨_, rfl, S.kpq 3, _, rfl, ?_⟩
            simp only [Act.put, List.setIfInBounds_toArray, List.set_cons_zero, List.set_cons_succ]
            refine pu 5 20 ?_
            refine pu 6 26 ?_
            refine pu 7 27 ?_
            refine pu 8 28 ?_
            refine lsd 11 3 S (fun w2 S => ?_)
            refine lsd 12 3 S (fun w2 S => ?_)
            refine pu 13 8 ?_
            refine dn ?_
            replace S := S.pick 1 rfl rfl
            replace S := S.pick 2 rfl rfl
            replace S := S.pick 2 rfl rfl
            have hj := hJ (g6, g7, B3, d3, B4, d4) _ S
            simp only [putAll, Act.put, List.setIfInBounds_toArray, List.set_cons_zero, List.set_cons_succ] at hj
            exact hj
    · refine rn 6 S (fun g6 w2 S => ⟨S.kpq 1, ?_⟩)
      refine rdo [3, 10] (by simp) (List.forall_mem_cons.2 ⟨?_, List.forall_mem_cons.2 ⟨?_, List.forall_mem_nil _⟩⟩)
      · refine rc 24 Tryd.func28 (HS _).out (fun r' w2 hT => ?_)
        obtain ⟨rfl, hb⟩ := hT
        replace S := S.call hb
        refine ⟨_, rfl, S.kpq 1, _, rfl, ?_⟩
        simp only [Act.put, List.setIfInBounds_toArray, List.set_cons_zero, List.set_cons_succ]
        refine rdo [4, 10] (by simp) (List.forall_mem_cons.2 ⟨?_, List.forall_mem_cons.2 ⟨?_, List.forall_mem_nil _⟩⟩)
        · refine rc 25 Tryd.func27 (HV _ S.below).out (fun r' w2 hT => ?_)
          obtain ⟨B3, d3, B4, d4, rfl, hM, hb⟩ := TrV.openV hT
          replace S := S.push (a := .made k37 _ _) hb hM
          dsimp only at S
          refine ⟨_, rfl, S.kpq 2, _, rfl, ?_⟩
          simp only [Act.put, List.setIfInBounds_toArray, List.set_cons_zero, List.set_cons_succ]
          refine pu 5 20 ?_
          refine pu 6 26 ?_
          refine pu 7 27 ?_
          refine pu 8 28 ?_
          refine rdo [10] (by simp) (List.forall_mem_cons.2 ⟨?_, List.forall_mem_nil _⟩)
          · refine rn 7 S (fun g7 w2 S => ⟨S.kpq 3, ?_⟩)
            refine lsd 11 3 S (fun w2 S => ?_)
            refine lsd 12 3 S (fun w2 S => ?_)
            refine pu 13 8 ?_
            refine dn ?_
            replace S := S.pick 2 rfl rfl
            replace S := S.pick 1 rfl rfl
            replace S := S.pick 2 rfl rfl
            have hj := hJ (g6, g7, B3, d3, B4, d4) _ S
            simp only [putAll, Act.put, List.setIfInBounds_toArray, List.set_cons_zero, List.set_cons_succ] at hj
            exact hj
        · refine rn 7 S (fun g7 w2 S => ⟨S.kpq 2, ?_⟩)
          refine rdo [4] (by simp) (List.forall_mem_cons.2 ⟨?_, List.forall_mem_nil _⟩)
          · refine rc 25 Tryd.func27 (HV _ S.below).out (fun r' w2 hT => ?_)
            obtain ⟨B3, d3, B4, d4, rfl, hM, hb⟩ := TrV.openV hT
            replace S := S.push (a := .made k37 _ _) hb hM
            dsimp only at S
            refine ⟨_, rfl, S.kpq 3, _, rfl, ?_⟩
            simp only [Act.put, List.setIfInBounds_toArray, List.set_cons_zero, List.set_cons_succ]
            refine pu 5 20 ?_
            refine pu 6 26 ?_
            refine pu 7 27 ?_
            refine pu 8 28 ?_
            refine lsd 11 3 S (fun w2 S => ?_)
            refine lsd 12 3 S (fun w2 S => ?_)
            refine pu 13 8 ?_
            refine dn ?_
            replace S := S.pick 2 rfl rfl
            replace S := S.pick 2 rfl rfl
            replace S := S.pick 2 rfl rfl
            have hj := hJ (g6, g7, B3, d3, B4, d4) _ S
            simp only [putAll, Act.put, List.setIfInBounds_toArray, List.set_cons_zero, List.set_cons_succ] at hj
            exact hj
      · refine rn 7 S (fun g7 w2 S => ⟨S.kpq 2, ?_⟩)
        refine rdo [3] (by simp) (List.forall_mem_cons.2 ⟨?_, List.forall_mem_nil _⟩)
        · refine rc 24 Tryd.func28 (HS _).out (fun r' w2 hT => ?_)
          obtain ⟨rfl, hb⟩ := hT
          replace S := S.call hb
          refine ⟨_, rfl, S.kpq 2, _, rfl, ?_⟩
          simp only [Act.put, List.setIfInBounds_toArray, List.set_cons_zero, List.set_cons_succ]
          refine rdo [4] (by simp) (List.forall_mem_cons.2 ⟨?_, List.forall_mem_nil _⟩)
          · refine rc 25 Tryd.func27 (HV _ S.below).out (fun r' w2 hT => ?_)
            obtain ⟨B3, d3, B4, d4, rfl, hM, hb⟩ := TrV.openV hT
            replace S := S.push (a := .made k37 _ _) hb hM
            dsimp only at S
            refine ⟨_, rfl, S.kpq 3, _, rfl, ?_⟩
            simp only [Act.put, List.setIfInBounds_toArray, List.set_cons_zero, List.set_cons_succ]
            refine pu 5 20 ?_
            refine pu 6 26 ?_
            refine pu 7 27 ?_
            refine pu 8 28 ?_
            refine lsd 11 3 S (fun w2 S => ?_)
            refine lsd 12 3 S (fun w2 S => ?_)
            refine pu 13 8 ?_
            refine dn ?_
            replace S := S.pick 2 rfl rfl
            replace S := S.pick 2 rfl rfl
            replace S := S.pick 2 rfl rfl
            have hj := hJ (g6, g7, B3, d3, B4, d4) _ S
            simp only [putAll, Act.put, List.setIfInBounds_toArray, List.set_cons_zero, List.set_cons_succ] at hj
            exact hj
    · refine rn 7 S (fun g7 w2 S => ⟨S.kpq 1, ?_⟩)
      refine rdo [3, 9] (by simp) (List.forall_mem_cons.2 ⟨?_, List.forall_mem_cons.2 ⟨?_, List.forall_mem_nil _⟩⟩)
      · refine rc 24 Tryd.func28 (HS _).out (fun r' w2 hT => ?_)
        obtain ⟨rfl, hb⟩ := hT
        replace S := S.call hb
        refine ⟨_, rfl, S.kpq 1, _, rfl, ?_⟩
        simp only [Act.put, List.setIfInBounds_toArray, List.set_cons_zero, List.set_cons_succ]
        refine rdo [4, 9] (by simp) (List.forall_mem_cons.2 ⟨?_, List.forall_mem_cons.2 ⟨?_, List.forall_mem_nil _⟩⟩)
        · refine rc 25 Tryd.func27 (HV _ S.below).out (fun r' w2 hT => ?_)
          obtain ⟨B3, d3, B4, d4, rfl, hM, hb⟩ := TrV.openV hT
          replace S := S.push (a := .made k37 _ _) hb hM
          dsimp only at S
          refine ⟨_, rfl, S.kpq 2, _, rfl, ?_⟩
          simp only [Act.put, List.setIfInBounds_toArray, List.set_cons_zero, List.set_cons_succ]
          refine pu 5 20 ?_
          refine pu 6 26 ?_
          refine pu 7 27 ?_
          refine pu 8 28 ?_
          refine rdo [9] (by simp) (List.forall_mem_cons.2 ⟨?_, List.forall_mem_nil _⟩)
          · refine rn 6 S (fun g6 w2 S => ⟨S.kpq 3, ?_⟩)
            refine lsd 11 3 S (fun w2 S => ?_)
            refine lsd 12 3 S (fun w2 S => ?_)
            refine pu 13 8 ?_
            refine dn ?_
            replace S := S.pick 0 rfl rfl
            replace S := S.pick 2 rfl rfl
            replace S := S.pick 2 rfl rfl
            have hj := hJ (g6, g7, B3, d3, B4, d4) _ S
            simp only [putAll, Act.put, List.setIfInBounds_toArray, List.set_cons_zero, List.set_cons_succ] at hj
            exact hj
        · refine rn 6 S (fun g6 w2 S => ⟨S.kpq 2, ?_⟩)
          refine rdo [4] (by simp) (List.forall_mem_cons.2 ⟨?_, List.forall_mem_nil _⟩)
          · refine rc 25 Tryd.func27 (HV _ S.below).out (fun r' w2 hT => ?_)
            obtain ⟨B3, d3, B4, d4, rfl, hM, hb⟩ := TrV.openV hT
            replace S := S.push (a := .made k37 _ _) hb hM
            dsimp only at S
            refine ⟨_, rfl, S.kpq 3, _, rfl, ?_⟩
            simp only [Act.put, List.setIfInBounds_toArray, List.set_cons_zero, List.set_cons_succ]
            refine pu 5 20 ?_
            refine pu 6 26 ?_
            refine pu 7 27 ?_
            refine pu 8 28 ?_
            refine lsd 11 3 S (fun w2 S => ?_)
            refine lsd 12 3 S (fun w2 S => ?_)
            refine pu 13 8 ?_
            refine dn ?_
            replace S := S.pick 1 rfl rfl
            replace S := S.pick 2 rfl rfl
            replace S := S.pick 2 rfl rfl
            have hj := hJ (g6, g7, B3, d3, B4, d4) _ S
            simp only [putAll, Act.put, List.setIfInBounds_toArray, List.set_cons_zero, List.set_cons_succ] at hj
            exact hj
      · refine rn 6 S (fun g6 w2 S => ⟨S.kpq 2, ?_⟩)
        refine rdo [3] (by simp) (List.forall_mem_cons.2 ⟨?_, List.forall_mem_nil _⟩)
        · refine rc 24 Tryd.func28 (HS _).out (fun r' w2 hT => ?_)
          obtain ⟨rfl, hb⟩ := hT
          replace S := S.call hb
          refine ⟨_, rfl, S.kpq 2, _, rfl, ?_⟩
          simp only [Act.put, List.setIfInBounds_toArray, List.set_cons_zero, List.set_cons_succ]
          refine rdo [4] (by simp) (List.forall_mem_cons.2 ⟨?_, List.forall_mem_nil _⟩)
          · refine rc 25 Tryd.func27 (HV _ S.below).out (fun r' w2 hT => ?_)
            obtain ⟨B3, d3, B4, d4, rfl, hM, hb⟩ := TrV.openV hT
            replace S := S.push (a := .made k37 _ _) hb hM
            dsimp only at S
            refine ⟨_, rfl, S.kpq 3, _, rfl, ?_⟩
            simp only [Act.put, List.setIfInBounds_toArray, List.set_cons_zero, List.set_cons_succ]
            refine pu 5 20 ?_
            refine pu 6 26 ?_
            refine pu 7 27 ?_
            refine pu 8 28 ?_
            refine lsd 11 3 S (fun w2 S => ?_)
            refine lsd 12 3 S (fun w2 S => ?_)
            refine pu 13 8 ?_
            refine dn ?_
            replace S := S.pick 1 rfl rfl
            replace S := S.pick 2 rfl rfl
            replace S := S.pick 2 rfl rfl
            have hj := hJ (g6, g7, B3, d3, B4, d4) _ S
            simp only [putAll, Act.put, List.setIfInBounds_toArray, List.set_cons_zero, List.set_cons_succ] at hj
            exact hj
  · obtain ⟨ad, A0, c0, rfl, hv⟩ := HX.out 0 (by omega)
    have h2 : ((G.length : Int) > 0) := by omega
    have hv0 : ad.add 0 = ad := rfl
    rw [hv0] at hv
    have h5 : (((sgG G ((0 : Nat) : Int)).length : Int) == 0) = false := beq_eq_false_iff_ne.2 (fun h => h0 ⟨h1, by simpa using h⟩)
    generalize (sgG G ((0 : Nat) : Int)).length = k at *
    clear h0 hv0 h1
    go_enter Tryd.func16, Tryd.ntmps16
    go_wp2_with (first | go_skip | ((with_reducible refine wl ?_); first | (refine sn S (fun g w1 S => ?_); first | ((fail_if_success (have := g3)); revert g; intro g3 S) | ((fail_if_success (have := g4)); revert g; intro g4 S)) | refine ss S (fun w1 S => ?_) | refine sl S ?_ | refine sa S ?_ | refine sx S hv ?_))
    refine jn (fun (s : Nat × Nat × Option Addr × Nat × Option Addr × Nat) w' => Sep w w' [.made k37 ⟨f0, f1, f2, f3, f4⟩ [.int .i64 f0, .int .i64 f1, .int .i64 f2, .slice s.2.2.1 f3.length s.2.2.2.1, .slice s.2.2.2.2.1 f4.length s.2.2.2.2.2], .box s.2.1 #[.int .i64 m'] 52, .box s.1 [.int .i64 f0, .int .i64 f1, .int .i64 f2, .slice s.2.2.1 f3.length s.2.2.2.1, .slice s.2.2.2.2.1 f4.length s.2.2.2.2.2].toArray 37, .box g4 #[.int .i64 0, .int .i64 0, .int .i64 0, .slice none 0 0, .slice none 0 0] 37, .box g3 #[.int .i64 D, .int .i64 Wd, .int .i64 O] 24]) (fun s => [(21, .slice (some ad) G.length cp), (22, limV D Wd O), (23, limV D Wd O), (24, .agg #[.int .i64 m]), (25, .tuple #[.agg #[.int .i64 f0, .int .i64 f1, .int .i64 f2, .slice s.2.2.1 f3.length s.2.2.2.1, .slice s.2.2.2.2.1 f4.length s.2.2.2.2.2], .agg #[.int .i64 m'], .int .i64 e']), (20, .tuple #[.agg #[.int .i64 f0, .int .i64 f1, .int .i64 f2, .slice s.2.2.1 f3.length s.2.2.2.1, .slice s.2.2.2.2.1 f4.length s.2.2.2.2.2], .agg #[.int .i64 m'], .int .i64 e']), (26, .agg #[.int .i64 f0, .int .i64 f1, .int .i64 f2, .slice s.2.2.1 f3.length s.2.2.2.1, .slice s.2.2.2.2.1 f4.length s.2.2.2.2.2]), (27, .agg #[.int .i64 m']), (28, .int .i64 e'), (6, .pointer (some ⟨s.1, 0, none⟩)), (7, .pointer (some ⟨s.2.1, 0, none⟩)), (8, .int .i64 e')]) (fun s w' S => ?_) (fun hJ => ?_)
    · obtain ⟨g6, g7, B3, d3, B4, d4⟩ := s
      dsimp only at S
      simp only [putAll, Act.put, List.setIfInBounds_toArray, List.set_cons_zero, List.set_cons_succ]
      by_cases he : e' ≠ 0
      · replace HR := Lib.hid (HR.out.trans (if_pos he))
        have t1 : (e' != 0) = true := bne_iff_ne.2 he
        clear he HG HN
        go_wp2_with (first | go_skip | ((with_reducible refine wl ?_); first | refine sn S (fun g w1 S => ?_) | refine ss S (fun w1 S => ?_) | refine sl S ?_ | refine sa S ?_))
        have S1 := ((S.nil k37 37).nil (Kd.int .u8) 5).node (f0 := 0) (f1 := 0) (f2 := 0)
        have HR := HR.out
        subst HR
        exact rt S ⟨_, _, rfl, S1.out .here, S.below⟩
      · replace HR := Lib.hid (HR.out.trans (if_neg he))
        obtain rfl : e' = 0 := by omega
        obtain ⟨hg1, hg2⟩ := HG.out rfl
        have HT := fun w' (h : k37.K w' ⟨f0, f1, f2, f3, f4⟩ [.int .i64 f0, .int .i64 f1, .int .i64 f2, .slice B3 f3.length d3, .slice B4 f4.length d4]) => Lib.hid (trim_opn ⟨f0, f1, f2, f3, f4⟩ hg2 (by have := HN.out; dsimp only at hg1; omega) w' h)
        clear hg1 hg2 HG HN he
        generalize ttrim ⟨f0, f1, f2, f3, f4⟩ = z at *
        obtain ⟨z0, z1, z2, z3, z4⟩ := z
        dsimp only at HT
        go_wp2_with (first | go_skip | ((with_reducible refine wl ?_); first | refine sn S (fun g w1 S => ?_) | refine ss S (fun w1 S => ?_) | refine sl S ?_ | refine sa S ?_) | ((with_reducible refine (HT _ (k37.K_of_M (S.out .here))).out.mono ?_); rintro r' w' ⟨C3, d5, C4, d6, rfl, hM, hb⟩; replace S := S.push (a := .made k37 _ _) hb hM))
        have HR := HR.out
        subst HR
        exact rt S ⟨_, _, rfl, S.out .here, S.below⟩
    refine rs [1] S (fun w1 S => ?_)
    refine pu 0 21 ?_
    refine lt 1 S ?_
    refine lt 2 S ?_
    refine rdo [3, 9, 10] (by simp) (List.forall_mem_cons.2 ⟨?_, List.forall_mem_cons.2 ⟨?_, List.forall_mem_cons.2 ⟨?_, List.forall_mem_nil _⟩⟩⟩)
    · refine rc 24 Tryd.func28 (HS _).out (fun r' w2 hT => ?_)
      obtain ⟨rfl, hb⟩ := hT
      replace S := S.call hb
      refine ⟨_, rfl, S.kpq 0, _, rfl, ?_⟩
      simp only [Act.put, List.setIfInBounds_toArray, List.set_cons_zero, List.set_cons_succ]
      refine rdo [4, 9, 10] (by simp) (List.forall_mem_cons.2 ⟨?_, List.forall_mem_cons.2 ⟨?_, List.forall_mem_cons.2 ⟨?_, List.forall_mem_nil _⟩⟩⟩)
      · refine rc 25 Tryd.func27 (HV _ S.below).out (fun r' w2 hT => ?_)
        obtain ⟨B3, d3, B4, d4, rfl, hM, hb⟩ := TrV.openV hT
        replace S := S.push (a := .made k37 _ _) hb hM
        dsimp only at S
        refine ⟨_, rfl, S.kpq 1, _, rfl, ?_⟩
        simp only [Act.put, List.setIfInBounds_toArray, List.set_cons_zero, List.set_cons_succ]
        refine pu 5 20 ?_
        refine pu 6 26 ?_
        refine pu 7 27 ?_
        refine pu 8 28 ?_
        refine rdo [9, 10] (by simp) (List.forall_mem_cons.2 ⟨?_, List.forall_mem_cons.2 ⟨?_, List.forall_mem_nil _⟩⟩)
        · refine rn 6 S (fun g6 w2 S => ⟨S.kpq 2, ?_⟩)
          refine rdo [10] (by simp) (List.forall_mem_cons.2 ⟨?_, List.forall_mem_nil _⟩)
          · refine rn 7 S (fun g7 w2 S => ⟨S.kpq 3, ?_⟩)
            refine lsd 11 3 S (fun w2 S => ?_)
            refine lsd 12 3 S (fun w2 S => ?_)
            refine pu 13 8 ?_
            refine dn ?_
            replace S := S.pick 1 rfl rfl
            replace S := S.pick 1 rfl rfl
            replace S := S.pick 2 rfl rfl
            have hj := hJ (g6, g7, B3, d3, B4, d4) _ S
            simp only [putAll, Act.put, List.setIfInBounds_toArray, List.set_cons_zero, List.set_cons_succ] at hj
            exact hj
        · refine rn 7 S (fun g7 w2 S => ⟨S.kpq 2, ?_⟩)
          refine rdo [9] (by simp) (List.forall_mem_cons.2 ⟨?_, List.forall_mem_nil _⟩)
          · refine rn 6 S (fun g6 w2 S => ⟨S.kpq 3, ?_⟩)
            refine lsd 11 3 S (fun w2 S => ?_)
            refine lsd 12 3 S (fun w2 S => ?_)
            refine pu 13 8 ?_
            refine dn ?_
            replace S := S.pick 0 rfl rfl
            replace S := S.pick 1 rfl rfl
            replace S := S.pick 2 rfl rfl
            have hj := hJ (g6, g7, B3, d3, B4, d4) _ S
            simp only [putAll, Act.put, List.setIfInBounds_toArray, List.set_cons_zero, List.set_cons_succ] at hj
            exact hj
      · refine rn 6 S (fun g6 w2 S => ⟨S.kpq 1, ?_⟩)
        refine rdo [4, 10] (by simp) (List.forall_mem_cons.2 ⟨?_, List.forall_mem_cons.2 ⟨?_, List.forall_mem_nil _⟩⟩)
        · refine rc 25 Tryd.func27 (HV _ S.below).out (fun r' w2 hT => ?_)
          obtain ⟨B3, d3, B4, d4, rfl, hM, hb⟩ := TrV.openV hT
          replace S := S.push (a := .made k37 _ _) hb hM
          dsimp only at S
          refine ⟨_, rfl, S.kpq 2, _, rfl, ?_⟩
          simp only [Act.put, List.setIfInBounds_toArray, List.set_cons_zero, List.set_cons_succ]
          refine pu 5 20 ?_
          refine pu 6 26 ?_
          refine pu 7 27 ?_
          refine pu 8 28 ?_
          refine rdo [10] (by simp) (List.forall_mem_cons.2 ⟨?_, List.forall_mem_nil _⟩)
          · refine rn 7 S (fun g7 w2 S => ⟨S.kpq 3, ?_⟩)
            refine lsd 11 3 S (fun w2 S => ?_)
            refine lsd 12 3 S (fun w2 S => ?_)
            refine pu 13 8 ?_
            refine dn ?_
            replace S := S.pick 2 rfl rfl
            replace S := S.pick 1 rfl rfl
            replace S := S.pick 2 rfl rfl
            have hj := hJ (g6, g7, B3, d3, B4, d4) _ S
            simp only [putAll, Act.put, List.setIfInBounds_toArray, List.set_cons_zero, List.set_cons_succ] at hj
            exact hj
        · refine rn 7 S (fun g7 w2 S => ⟨S.kpq 2, ?_⟩)
          refine rdo [4] (by simp) (List.forall_mem_cons.2 ⟨?_, List.forall_mem_nil _⟩)
          · refine rc 25 Tryd.func27 (HV _ S.below).out (fun r' w2 hT => ?_)
            obtain ⟨B3, d3, B4, d4, rfl, hM, hb⟩ := TrV.openV hT
            replace S := S.push (a := .made k37 _ _) hb hM
            dsimp only at S
            refine ⟨_, rfl, S.kpq 3, _, rfl, ?_⟩
            simp only [Act.put, List.setIfInBounds_toArray, List.set_cons_zero, List.set_cons_succ]
            refine pu 5 20 ?_
            refine pu 6 26 ?_
            refine pu 7 27 ?_
            refine pu 8 28 ?_
            refine lsd 11 3 S (fun w2 S => ?_)
            refine lsd 12 3 S (fun w2 S => ?_)
            refine pu 13 8 ?_
            refine dn ?_
            replace S := S.pick 2 rfl rfl
            replace S := S.pick 2 rfl rfl
            replace S := S.pick 2 rfl rfl
            have hj := hJ (g6, g7, B3, d3, B4, d4) _ S
            simp only [putAll, Act.put, List.setIfInBounds_toArray, List.set_cons_zero, List.set_cons_succ] at hj
            exact hj
      · refine rn 7 S (fun g7 w2 S => ⟨S.kpq 1, ?_⟩)
        refine rdo [4, 9] (by simp) (List.forall_mem_cons.2 ⟨?_, List.forall_mem_cons.2 ⟨?_, List.forall_mem_nil _⟩⟩)
        · refine rc 25 Tryd.func27 (HV _ S.below).out (fun r' w2 hT => ?_)
          obtain ⟨B3, d3, B4, d4, rfl, hM, hb⟩ := TrV.openV hT
          replace S := S.push (a := .made k37 _ _) hb hM
          dsimp only at S
          refine ⟨_, rfl, S.kpq 2, _, rfl, ?_⟩
          simp only [Act.put, List.setIfInBounds_toArray, List.set_cons_zero, List.set_cons_succ]
          refine pu 5 20 ?_
          refine pu 6 26 ?_
          refine pu 7 27 ?_
          refine pu 8 28 ?_
          refine rdo [9] (by simp) (List.forall_mem_cons.2 ⟨?_, List.forall_mem_nil _⟩)
          · refine rn 6 S (fun g6 w2 S => ⟨S.kpq 3, ?_⟩)
            refine lsd 11 3 S (fun w2 S => ?_)
            refine lsd 12 3 S (fun w2 S => ?_)
            refine pu 13 8 ?_
            refine dn ?_
            replace S := S.pick 0 rfl rfl
            replace S := S.pick 2 rfl rfl
            replace S := S.pick 2 rfl rfl
            have hj := hJ (g6, g7, B3, d3, B4, d4) _ S
            simp only [putAll, Act.put, List.setIfInBounds_toArray, List.set_cons_zero, List.set_cons_succ] at hj
            exact hj
        · refine rn 6 S (fun g6 w2 S => ⟨S.kpq 2, ?_⟩)
          refine rdo [4] (by simp) (List.forall_mem_cons.2 ⟨?_, List.forall_mem_nil _⟩)
          · refine rc 25 Tryd.func27 (HV _ S.below).out (fun r' w2 hT => ?_)
            obtain ⟨B3, d3, B4, d4, rfl, hM, hb⟩ := TrV.openV hT
            replace S := S.push (a := .made k37 _ _) hb hM
            dsimp only at S
            refine ⟨_, rfl, S.kpq 3, _, rfl, ?_⟩
            simp only [Act.put, List.setIfInBounds_toArray, List.set_cons_zero, List.set_cons_succ]
            refine pu 5 20 ?_
            refine pu 6 26 ?_
            refine pu 7 27 ?_
            refine pu 8 28 ?_
            refine lsd 11 3 S (fun w2 S => ?_)
            refine lsd 12 3 S (fun w2 S => ?_)
            refine pu 13 8 ?_
            refine dn ?_
            replace S := S.pick 1 rfl rfl
            replace S := S.pick 2 rfl rfl
            replace S := S.pick 2 rfl rfl
            have hj := hJ (g6, g7, B3, d3, B4, d4) _ S
            simp only [putAll, Act.put, List.setIfInBounds_toArray, List.set_cons_zero, List.set_cons_succ] at hj
            exact hj
    · refine rn 6 S (fun g6 w2 S => ⟨S.kpq 1, ?_⟩)
      refine rdo [3, 10] (by simp) (List.forall_mem_cons.2 ⟨?_, List.forall_mem_cons.2 ⟨?_, List.forall_mem_nil _⟩⟩)
      · refine rc 24 Tryd.func28 (HS _).out (fun r' w2 hT => ?_)
        obtain ⟨rfl, hb⟩ := hT
        replace S := S.call hb
        refine ⟨_, rfl, S.kpq 1, _, rfl, ?_⟩
        simp only [Act.put, List.setIfInBounds_toArray, List.set_cons_zero, List.set_cons_succ]
        refine rdo [4, 10] (by simp) (List.forall_mem_cons.2 ⟨?_, List.forall_mem_cons.2 ⟨?_, List.forall_mem_nil _⟩⟩)
        · refine rc 25 Tryd.func27 (HV _ S.below).out (fun r' w2 hT => ?_)
          obtain ⟨B3, d3, B4, d4, rfl, hM, hb⟩ := TrV.openV hT
          replace S := S.push (a := .made k37 _ _) hb hM
          dsimp only at S
          refine ⟨_, rfl, S.kpq 2, _, rfl, ?_⟩
          simp only [Act.put, List.setIfInBounds_toArray, List.set_cons_zero, List.set_cons_succ]
          refine pu 5 20 ?_
          refine pu 6 26 ?_
          refine pu 7 27 ?_
          refine pu 8 28 ?_
          refine rdo [10] (by simp) (List.forall_mem_cons.2 ⟨?_, List.forall_mem_nil _⟩)
          · refine rn 7 S (fun g7 w2 S => ⟨S.kpq 3, ?_⟩)
            refine lsd 11 3 S (fun w2 S => ?_)
            refine lsd 12 3 S (fun w2 S => ?_)
            refine pu 13 8 ?_
            refine dn ?_
            replace S := S.pick 2 rfl rfl
            replace S := S.pick 1 rfl rfl
            replace S := S.pick 2 rfl rfl
            have hj := hJ (g6, g7, B3, d3, B4, d4) _ S
            simp only [putAll, Act.put, List.setIfInBounds_toArray, List.set_cons_zero, List.set_cons_succ] at hj
            exact hj
        · refine rn 7 S (fun g7 w2 S => ⟨S.kpq 2, ?_⟩)
          refine rdo [4] (by simp) (List.forall_mem_cons.2 ⟨?_, List.forall_mem_nil _⟩)
          · refine rc 25 Tryd.func27 (HV _ S.below).out (fun r' w2 hT => ?_)
            obtain ⟨B3, d3, B4, d4, rfl, hM, hb⟩ := TrV.openV hT
            replace S := S.push (a := .made k37 _ _) hb hM
            dsimp only at S
            refine ⟨_, rfl, S.kpq 3, _, rfl, ?_⟩
            simp only [Act.put, List.setIfInBounds_toArray, List.set_cons_zero, List.set_cons_succ]
            refine pu 5 20 ?_
            refine pu 6 26 ?_
            refine pu 7 27 ?_
            refine pu 8 28 ?_
            refine lsd 11 3 S (fun w2 S => ?_)
            refine lsd 12 3 S (fun w2 S => ?_)
            refine pu 13 8 ?_
            refine dn ?_
            replace S := S.pick 2 rfl rfl
            replace S := S.pick 2 rfl rfl
            replace S := S.pick 2 rfl rfl
            have hj := hJ (g6, g7, B3, d3, B4, d4) _ S
            simp only [putAll, Act.put, List.setIfInBounds_toArray, List.set_cons_zero, List.set_cons_succ] at hj
            exact hj
      · refine rn 7 S (fun g7 w2 S => ⟨S.kpq 2, ?_⟩)
        refine rdo [3] (by simp) (List.forall_mem_cons.2 ⟨?_, List.forall_mem_nil _⟩)
        · refine rc 24 Tryd.func28 (HS _).out (fun r' w2 hT => ?_)
          obtain ⟨rfl, hb⟩ := hT
          replace S := S.call hb
          refine ⟨_, rfl, S.kpq 2, _, rfl, ?_⟩
          simp only [Act.put, List.setIfInBounds_toArray, List.set_cons_zero, List.set_cons_succ]
          refine rdo [4] (by simp) (List.forall_mem_cons.2 ⟨?_, List.forall_mem_nil _⟩)
          · refine rc 25 Tryd.func27 (HV _ S.below).out (fun r' w2 hT => ?_)
            obtain ⟨B3, d3, B4, d4, rfl, hM, hb⟩ := TrV.openV hT
            replace S := S.push (a := .made k37 _ _) hb hM
            dsimp only at S
            refine ⟨_, rfl, S.kpq 3, _, rfl, ?_⟩
            simp only [Act.put, List.setIfInBounds_toArray, List.set_cons_zero, List.set_cons_succ]
            refine pu 5 20 ?_
            refine pu 6 26 ?_
            refine pu 7 27 ?_
            refine pu 8 28 ?_
            refine lsd 11 3 S (fun w2 S => ?_)
            refine lsd 12 3 S (fun w2 S => ?_)
            refine pu 13 8 ?_
            refine dn ?_
            replace S := S.pick 2 rfl rfl
            replace S := S.pick 2 rfl rfl
            replace S := S.pick 2 rfl rfl
            have hj := hJ (g6, g7, B3, d3, B4, d4) _ S
            simp only [putAll, Act.put, List.setIfInBounds_toArray, List.set_cons_zero, List.set_cons_succ] at hj
            exact hj
    · refine rn 7 S (fun g7 w2 S => ⟨S.kpq 1, ?_⟩)
      refine rdo [3, 9] (by simp) (List.forall_mem_cons.2 ⟨?_, List.forall_mem_cons.2 ⟨?_, List.forall_mem_nil _⟩⟩)
      · refine rc 24 Tryd.func28 (HS _).out (fun r' w2 hT => ?_)
        obtain ⟨rfl, hb⟩ := hT
        replace S := S.call hb
        refine ⟨_, rfl, S.kpq 1, _, rfl, ?_⟩
        simp only [Act.put, List.setIfInBounds_toArray, List.set_cons_zero, List.set_cons_succ]
        refine rdo [4, 9] (by simp) (List.forall_mem_cons.2 ⟨?_, List.forall_mem_cons.2 ⟨?_, List.forall_mem_nil _⟩⟩)
        · refine rc 25 Tryd.func27 (HV _ S.below).out (fun r' w2 hT => ?_)
          obtain ⟨B3, d3, B4, d4, rfl, hM, hb⟩ := TrV.openV hT
          replace S := S.push (a := .made k37 _ _) hb hM
          dsimp only at S
          refine ⟨_, rfl, S.kpq 2, _, rfl, ?_⟩
          simp only [Act.put, List.setIfInBounds_toArray, List.set_cons_zero, List.set_cons_succ]
          refine pu 5 20 ?_
          refine pu 6 26 ?_
          refine pu 7 27 ?_
          refine pu 8 28 ?_
          refine rdo [9] (by simp) (List.forall_mem_cons.2 ⟨?_, List.forall_mem_nil _⟩)
          · refine rn 6 S (fun g6 w2 S => ⟨S.kpq 3, ?_⟩)
            refine lsd 11 3 S (fun w2 S => ?_)
            refine lsd 12 3 S (fun w2 S => ?_)
            refine pu 13 8 ?_
            refine dn ?_
            replace S := S.pick 0 rfl rfl
            replace S := S.pick 2 rfl rfl
            replace S := S.pick 2 rfl rfl
            have hj := hJ (g6, g7, B3, d3, B4, d4) _ S
            simp only [putAll, Act.put, List.setIfInBounds_toArray, List.set_cons_zero, List.set_cons_succ] at hj
            exact hj
        · refine rn 6 S (fun g6 w2 S => ⟨S.kpq 2, ?_⟩)
          refine rdo [4] (by simp) (List.forall_mem_cons.2 ⟨?_, List.forall_mem_nil _⟩)
          · refine rc 25 Tryd.func27 (HV _ S.below).out (fun r' w2 hT => ?_)
            obtain ⟨B3, d3, B4, d4, rfl, hM, hb⟩ := TrV.openV hT
            replace S := S.push (a := .made k37 _ _) hb hM
            dsimp only at S
            refine ⟨_, rfl, S.kpq 3, _, rfl, ?_⟩
            simp only [Act.put, List.setIfInBounds_toArray, List.set_cons_zero, List.set_cons_succ]
            refine pu 5 20 ?_
            refine pu 6 26 ?_
            refine pu 7 27 ?_
            refine pu 8 28 ?_
            refine lsd 11 3 S (fun w2 S => ?_)
            refine lsd 12 3 S (fun w2 S => ?_)
            refine pu 13 8 ?_
            refine dn ?_
            replace S := S.pick 1 rfl rfl
            replace S := S.pick 2 rfl rfl
            replace S := S.pick 2 rfl rfl
            have hj := hJ (g6, g7, B3, d3, B4, d4) _ S
            simp only [putAll, Act.put, List.setIfInBounds_toArray, List.set_cons_zero, List.set_cons_succ] at hj
            exact hj
      · refine rn 6 S (fun g6 w2 S => ⟨S.kpq 2, ?_⟩)
        refine rdo [3] (by simp) (List.forall_mem_cons.2 ⟨?_, List.forall_mem_nil _⟩)
        · refine rc 24 Tryd.func28 (HS _).out (fun r' w2 hT => ?_)
          obtain ⟨rfl, hb⟩ := hT
          replace S := S.call hb
          refine ⟨_, rfl, S.kpq 2, _, rfl, ?_⟩
          simp only [Act.put, List.setIfInBounds_toArray, List.set_cons_zero, List.set_cons_succ]
          refine rdo [4] (by simp) (List.forall_mem_cons.2 ⟨?_, List.forall_mem_nil _⟩)
          · refine rc 25 Tryd.func27 (HV _ S.below).out (fun r' w2 hT => ?_)
            obtain ⟨B3, d3, B4, d4, rfl, hM, hb⟩ := TrV.openV hT
            replace S := S.push (a := .made k37 _ _) hb hM
            dsimp only at S
            refine ⟨_, rfl, S.kpq 3, _, rfl, ?_⟩
            simp only [Act.put, List.setIfInBounds_toArray, List.set_cons_zero, List.set_cons_succ]
            refine pu 5 20 ?_
            refine pu 6 26 ?_
            refine pu 7 27 ?_
            refine pu 8 28 ?_
            refine lsd 11 3 S (fun w2 S => ?_)
            refine lsd 12 3 S (fun w2 S => ?_)
            refine pu 13 8 ?_
            refine dn ?_
            replace S := S.pick 1 rfl rfl
            replace S := S.pick 2 rfl rfl
            replace S := S.pick 2 rfl rfl
            have hj := hJ (g6, g7, B3, d3, B4, d4) _ S
            simp only [putAll, Act.put, List.setIfInBounds_toArray, List.set_cons_zero, List.set_cons_succ] at hj
            exact hj
end Go.Proofs.YtidglmocekghmaaDoor.Pr
end
section
namespace Go.Proofs.YtidglmocekghmaaDoor.Pr
set_option linter.unusedSimpArgs false
open Go.RowKit Go.Proofs.YtidglmocekghmaaDoorW.PrintWords Go.Proofs.YtidglmocekghmaaDoorW.PrintLast Go.Proofs.YtidglmocekghmaaDoorW.PrintMore
set_option linter.unusedVariables false
structure EnvS (w : World) (ad : Addr) (cp : Nat) (s : List Int) : Prop where
 rd : (Kd.int .u64).C w (some ad) s.length s
 le : s.length ≤ cp
 len : s.length ≤ 17592186040320
 ok : ∀ x ∈ s, 0 ≤ x ∧ x < 18446744073709551616
theorem EnvS.below {w w' : World} {ad : Addr} {cp : Nat} {s : List Int} (h : EnvS w ad cp s) (hb : Below w.heap.size w w') : EnvS w' ad cp s := ⟨Kd.C_below h.rd hb, h.le, h.len, h.ok⟩
theorem EnvS.at_ {w : World} {ad : Addr} {cp : Nat} {s : List Int} (h : EnvS w ad cp s) (i : Nat) (hi : i < s.length) : AtS w ad i (wd s i) := by
 obtain ⟨a0, c, e0, _, hK, hcc⟩ := Kd.C_get h.rd (0 : Int) i (by omega) (Int.ofNat_lt.2 hi)
 obtain rfl : c = [.int .u64 (wd s i)] := hK
 injection e0 with e0
 subst e0
 have := hcc 0 _ rfl
 simpa [Kd.int, Kd.scalar] using this
def Okv (s : List Int) (f a : Nat) : Prop := ∃ m : Nat, (valR [s] f 0 a m).2.2 = 0
theorem vis_bd {s : List Int} {f a nx r : Nat} (h : Okv s f a) (ha : a < s.length) (hn : nx ≤ s.length) (hr : visV s f a nx = some r) : r ≤ s.length := by
 obtain ⟨m, hm⟩ := h
 have h1 := agr_vis s f a nx m ha hn
 rw [if_pos hm, hr] at h1
 exact (visM_in s f a nx m _ h1 hn).2.1
theorem vptrs_bd {V : Nat → Nat → Option Nat} {n : Nat} : ∀ {p i e r : Nat}, (∀ j, j < p → ∀ e, e ≤ n → ∀ r, V (i + j) e = some r → r ≤ n) → e ≤ n → vptrs V p i e = some r → r ≤ n
 | 0, i, e, r, _, he, h => by
  simp only [vptrs, Option.some.injEq] at h
  omega
 | p + 1, i, e, r, hV, he, h => by
  rw [vptrs] at h
  cases hq : V i e with
  | none => rw [hq] at h; cases h
  | some q =>
   rw [hq] at h
   exact vptrs_bd (p := p) (i := i + 1) (e := q) (fun j hj e he r hr => hV (j + 1) (by omega) e he r (by rw [show i + (j + 1) = i + 1 + j by omega]; exact hr)) (hV 0 (by omega) e he q hq) h
theorem kidsR_ok {v : Int → Int → Tr} (hs : Sinks v) : ∀ (n : Nat) (a m : Int), 0 ≤ m → (kidsR v n a m).2.2 = 0 → ∀ i : Nat, i < n → ∃ m' : Nat, (v (a + i) m').2.2 = 0
 | 0, _, _, _, _, i, hi => by omega
 | n + 1, a, m, hm, h, i, hi => by
  revert h
  unfold kidsR
  split
  ·rename_i he
   intro h
   exact (he h).elim
  ·rename_i he
   intro h
   match i with
   | 0 => exact ⟨m.toNat, by rw [show ((m.toNat : Nat) : Int) = m by omega]; simpa using he⟩
   | i + 1 =>
    obtain ⟨m', hm'⟩ := kidsR_ok hs n (a + 1) _ (hs a m hm).1 h i (by omega)
    exact ⟨m', by rw [show a + ((i + 1 : Nat) : Int) = a + 1 + i by omega]; exact hm'⟩
theorem ok_obj {s : List Int} {f a m : Nat} (ha : a < s.length) (h0 : wd s a ≠ 0) (hk : kindW (wd s a) ≠ 2) (h : (valR [s] (f + 1) 0 a m).2.2 = 0) : (objG [s] 0 a).2 = 0 ∧ 0 ≤ (m : Int) - (objG [s] 0 a).1.c ∧ (bodR [s] (valR [s] f) (objG [s] 0 a).1 ((m : Int) - (objG [s] 0 a).1.c)).2.2 = 0 := by
 rw [valR_obj ha h0 hk] at h
 by_cases h1 : (objG [s] 0 a).2 ≠ 0
 ·rw [if_pos h1] at h
  exact (h1 h).elim
 ·rw [if_neg h1] at h
  by_cases h2 : (m : Int) < (objG [s] 0 a).1.c
  ·rw [if_pos h2] at h
   simp at h
  ·rw [if_neg h2] at h
   exact ⟨by simpa using h1, by omega, h⟩
theorem str_ok {s : List Int} {f a nx d p : Nat} (ha : a < s.length) (h0 : wd s a ≠ 0) (hk : kindW (wd s a) = 0) (hd : dataW (wd s a) = d) (hp : ptrsW (wd s a) = p) (hst : (a : Int) + 1 + offW (wd s a) = nx) (h : Okv s (f + 1) a) : nx + (d + p) ≤ s.length ∧ ∀ j, j < p → Okv s f (nx + d + j) := by
 obtain ⟨m, hm⟩ := h
 obtain ⟨h1, h2, h3⟩ := ok_obj ha h0 (by omega) hm
 have hO : objG [s] 0 a = if inG [s] 0 (nx : Int) ((d : Int) + p) = true then (⟨1, 0, nx, d, p, 0, 0, (d : Int) + p⟩, 0) else (Ob.z, 2) := by
  unfold objG desM
  rw [folM_one ha (by omega)]
  simp only [pO, pD, pP, hk, hd, hp, h0, hst, ne_eq, not_true_eq_false, if_false, if_true, show ((0 : Int) = 3) = False by simp, show ((0 : Int) ≤ 1) = True by simp]
 by_cases hi : inG [s] 0 (nx : Int) ((d : Int) + p) = true
 ·rw [if_pos hi] at hO
  rw [hO] at h2 h3
  rw [inG_one, decide_eq_true_eq] at hi
  refine ⟨by omega, fun j hj => ?_⟩
  unfold bodR at h3
  rw [if_pos rfl, strR_2] at h3
  dsimp only at h3 h2
  rw [Int.toNat_natCast] at h3
  obtain ⟨m', hm'⟩ := kidsR_ok (valR_sinks [s] f 0) p _ _ h2 h3 j hj
  exact ⟨m', by rw [show ((nx + d + j : Nat) : Int) = (nx : Int) + d + j by omega]; exact hm'⟩
 ·rw [if_neg hi] at hO
  rw [hO] at h1
  simp at h1
theorem lst_ok {s : List Int} {f a nx c n : Nat} (ha : a < s.length) (h0 : wd s a ≠ 0) (hk : kindW (wd s a) = 1) (he : elemW (wd s a) ≠ 7) (hc : cntW (wd s a) = c) (hw : wordsE (elemW (wd s a)) c = n) (hst : (a : Int) + 1 + offW (wd s a) = nx) (h : Okv s (f + 1) a) : nx + n ≤ s.length ∧ (elemW (wd s a) = 6 → ∀ j, j < c → Okv s f (nx + j)) := by
 obtain ⟨m, hm⟩ := h
 obtain ⟨h1, h2, h3⟩ := ok_obj ha h0 (by omega) hm
 have hO : objG [s] 0 a = if inG [s] 0 (nx : Int) n = true then (⟨2, 0, nx, 0, 0, elemW (wd s a), c, n⟩, 0) else (Ob.z, 2) := by
  unfold objG desM
  rw [folM_one ha (by omega)]
  simp only [pO, pD, pP, pE, pC, hk, hc, h0, hst, hw, he, ne_eq, not_true_eq_false, not_false_eq_true, if_false, if_true, show ((1 : Int) = 3) = False by simp, show ((1 : Int) = 0) = False by simp, show ((1 : Int) ≤ 1) = True by simp]
  by_cases hi : inG [s] 0 (nx : Int) n = true <;> simp [hi]
 by_cases hi : inG [s] 0 (nx : Int) n = true
 ·rw [if_pos hi] at hO
  rw [hO] at h2 h3
  rw [inG_one, decide_eq_true_eq] at hi
  refine ⟨by omega, fun h6 j hj => ?_⟩
  unfold bodR at h3
  dsimp only at h3 h2
  rw [if_neg (by omega), if_neg (by omega), if_pos h6, Int.toNat_natCast] at h3
  have h4 : (kidsR (valR [s] f 0) c (nx : Int) ((m : Int) - n)).2.2 = 0 := by
   revert h3
   split
   ·exact fun h => h
   ·rename_i hh
    intro _
    simpa using hh
  obtain ⟨m', hm'⟩ := kidsR_ok (valR_sinks [s] f 0) c _ _ h2 h4 j hj
  exact ⟨m', by rw [show ((nx + j : Nat) : Int) = (nx : Int) + j by omega]; exact hm'⟩
 ·rw [if_neg hi] at hO
  rw [hO] at h1
  simp at h1
theorem cmp_ok {s : List Int} {f a nx c : Nat} (ha : a < s.length) (h0 : wd s a ≠ 0) (hk : kindW (wd s a) = 1) (he : elemW (wd s a) = 7) (hc : cntW (wd s a) = c) (hst : (a : Int) + 1 + offW (wd s a) = nx) (h : Okv s (f + 1) a) :
  nx + (c + 1) ≤ s.length ∧ ∃ (d p k : Nat) (cost : Int), dataW (wd s nx) = d ∧ ptrsW (wd s nx) = p ∧ offW (wd s nx) = k ∧ k * (d + p) ≤ c ∧ objG [s] 0 a = (⟨2, 0, (nx : Int) + 1, d, p, 7, k, cost⟩, 0) ∧ ∀ i, i < k → ∀ j, j < p → Okv s f (nx + 1 + i * (d + p) + d + j) := by
 obtain ⟨m, hm⟩ := h
 obtain ⟨h1, h2, h3⟩ := ok_obj ha h0 (by omega) hm
 have hI : inG [s] 0 (nx : Int) ((c : Int) + 1) = decide (nx + (c + 1) ≤ s.length) := by rw [inG_one]; congr 1; simp only [eq_iff_iff]; omega
 have hW : wordsE 7 (c : Int) = (c : Int) + 1 := rfl
 have hO : objG [s] 0 a = if nx + (c + 1) ≤ s.length then tagM 0 nx 7 ((c : Int) + 1) c (wdG [s] 0 nx) else (Ob.z, 2) := by
  unfold objG desM
  rw [folM_one ha (by omega)]
  simp only [pO, pD, pP, pE, pC, hk, he, hc, h0, hst, hW, hI, ne_eq, not_true_eq_false, if_false, if_true, show ((1 : Int) = 3) = False by simp, show ((1 : Int) = 0) = False by simp, show ((1 : Int) ≤ 1) = True by simp, decide_eq_false_iff_not]
  by_cases h3 : nx + (c + 1) ≤ s.length <;> simp [h3]
 by_cases hn : nx + (c + 1) ≤ s.length
 ·rw [if_pos hn, wdG_one (by omega) (by omega), Int.toNat_natCast] at hO
  refine ⟨hn, ?_⟩
  generalize wd s nx = t at *
  obtain ⟨d, hd⟩ := Int.eq_ofNat_of_zero_le (dataW_bd t).1
  obtain ⟨p, hp⟩ := Int.eq_ofNat_of_zero_le (ptrsW_bd t).1
  rw [hO] at h1
  revert h1
  have hO2 := hO
  revert hO2
  unfold tagM
  split
  ·intro _ h1; simp at h1
  rename_i hkt
  have hkt : kindW t = 0 := by omega
  have hpo : pO t = offW t := by unfold pO; rw [if_pos (by omega)]
  have hpd : pD t = d := by unfold pD; rw [if_pos hkt, hd]
  have hpp : pP t = p := by unfold pP; rw [if_pos hkt, hp]
  rw [hpo, hpd, hpp]
  split
  ·intro _ h1; simp at h1
  rename_i ho
  obtain ⟨k, hk1⟩ := Int.eq_ofNat_of_zero_le (show 0 ≤ offW t by omega)
  rw [hk1]
  split
  ·intro _ h1; simp at h1
  rename_i hkc
  have hkc' : k * (d + p) ≤ c := by
   have h5 : (k : Int) * ((d : Int) + p) ≤ c := by omega
   exact_mod_cast h5
  have fin : ∀ cost : Int, objG [s] 0 a = (⟨2, 0, (nx : Int) + 1, d, p, 7, k, cost⟩, 0) → ∃ (d' p' k' : Nat) (cost : Int), dataW t = d' ∧ ptrsW t = p' ∧ offW t = k' ∧ k' * (d' + p') ≤ c ∧ objG [s] 0 a = (⟨2, 0, (nx : Int) + 1, d', p', 7, k', cost⟩, 0) ∧ ∀ i, i < k' → ∀ j, j < p' → Okv s f (nx + 1 + i * (d' + p') + d' + j) := by
   intro cost hO3
   refine ⟨d, p, k, cost, hd, hp, hk1, hkc', hO3, fun i hi j hj => ?_⟩
   rw [hO3] at h3 h2
   unfold bodR at h3
   dsimp only at h3 h2
   rw [if_neg (by omega), if_neg (by omega), if_neg (by omega), Int.toNat_natCast, elsR_kids] at h3
   have h4 : (kidsR (fun i m => strR [s] (valR [s] f) (elG ⟨2, 0, (nx : Int) + 1, d, p, 7, k, cost⟩ i) m) k 0 ((m : Int) - cost)).2.2 = 0 := by
    revert h3
    split
    ·exact fun h => h
    ·rename_i hh
     intro _
     simpa using hh
   obtain ⟨m1, hm1⟩ := kidsR_ok (v := fun i m => strR [s] (valR [s] f) (elG ⟨2, 0, (nx : Int) + 1, d, p, 7, k, cost⟩ i) m) (fun i m h => strR_sinks [s] (valR_sinks [s] f) _ m h) k 0 _ h2 h4 i hi
   rw [Int.zero_add, strR_2] at hm1
   unfold elG at hm1
   dsimp only at hm1
   rw [Int.toNat_natCast] at hm1
   obtain ⟨m2, hm2⟩ := kidsR_ok (valR_sinks [s] f 0) p _ _ (by omega) hm1 j hj
   refine ⟨m2, ?_⟩
   rw [show ((nx + 1 + i * (d + p) + d + j : Nat) : Int) = (nx : Int) + 1 + (i : Int) * ((d : Int) + p) + d + j by push_cast; rfl]
   exact hm2
  split
  ·intro hO2 _
   obtain ⟨d', p', k', cost, e1, e2, e3, e4, e5, e6⟩ := fin _ hO2
   exact ⟨d', p', k', cost, e1, e2, hk1.symm.trans e3, e4, e5, e6⟩
  ·intro hO2 _
   obtain ⟨d', p', k', cost, e1, e2, e3, e4, e5, e6⟩ := fin _ hO2
   exact ⟨d', p', k', cost, e1, e2, hk1.symm.trans e3, e4, e5, e6⟩
 ·rw [if_neg hn] at hO
  rw [hO] at h1
  simp at h1
theorem visI_some (n : Nat) : visI (some n) = (n : Int) := rfl
end Go.Proofs.YtidglmocekghmaaDoor.Pr
end
section
namespace Go.Proofs.YtidglmocekghmaaDoor.Pr
theorem lays_append {s : List Int} : ∀ (l m : List S37) (a nx r : Nat), lays s (l ++ m) a nx r ↔ ∃ q, lays s l a nx q ∧ lays s m (a + l.length) q r
 | [], m, a, nx, r => by
  simp only [List.nil_append, lays, List.length_nil, Nat.add_zero]
  exact ⟨fun h => ⟨nx, rfl, h⟩, fun ⟨q, h1, h2⟩ => h1 ▸ h2⟩
 | x :: l, m, a, nx, r => by
  simp only [List.cons_append, lays, List.length_cons]
  rw [show a + (l.length + 1) = a + 1 + l.length by omega]
  constructor
  ·rintro ⟨q, h1, h2⟩
   obtain ⟨q2, h3, h4⟩ := (lays_append l m (a + 1) q r).1 h2
   exact ⟨q2, ⟨q, h1, h3⟩, h4⟩
  ·rintro ⟨q2, ⟨q, h1, h3⟩, h4⟩
   exact ⟨q, h1, (lays_append l m (a + 1) q r).2 ⟨q2, h3, h4⟩⟩
theorem lays_null {s : List Int} : ∀ (m : List S37) (a nx r : Nat), (∀ x ∈ m, x.f0 = 0) → lays s m a nx r → r = nx
 | [], a, nx, r, _, h => h
 | x :: m, a, nx, r, hx, h => by
  obtain ⟨q, h1, h2⟩ := h
  have h3 := lays_null m (a + 1) q r (fun y hy => hx y (List.mem_cons_of_mem _ hy)) h2
  obtain ⟨k, e, n, b, l⟩ := x
  have hk : k = 0 := hx _ List.mem_cons_self
  unfold lay at h1
  rw [if_pos hk] at h1
  omega
theorem ttrim_struct (e n : Int) (b : List Int) (kids : List S37) : ttrim ⟨1, e, n, b, kids⟩ = ⟨1, e, n, b.take (8 * twords b), (kids.take (keptN nullN kids)).map ttrim⟩ := by
 rw [ttrim_eq]
 rfl
theorem ttrim_list (e n : Int) (b : List Int) (kids : List S37) : ttrim ⟨2, e, n, b, kids⟩ = ⟨2, e, n, b, kids.map ttrim⟩ := by
 rw [ttrim_eq]
 rfl
theorem ttrim_null : ttrim ndZ = ndZ := by
 rw [ttrim_eq]
 rfl
theorem kept_zero {b : List Int} {i : Nat} (h : keptN zeroB b ≤ i) : b.getD i 0 = 0 := by
 obtain ⟨m, h1, h2, h3⟩ := keptN_parts zeroB b
 rw [h1, List.getD_eq_getElem?_getD, List.getElem?_append_right (by omega)]
 cases hq : m[i - (b.take (keptN zeroB b)).length]? with
 | none => rfl
 | some x =>
  have := h2 x (List.mem_of_getElem? hq)
  simpa [zeroB] using this
theorem cut_getD (b : List Int) (i : Nat) : (b.take (8 * twords b)).getD i 0 = b.getD i 0 := by
 rw [List.getD_eq_getElem?_getD, List.getElem?_take]
 split
 ·rw [List.getD_eq_getElem?_getD]
 ·rename_i h
  have := twords_ge b
  exact (kept_zero (by omega)).symm
theorem wordsB_cut (ws : List Int) (h : ∀ x ∈ ws, 0 ≤ x ∧ x < 18446744073709551616) : wordsB ws.length ((bytesL ws).take (8 * twords (bytesL ws))) = ws := by
 conv => rhs; rw [← wordsB_bytesL ws h]
 exact wordsB_eq _ (fun i _ => cut_getD _ i)
theorem bytesL_getD : ∀ (ws : List Int) (i j : Nat), i < ws.length → j < 8 → (bytesL ws).getD (8 * i + j) 0 = (bytesW (wd ws i)).getD j 0
 | [], i, j, h, _ => by simp at h
 | w :: ws, 0, j, h, hj => by
  rw [bytesL, List.getD_eq_getElem?_getD, List.getElem?_append_left (by rw [bytesW_len]; omega), List.getD_eq_getElem?_getD]
  simp [wd]
 | w :: ws, i + 1, j, h, hj => by
  have := bytesL_getD ws i j (by simpa using h) hj
  rw [bytesL, List.getD_eq_getElem?_getD, List.getElem?_append_right (by rw [bytesW_len]; omega), bytesW_len, show 8 * (i + 1) + j - 8 = 8 * i + j by omega, ← List.getD_eq_getElem?_getD, this]
  rfl
theorem twords_le_len (ws : List Int) : twords (bytesL ws) ≤ ws.length := by
 have := twords_le (bytesL ws) (by rw [bytesL_length]; omega)
 rw [bytesL_length] at this
 omega
theorem twords_last (ws : List Int) (h : ∀ x ∈ ws, 0 ≤ x ∧ x < 18446744073709551616) (hl : 0 < ws.length) (hz : wd ws (ws.length - 1) ≠ 0) : twords (bytesL ws) = ws.length := by
 have h1 := twords_le_len ws
 have h2 := twords_ge (bytesL ws)
 rcases Nat.lt_or_ge (twords (bytesL ws)) ws.length with hlt | hge
 ·exfalso
  apply hz
  have hb : ∀ j, j < 8 → (bytesW (wd ws (ws.length - 1))).getD j 0 = 0 := fun j hj => by
   rw [← bytesL_getD ws (ws.length - 1) j (by omega) hj]
   exact kept_zero (by omega)
  have hw : 0 ≤ wd ws (ws.length - 1) ∧ wd ws (ws.length - 1) < 18446744073709551616 := h _ (by
   unfold wd
   rw [List.getD_eq_getElem?_getD, List.getElem?_eq_getElem (by omega)]
   exact List.getElem_mem _)
  rw [← wordB_bytesW hw.1 hw.2]
  unfold wordB
  rw [hb 0 (by omega), hb 1 (by omega), hb 2 (by omega), hb 3 (by omega), hb 4 (by omega), hb 5 (by omega), hb 6 (by omega), hb 7 (by omega)]
  rfl
 ·omega
def LayP (s : List Int) (f : Nat) : Prop := ∀ (a nx r m : Nat), a < s.length → nx ≤ s.length → (valR [s] f 0 a m).2.2 = 0 → visV s f a nx = some r → lay s (ttrim (valR [s] f 0 a m).1) a nx r ∧ ((valR [s] f 0 a m).1.f0 = 0 ↔ wd s a = 0)
theorem kids_lay {s : List Int} {f : Nat} (H : LayP s f) : ∀ (p a nx r m : Nat), a + p ≤ s.length → nx ≤ s.length → (kidsR (valR [s] f 0) p a m).2.2 = 0 → vptrs (visV s f) p a nx = some r →
  lays s ((kidsR (valR [s] f 0) p a m).1.map ttrim) a nx r ∧ (kidsR (valR [s] f 0) p a m).1.length = p ∧ ∀ j (x : S37), (kidsR (valR [s] f 0) p a m).1[j]? = some x → (x.f0 = 0 ↔ wd s (a + j) = 0)
 | 0, a, nx, r, m, _, _, _, h => by
  simp only [vptrs, Option.some.injEq] at h
  exact ⟨h.symm, rfl, fun j x hx => by simp [kidsR] at hx⟩
 | p + 1, a, nx, r, m, ha, hn, he, h => by
  have hs := valR_sinks [s] f 0 a m (by omega)
  revert he
  unfold kidsR
  by_cases h1 : (valR [s] f 0 a m).2.2 ≠ 0
  ·rw [if_pos h1]
   intro he
   exact (h1 he).elim
  ·rw [if_neg h1]
   intro he
   have h1 : (valR [s] f 0 a m).2.2 = 0 := by simpa using h1
   rw [vptrs] at h
   cases hq : visV s f a nx with
   | none => rw [hq] at h; cases h
   | some q =>
    rw [hq] at h
    obtain ⟨i1, i2⟩ := H a nx q m (by omega) hn h1 hq
    have hqn := vis_bd ⟨m, h1⟩ (by omega) hn hq
    have e1 : (((valR [s] f 0 a m).2.1.toNat : Nat) : Int) = (valR [s] f 0 a m).2.1 := by omega
    have e2 : ((a + 1 : Nat) : Int) = (a : Int) + 1 := by omega
    dsimp only at he
    have := kids_lay H p (a + 1) q r (valR [s] f 0 a m).2.1.toNat (by omega) hqn (by rw [e1, e2]; exact he) h
    rw [e1, e2] at this
    obtain ⟨j1, j2, j3⟩ := this
    refine ⟨⟨q, i1, j1⟩, by simp [j2], fun j x hx => ?_⟩
    cases j with
    | zero =>
     simp only [List.getElem?_cons_zero, Option.some.injEq] at hx
     subst hx
     exact i2
    | succ j =>
     simp only [List.getElem?_cons_succ] at hx
     have := j3 j x hx
     rwa [show a + 1 + j = a + (j + 1) by omega] at this
theorem cut_lays {s : List Int} {a nx r : Nat} {kids : List S37} (h : lays s (kids.map ttrim) a nx r) : lays s ((kids.take (keptN nullN kids)).map ttrim) a nx r := by
  obtain ⟨m, h1, h2, h3⟩ := keptN_parts nullN kids
  have h4 := h
  rw [h1, List.map_append, lays_append] at h4
  obtain ⟨q, h5, h6⟩ := h4
  have := lays_null _ _ _ _ (fun x hx => by
    obtain ⟨y, hy, rfl⟩ := List.mem_map.1 hx
    rw [ttrim_f0]
    have := h2 y hy
    simpa [nullN] using this) h6
  exact this ▸ h5
end Go.Proofs.YtidglmocekghmaaDoor.Pr
end
