/- A part of the proof of YtmbockhcmhghlaaDoorDepthCard (the texts that it stands on, gathered; declarations that nothing uses are left out). -/
import Derived.Test.YtmbockhcmhghlaaDoorBNDA
import Derived.Below
import Derived.Deep.Draws
import Derived.Deep.AppendLies
import Derived.Maps.AppendAt
import Derived.OwnWalk
import Derived.Laws.BytesArg
import Derived.Laws.MakeOwn
import Derived.Laws.OwnMore
import Derived.Deep.OwnRows
import Derived.Tactics
import Derived.Lib.ConvBytes
import Derived.Laws.Slices
import Derived.WalkKit
import Derived.KernelRfl
import Derived.RowKit3
import Derived.Deep.LoopGhost
import Derived.Deep.QuietTactic
import Derived.BigQuiet
import Derived.WideLaws
import Derived.Deep.DeepCutAuto
import Derived.Deep.CutBlock
import Derived.Deep.RegionHeld3
import Derived.Laws.Rows
import Derived.Lib.AppendStr
import Derived.ArgAppend
import Derived.Laws.IdiomCopy
import Derived.RowKit
import Derived.OrdersHeld
import Derived.Laws.BitsLemmas
import Derived.Laws.StructEq
import Derived.SizedLaws
import Derived.ChangeSlices
import Derived.Test.YtmbockhcmhghlaaDoorProg
import Derived.Laws.AppendOwn
import Derived.WalkSpells
import Derived.Lib.Hide
import Derived.RangeFuncBox
import Derived.IntWalk
import Derived.OpenShut
import Derived.RangeFuncNested
import Derived.RangeFuncBound
import Derived.RangeFuncCalls
import Derived.RangeFuncLeaves
import Derived.Shelf.Abstract
import Derived.Shelf.RegionOpen
import Derived.OwnWalkIn
import Derived.TacticsInMore
import Derived.LoopNIn
import Derived.LoopIn
section
namespace Go.Proofs.YtmbockhcmhghlaaDoor.Pr
open Go.RowKit Go.Proofs.YtmbockhcmhghlaaDoorW.PrintWords Go.Proofs.YtmbockhcmhghlaaDoorW.PrintLast Go.Proofs.YtmbockhcmhghlaaDoorW.PrintMore
attribute [local go_sem] max2_int min2_int max_two min_two max_three min_three max_four min_four
set_option linter.unusedVariables false
set_option linter.unusedSimpArgs false
set_option maxHeartbeats 8000000 in
set_option maxRecDepth 100000 in
theorem capnpref10_Valid.calls (k : Nat) : ∀ (a0_0 : Int) (a0_1 : Int) (a0_2 : Int) (A0_3 : Option Addr) (c0_3 : Nat) (l0_3 : List Int) (A0_4 : Option Addr) (c0_4 : Nat) (l0_4 : List (S25)) (r : Bool) (w : World) (hr0_3 : Kd.C (Kd.int .u8) w A0_3 l0_3.length l0_3) (hc0_3 : l0_3.length ≤ c0_3) (hr0_4 : Kd.C k25 w A0_4 l0_4.length l0_4) (hc0_4 : l0_4.length ≤ c0_4) (h : capnpref10_Valid.f k a0_0 a0_1 a0_2 l0_3 l0_4 = some r),
  Calls Tryd.prog 11 #[.agg #[.int .i64 a0_0, .int .i64 a0_1, .int .i64 a0_2, .slice A0_3 l0_3.length c0_3, .slice A0_4 l0_4.length c0_4]] w fun e w' => e = .returned (.bool r) ∧ Below w.heap.size w w' := by
 induction k using Nat.strongRecOn with
 | _ k ih =>
 intro a0_0 a0_1 a0_2 A0_3 c0_3 l0_3 A0_4 c0_4 l0_4 r w hr0_3 hc0_3 hr0_4 hc0_4 h
 cases k with
 | zero => exact absurd h (by simp [capnpref10_Valid.f])
 | succ k =>
 simp only [capnpref10_Valid.f] at h
 have hu25 := Tryd.underlying25
 have HR0_3 := Aside0.mk hr0_3
 have HC0_3 := Aside0.mk hc0_3
 clear hr0_3 hc0_3
 have HR0_4 := Aside0.mk hr0_4
 have HC0_4 := Aside0.mk hc0_4
 clear hr0_4 hc0_4
 have HB := Aside0.mk (Below.refl w.heap.size w)
 have H : (capnpref10_Valid.l0 k 0 a0_0 a0_1 a0_2 l0_3 l0_4) = some r := h
 clear h
 have H' := Aside0.mk H
 clear H
 go_enter Tryd.func11, Tryd.ntmps11
 go_wp2_with (first | ((with_reducible refine gate_dst (N := 1) rfl ?_); (try (refine gate_guard (by rfl) ?_; dsimp only)); refine box_event ?hg (N := 1) ?hd (cs := #[.int .i64 a0_0, .int .i64 a0_1, .int .i64 a0_2, .slice A0_3 l0_3.length c0_3, .slice A0_4 l0_4.length c0_4]) (t := 25) ?hr ?_; (case hd => rfl); (case hg => rfl); (case hr => first | (go_simp; done) | (go_simp; rfl)); intro gb124 hg w2 hbox hb; have n0_ := Aside0.mk (below_step (by repeat (first | (with_reducible first | exact HB.out | apply below_alloc | apply pw_below_drewN | apply below_drew1) | exact HB.out)) hb); have n1_ := Aside0.mk (hbox); have n2_ := Aside0.mk ((by rw [hg]; exact (below_size (by repeat (first | (with_reducible first | exact HB.out | apply below_alloc | apply pw_below_drewN | apply below_drew1) | exact HB.out))) : w.heap.size ≤ gb124)); have n3_ := Aside0.mk ((by rw [hg]; exact (below_size (by repeat (first | (with_reducible first | exact HB.out | apply below_alloc | apply pw_below_drewN | apply below_drew1) | exact HB.out))) : w.heap.size ≤ gb124)); clear HB; have HB := n0_; have BK124 := n1_; have GW124 := n2_; have GE124 := n3_; clear n0_ n1_ n2_ n3_; clear hb hbox hg))
 go_loopg [3] k (fun kq v3 w' => ∃ (x3_1 : Int), v3 = .int .i64 x3_1 ∧ Aside0 (capnpref10_Valid.l0 kq x3_1 a0_0 a0_1 a0_2 l0_3 l0_4 = some r) ∧ Aside0 (kq ≤ k) ∧ Aside0 (w'.heap[gb124]? = some (.cells #[.int .i64 a0_0, .int .i64 a0_1, .int .i64 a0_2, (.slice A0_3 l0_3.length c0_3), (.slice A0_4 l0_4.length c0_4)] 25 (0, 0))) ∧ Aside0 (Below w.heap.size w w'))
 case atStart => exact ⟨(0), (by first | rfl | (simp; done) | (simp [*]; done)), H', ⟨Nat.le_refl _⟩, ⟨by (with_reducible repeat (first | refine blk_drewN ?_ _ | refine blk_drew ?_ | refine blk_alloc ?_ _)); exact BK124.out⟩, ⟨by repeat (first | (with_reducible first | exact HB.out | apply below_alloc | apply pw_below_drewN | apply below_drew1 | refine below_set ?_ GE124.out) | exact HB.out)⟩⟩
 case round =>
  clear H'
  try clear c1
  try clear p2
  try clear BK124
  obtain ⟨x3_1, rfl, HA, HK1, BK124, HB⟩ := hrel
  cases gk with
  | zero => exact absurd HA.out (by simp [capnpref10_Valid.l0])
  | succ k1 =>
   have H := HA.out
   clear HA
   simp only [capnpref10_Valid.l0] at H
   by_cases c3 : x3_1 < (l0_4.length : Int)
   ·rw [if_pos c3] at H
    have c3b0 : decide (x3_1 < (l0_4.length : Int)) = true := decide_eq_true c3
    clear c3
    by_cases c4 : 0 ≤ x3_1
    ·rw [if_pos c4] at H
     have c4b0 : decide (0 ≤ x3_1) = true := decide_eq_true c4
     clear c4
     replace H := Option.bind_eq_some_iff.mp H
     obtain ⟨t126, A50, H⟩ := H
     replace H : (if t126 = true then (if a0_0 = 2 then (if a0_1 = 7 then (if ((rd_T25 l0_4 x3_1).f0) = 1 then (capnpref10_Valid.l0 k1 (wrap64 (x3_1 + 1)) a0_0 a0_1 a0_2 l0_3 l0_4) else (some false)) else (capnpref10_Valid.l0 k1 (wrap64 (x3_1 + 1)) a0_0 a0_1 a0_2 l0_3 l0_4)) else (capnpref10_Valid.l0 k1 (wrap64 (x3_1 + 1)) a0_0 a0_1 a0_2 l0_3 l0_4)) else (some false)) = some r := H
     have A5 := Aside0.mk A50
     clear A50
     by_cases c6 : t126 = true
     ·subst c6
      have H1 : (if a0_0 = 2 then (if a0_1 = 7 then (if ((rd_T25 l0_4 x3_1).f0) = 1 then (capnpref10_Valid.l0 k1 (wrap64 (x3_1 + 1)) a0_0 a0_1 a0_2 l0_3 l0_4) else (some false)) else (capnpref10_Valid.l0 k1 (wrap64 (x3_1 + 1)) a0_0 a0_1 a0_2 l0_3 l0_4)) else (capnpref10_Valid.l0 k1 (wrap64 (x3_1 + 1)) a0_0 a0_1 a0_2 l0_3 l0_4)) = some r := by rw [if_pos rfl] at H; exact H
      clear H
      have H := H1
      clear H1
      by_cases c7 : a0_0 = 2
      ·rw [if_pos c7] at H
       have c7b0 : (a0_0 == 2) = true := beq_iff_eq.mpr c7
       have c7b1 : (a0_0 != 2) = false := bne_eq_false_iff_eq.mpr c7
       clear c7
       by_cases c8 : a0_1 = 7
       ·rw [if_pos c8] at H
        have c8b0 : (a0_1 == 7) = true := beq_iff_eq.mpr c8
        have c8b1 : (a0_1 != 7) = false := bne_eq_false_iff_eq.mpr c8
        clear c8
        by_cases c9 : ((rd_T25 l0_4 x3_1).f0) = 1
        ·rw [if_pos c9] at H
         have c9b0 : (((rd_T25 l0_4 x3_1).f0) == 1) = true := beq_iff_eq.mpr c9
         have c9b1 : (((rd_T25 l0_4 x3_1).f0) != 1) = false := bne_eq_false_iff_eq.mpr c9
         clear c9
         have H' := Aside0.mk H
         clear H
         have hcz10_0 : wr.cell? ⟨gb124, 0, none⟩ = some (.int .i64 a0_0) := (blk_cell BK124.out 0).trans rfl
         have hcz10_1 : wr.cell? ⟨gb124, 1, none⟩ = some (.int .i64 a0_1) := (blk_cell BK124.out 1).trans rfl
         have hcz10_2 : wr.cell? ⟨gb124, 2, none⟩ = some (.int .i64 a0_2) := (blk_cell BK124.out 2).trans rfl
         have hcz10_3 : wr.cell? ⟨gb124, 3, none⟩ = some (.slice A0_3 l0_3.length c0_3) := (blk_cell BK124.out 3).trans rfl
         have hcz10_4 : wr.cell? ⟨gb124, 4, none⟩ = some (.slice A0_4 l0_4.length c0_4) := (blk_cell BK124.out 4).trans rfl
         have hfz10_0 := blk_frozen BK124.out 0
         have hfz10_1 := blk_frozen BK124.out 1
         have hfz10_2 := blk_frozen BK124.out 2
         have hfz10_3 := blk_frozen BK124.out 3
         have hfz10_4 := blk_frozen BK124.out 4
         have p125 : 0 ≤ (x3_1 : Int) := of_decide_eq_true (by first | (with_reducible assumption) | assumption)
         have q125 : x3_1 < (l0_4.length : Int) := of_decide_eq_true (by first | (with_reducible assumption) | assumption)
         obtain ⟨ad125, A125_3, c125_3, A125_4, c125_4, e125, hx125_0, hx125_1, hx125_2, hx125_3, hx125_4, hl125_3, hi125_3, hl125_4, hi125_4⟩ := at_T25 HR0_4.out x3_1 p125 q125
         cases e125
         replace hx125_0 := (HB.out.cell (World.block_lt_of_cell? w _ hx125_0)).trans hx125_0
         replace hx125_1 := (HB.out.cell (World.block_lt_of_cell? w _ hx125_1)).trans hx125_1
         replace hx125_2 := (HB.out.cell (World.block_lt_of_cell? w _ hx125_2)).trans hx125_2
         replace hx125_3 := (HB.out.cell (World.block_lt_of_cell? w _ hx125_3)).trans hx125_3
         replace hx125_4 := (HB.out.cell (World.block_lt_of_cell? w _ hx125_4)).trans hx125_4
         have HR125_3 := Aside0.mk hi125_3
         have HC125_3 := Aside0.mk hl125_3
         clear hi125_3 hl125_3
         have HR125_4 := Aside0.mk hi125_4
         have HC125_4 := Aside0.mk hl125_4
         clear hi125_4 hl125_4
         replace p125 := eq_true p125
         replace q125 := eq_true q125
         go_wp2_with (first | ((with_reducible refine gate_callee (f := 11) rfl ?_); refine goesL_ (some 16) rfl rfl Tryd.func11 (by kernel_rfl) rfl #[.agg #[.int .i64 ((rd_T25 l0_4 x3_1).f0), .int .i64 ((rd_T25 l0_4 x3_1).f1), .int .i64 ((rd_T25 l0_4 x3_1).f2), .slice A125_3 ((rd_T25 l0_4 x3_1).f3).length c125_3, .slice A125_4 ((rd_T25 l0_4 x3_1).f4).length c125_4]] rfl (by (try simp only [List.map_toArray, List.map_cons, List.map_nil]); first | done | rfl | (simp only [List.length_drop, List.length_take]; rfl)) ?_; (with_reducible refine (ih k1 (by have := HK1.out; omega) ((rd_T25 l0_4 x3_1).f0) ((rd_T25 l0_4 x3_1).f1) ((rd_T25 l0_4 x3_1).f2) _ _ ((rd_T25 l0_4 x3_1).f3) _ _ ((rd_T25 l0_4 x3_1).f4) true _ ?side1 ?side2 ?side3 ?side4 A5.out).mono ?_); (case side1 => repeat (first | exact (Kd.C_below HR125_3.out HB.out) | (with_reducible refine Kd.C_alloc ?_ _) | (with_reducible refine Kd.C_drewN ?_ _) | (with_reducible refine Kd.C_drew ?_))); (case side2 => exact HC125_3.out); (case side3 => repeat (first | exact (Kd.C_below HR125_4.out HB.out) | (with_reducible refine Kd.C_alloc ?_ _) | (with_reducible refine Kd.C_drewN ?_ _) | (with_reducible refine Kd.C_drew ?_))); (case side4 => exact HC125_4.out); rintro e w11 ⟨rfl, hb⟩; refine ⟨_, rfl, ?_⟩; have n0_ := Aside0.mk (blk_below (g := gb124) (o := .cells #[.int .i64 a0_0, .int .i64 a0_1, .int .i64 a0_2, .slice A0_3 l0_3.length c0_3, .slice (some ad125) l0_4.length c0_4] 25 (0, 0)) (by (with_reducible repeat (first | refine blk_drewN ?_ _ | refine blk_drew ?_ | refine blk_alloc ?_ _)); exact BK124.out) hb); have n1_ := Aside0.mk (below_step (by repeat (first | (with_reducible first | exact HB.out | apply below_alloc | apply pw_below_drewN | apply below_drew1 | refine below_set ?_ GE124.out) | exact HB.out)) hb); clear BK124; clear HB; have BK124 := n0_; have HB := n1_; clear n0_ n1_; (try clear hb); (try clear hb2); (try clear hk); (try clear hi); have hcz12_0 : w11.cell? ⟨gb124, 0, none⟩ = some (.int .i64 a0_0) := (blk_cell BK124.out 0).trans rfl; have hcz12_1 : w11.cell? ⟨gb124, 1, none⟩ = some (.int .i64 a0_1) := (blk_cell BK124.out 1).trans rfl; have hcz12_2 : w11.cell? ⟨gb124, 2, none⟩ = some (.int .i64 a0_2) := (blk_cell BK124.out 2).trans rfl; have hcz12_3 : w11.cell? ⟨gb124, 3, none⟩ = some (.slice A0_3 l0_3.length c0_3) := (blk_cell BK124.out 3).trans rfl; have hcz12_4 : w11.cell? ⟨gb124, 4, none⟩ = some (.slice (some ad125) l0_4.length c0_4) := (blk_cell BK124.out 4).trans rfl; have hfz12_0 := blk_frozen BK124.out 0; have hfz12_1 := blk_frozen BK124.out 1; have hfz12_2 := blk_frozen BK124.out 2; have hfz12_3 := blk_frozen BK124.out 3; have hfz12_4 := blk_frozen BK124.out 4; have p127 : 0 ≤ (x3_1 : Int) := of_decide_eq_true (by first | (with_reducible assumption) | assumption); have q127 : x3_1 < (l0_4.length : Int) := of_decide_eq_true (by first | (with_reducible assumption) | assumption); obtain ⟨ad127, A127_3, c127_3, A127_4, c127_4, e127, hx127_0, hx127_1, hx127_2, hx127_3, hx127_4, hl127_3, hi127_3, hl127_4, hi127_4⟩ := at_T25 HR0_4.out x3_1 p127 q127; obtain rfl : ad125 = ad127 := (by injection e127); replace hx127_0 := (HB.out.cell (World.block_lt_of_cell? w _ hx127_0)).trans hx127_0; replace hx127_1 := (HB.out.cell (World.block_lt_of_cell? w _ hx127_1)).trans hx127_1; replace hx127_2 := (HB.out.cell (World.block_lt_of_cell? w _ hx127_2)).trans hx127_2; replace hx127_3 := (HB.out.cell (World.block_lt_of_cell? w _ hx127_3)).trans hx127_3; replace hx127_4 := (HB.out.cell (World.block_lt_of_cell? w _ hx127_4)).trans hx127_4; have HR127_3 := Aside0.mk hi127_3; have HC127_3 := Aside0.mk hl127_3; clear hi127_3 hl127_3; have HR127_4 := Aside0.mk hi127_4; have HC127_4 := Aside0.mk hl127_4; clear hi127_4 hl127_4; replace p127 := eq_true p127; replace q127 := eq_true q127))
         go_roundg k1
         case measure => have := HK1.out; omega
         case rel => exact ⟨(wrap64 (x3_1 + 1)), (by first | rfl | (simp; done) | (simp [*]; done)), H', ⟨by have := HK1.out; omega⟩, ⟨by (with_reducible repeat (first | refine blk_drewN ?_ _ | refine blk_drew ?_ | refine blk_alloc ?_ _)); exact BK124.out⟩, ⟨by repeat (first | (with_reducible first | exact HB.out | apply below_alloc | apply pw_below_drewN | apply below_drew1 | refine below_set ?_ GE124.out) | exact HB.out)⟩⟩
        ·rw [if_neg c9] at H
         have c9b0 : (((rd_T25 l0_4 x3_1).f0) == 1) = false := beq_eq_false_iff_ne.mpr c9
         have c9b1 : (((rd_T25 l0_4 x3_1).f0) != 1) = true := bne_iff_ne.mpr c9
         obtain rfl := Option.some.inj H
         have hcz13_0 : wr.cell? ⟨gb124, 0, none⟩ = some (.int .i64 a0_0) := (blk_cell BK124.out 0).trans rfl
         have hcz13_1 : wr.cell? ⟨gb124, 1, none⟩ = some (.int .i64 a0_1) := (blk_cell BK124.out 1).trans rfl
         have hcz13_2 : wr.cell? ⟨gb124, 2, none⟩ = some (.int .i64 a0_2) := (blk_cell BK124.out 2).trans rfl
         have hcz13_3 : wr.cell? ⟨gb124, 3, none⟩ = some (.slice A0_3 l0_3.length c0_3) := (blk_cell BK124.out 3).trans rfl
         have hcz13_4 : wr.cell? ⟨gb124, 4, none⟩ = some (.slice A0_4 l0_4.length c0_4) := (blk_cell BK124.out 4).trans rfl
         have hfz13_0 := blk_frozen BK124.out 0
         have hfz13_1 := blk_frozen BK124.out 1
         have hfz13_2 := blk_frozen BK124.out 2
         have hfz13_3 := blk_frozen BK124.out 3
         have hfz13_4 := blk_frozen BK124.out 4
         have p125 : 0 ≤ (x3_1 : Int) := of_decide_eq_true (by first | (with_reducible assumption) | assumption)
         have q125 : x3_1 < (l0_4.length : Int) := of_decide_eq_true (by first | (with_reducible assumption) | assumption)
         obtain ⟨ad125, A125_3, c125_3, A125_4, c125_4, e125, hx125_0, hx125_1, hx125_2, hx125_3, hx125_4, hl125_3, hi125_3, hl125_4, hi125_4⟩ := at_T25 HR0_4.out x3_1 p125 q125
         cases e125
         replace hx125_0 := (HB.out.cell (World.block_lt_of_cell? w _ hx125_0)).trans hx125_0
         replace hx125_1 := (HB.out.cell (World.block_lt_of_cell? w _ hx125_1)).trans hx125_1
         replace hx125_2 := (HB.out.cell (World.block_lt_of_cell? w _ hx125_2)).trans hx125_2
         replace hx125_3 := (HB.out.cell (World.block_lt_of_cell? w _ hx125_3)).trans hx125_3
         replace hx125_4 := (HB.out.cell (World.block_lt_of_cell? w _ hx125_4)).trans hx125_4
         have HR125_3 := Aside0.mk hi125_3
         have HC125_3 := Aside0.mk hl125_3
         clear hi125_3 hl125_3
         have HR125_4 := Aside0.mk hi125_4
         have HC125_4 := Aside0.mk hl125_4
         clear hi125_4 hl125_4
         replace p125 := eq_true p125
         replace q125 := eq_true q125
         go_wp2_with (first | ((with_reducible refine gate_callee (f := 11) rfl ?_); refine goesL_ (some 16) rfl rfl Tryd.func11 (by kernel_rfl) rfl #[.agg #[.int .i64 ((rd_T25 l0_4 x3_1).f0), .int .i64 ((rd_T25 l0_4 x3_1).f1), .int .i64 ((rd_T25 l0_4 x3_1).f2), .slice A125_3 ((rd_T25 l0_4 x3_1).f3).length c125_3, .slice A125_4 ((rd_T25 l0_4 x3_1).f4).length c125_4]] rfl (by (try simp only [List.map_toArray, List.map_cons, List.map_nil]); first | done | rfl | (simp only [List.length_drop, List.length_take]; rfl)) ?_; (with_reducible refine (ih k1 (by have := HK1.out; omega) ((rd_T25 l0_4 x3_1).f0) ((rd_T25 l0_4 x3_1).f1) ((rd_T25 l0_4 x3_1).f2) _ _ ((rd_T25 l0_4 x3_1).f3) _ _ ((rd_T25 l0_4 x3_1).f4) true _ ?side1 ?side2 ?side3 ?side4 A5.out).mono ?_); (case side1 => repeat (first | exact (Kd.C_below HR125_3.out HB.out) | (with_reducible refine Kd.C_alloc ?_ _) | (with_reducible refine Kd.C_drewN ?_ _) | (with_reducible refine Kd.C_drew ?_))); (case side2 => exact HC125_3.out); (case side3 => repeat (first | exact (Kd.C_below HR125_4.out HB.out) | (with_reducible refine Kd.C_alloc ?_ _) | (with_reducible refine Kd.C_drewN ?_ _) | (with_reducible refine Kd.C_drew ?_))); (case side4 => exact HC125_4.out); rintro e w14 ⟨rfl, hb⟩; refine ⟨_, rfl, ?_⟩; have n0_ := Aside0.mk (blk_below (g := gb124) (o := .cells #[.int .i64 a0_0, .int .i64 a0_1, .int .i64 a0_2, .slice A0_3 l0_3.length c0_3, .slice (some ad125) l0_4.length c0_4] 25 (0, 0)) (by (with_reducible repeat (first | refine blk_drewN ?_ _ | refine blk_drew ?_ | refine blk_alloc ?_ _)); exact BK124.out) hb); have n1_ := Aside0.mk (below_step (by repeat (first | (with_reducible first | exact HB.out | apply below_alloc | apply pw_below_drewN | apply below_drew1 | refine below_set ?_ GE124.out) | exact HB.out)) hb); clear BK124; clear HB; have BK124 := n0_; have HB := n1_; clear n0_ n1_; (try clear hb); (try clear hb2); (try clear hk); (try clear hi); have hcz15_0 : w14.cell? ⟨gb124, 0, none⟩ = some (.int .i64 a0_0) := (blk_cell BK124.out 0).trans rfl; have hcz15_1 : w14.cell? ⟨gb124, 1, none⟩ = some (.int .i64 a0_1) := (blk_cell BK124.out 1).trans rfl; have hcz15_2 : w14.cell? ⟨gb124, 2, none⟩ = some (.int .i64 a0_2) := (blk_cell BK124.out 2).trans rfl; have hcz15_3 : w14.cell? ⟨gb124, 3, none⟩ = some (.slice A0_3 l0_3.length c0_3) := (blk_cell BK124.out 3).trans rfl; have hcz15_4 : w14.cell? ⟨gb124, 4, none⟩ = some (.slice (some ad125) l0_4.length c0_4) := (blk_cell BK124.out 4).trans rfl; have hfz15_0 := blk_frozen BK124.out 0; have hfz15_1 := blk_frozen BK124.out 1; have hfz15_2 := blk_frozen BK124.out 2; have hfz15_3 := blk_frozen BK124.out 3; have hfz15_4 := blk_frozen BK124.out 4; have p127 : 0 ≤ (x3_1 : Int) := of_decide_eq_true (by first | (with_reducible assumption) | assumption); have q127 : x3_1 < (l0_4.length : Int) := of_decide_eq_true (by first | (with_reducible assumption) | assumption); obtain ⟨ad127, A127_3, c127_3, A127_4, c127_4, e127, hx127_0, hx127_1, hx127_2, hx127_3, hx127_4, hl127_3, hi127_3, hl127_4, hi127_4⟩ := at_T25 HR0_4.out x3_1 p127 q127; obtain rfl : ad125 = ad127 := (by injection e127); replace hx127_0 := (HB.out.cell (World.block_lt_of_cell? w _ hx127_0)).trans hx127_0; replace hx127_1 := (HB.out.cell (World.block_lt_of_cell? w _ hx127_1)).trans hx127_1; replace hx127_2 := (HB.out.cell (World.block_lt_of_cell? w _ hx127_2)).trans hx127_2; replace hx127_3 := (HB.out.cell (World.block_lt_of_cell? w _ hx127_3)).trans hx127_3; replace hx127_4 := (HB.out.cell (World.block_lt_of_cell? w _ hx127_4)).trans hx127_4; have HR127_3 := Aside0.mk hi127_3; have HC127_3 := Aside0.mk hl127_3; clear hi127_3 hl127_3; have HR127_4 := Aside0.mk hi127_4; have HC127_4 := Aside0.mk hl127_4; clear hi127_4 hl127_4; replace p127 := eq_true p127; replace q127 := eq_true q127))
         go_ret
         exact ⟨by first | rfl | (simp [errW_none, errW_some] <;> rfl) | (simp [*, errW_none, errW_some] <;> rfl), by repeat (first | (with_reducible first | exact HB.out | apply below_alloc | apply pw_below_drewN | apply below_drew1 | refine below_set ?_ GE124.out) | exact HB.out)⟩
       ·rw [if_neg c8] at H
        have c8b0 : (a0_1 == 7) = false := beq_eq_false_iff_ne.mpr c8
        have c8b1 : (a0_1 != 7) = true := bne_iff_ne.mpr c8
        have H' := Aside0.mk H
        clear H
        have hcz16_0 : wr.cell? ⟨gb124, 0, none⟩ = some (.int .i64 a0_0) := (blk_cell BK124.out 0).trans rfl
        have hcz16_1 : wr.cell? ⟨gb124, 1, none⟩ = some (.int .i64 a0_1) := (blk_cell BK124.out 1).trans rfl
        have hcz16_2 : wr.cell? ⟨gb124, 2, none⟩ = some (.int .i64 a0_2) := (blk_cell BK124.out 2).trans rfl
        have hcz16_3 : wr.cell? ⟨gb124, 3, none⟩ = some (.slice A0_3 l0_3.length c0_3) := (blk_cell BK124.out 3).trans rfl
        have hcz16_4 : wr.cell? ⟨gb124, 4, none⟩ = some (.slice A0_4 l0_4.length c0_4) := (blk_cell BK124.out 4).trans rfl
        have hfz16_0 := blk_frozen BK124.out 0
        have hfz16_1 := blk_frozen BK124.out 1
        have hfz16_2 := blk_frozen BK124.out 2
        have hfz16_3 := blk_frozen BK124.out 3
        have hfz16_4 := blk_frozen BK124.out 4
        have p125 : 0 ≤ (x3_1 : Int) := of_decide_eq_true (by first | (with_reducible assumption) | assumption)
        have q125 : x3_1 < (l0_4.length : Int) := of_decide_eq_true (by first | (with_reducible assumption) | assumption)
        obtain ⟨ad125, A125_3, c125_3, A125_4, c125_4, e125, hx125_0, hx125_1, hx125_2, hx125_3, hx125_4, hl125_3, hi125_3, hl125_4, hi125_4⟩ := at_T25 HR0_4.out x3_1 p125 q125
        cases e125
        replace hx125_0 := (HB.out.cell (World.block_lt_of_cell? w _ hx125_0)).trans hx125_0
        replace hx125_1 := (HB.out.cell (World.block_lt_of_cell? w _ hx125_1)).trans hx125_1
        replace hx125_2 := (HB.out.cell (World.block_lt_of_cell? w _ hx125_2)).trans hx125_2
        replace hx125_3 := (HB.out.cell (World.block_lt_of_cell? w _ hx125_3)).trans hx125_3
        replace hx125_4 := (HB.out.cell (World.block_lt_of_cell? w _ hx125_4)).trans hx125_4
        have HR125_3 := Aside0.mk hi125_3
        have HC125_3 := Aside0.mk hl125_3
        clear hi125_3 hl125_3
        have HR125_4 := Aside0.mk hi125_4
        have HC125_4 := Aside0.mk hl125_4
        clear hi125_4 hl125_4
        replace p125 := eq_true p125
        replace q125 := eq_true q125
        go_wp2_with (first | ((with_reducible refine gate_callee (f := 11) rfl ?_); refine goesL_ (some 16) rfl rfl Tryd.func11 (by kernel_rfl) rfl #[.agg #[.int .i64 ((rd_T25 l0_4 x3_1).f0), .int .i64 ((rd_T25 l0_4 x3_1).f1), .int .i64 ((rd_T25 l0_4 x3_1).f2), .slice A125_3 ((rd_T25 l0_4 x3_1).f3).length c125_3, .slice A125_4 ((rd_T25 l0_4 x3_1).f4).length c125_4]] rfl (by (try simp only [List.map_toArray, List.map_cons, List.map_nil]); first | done | rfl | (simp only [List.length_drop, List.length_take]; rfl)) ?_; (with_reducible refine (ih k1 (by have := HK1.out; omega) ((rd_T25 l0_4 x3_1).f0) ((rd_T25 l0_4 x3_1).f1) ((rd_T25 l0_4 x3_1).f2) _ _ ((rd_T25 l0_4 x3_1).f3) _ _ ((rd_T25 l0_4 x3_1).f4) true _ ?side1 ?side2 ?side3 ?side4 A5.out).mono ?_); (case side1 => repeat (first | exact (Kd.C_below HR125_3.out HB.out) | (with_reducible refine Kd.C_alloc ?_ _) | (with_reducible refine Kd.C_drewN ?_ _) | (with_reducible refine Kd.C_drew ?_))); (case side2 => exact HC125_3.out); (case side3 => repeat (first | exact (Kd.C_below HR125_4.out HB.out) | (with_reducible refine Kd.C_alloc ?_ _) | (with_reducible refine Kd.C_drewN ?_ _) | (with_reducible refine Kd.C_drew ?_))); (case side4 => exact HC125_4.out); rintro e w17 ⟨rfl, hb⟩; refine ⟨_, rfl, ?_⟩; have n0_ := Aside0.mk (blk_below (g := gb124) (o := .cells #[.int .i64 a0_0, .int .i64 a0_1, .int .i64 a0_2, .slice A0_3 l0_3.length c0_3, .slice (some ad125) l0_4.length c0_4] 25 (0, 0)) (by (with_reducible repeat (first | refine blk_drewN ?_ _ | refine blk_drew ?_ | refine blk_alloc ?_ _)); exact BK124.out) hb); have n1_ := Aside0.mk (below_step (by repeat (first | (with_reducible first | exact HB.out | apply below_alloc | apply pw_below_drewN | apply below_drew1 | refine below_set ?_ GE124.out) | exact HB.out)) hb); clear BK124; clear HB; have BK124 := n0_; have HB := n1_; clear n0_ n1_; (try clear hb); (try clear hb2); (try clear hk); (try clear hi); have hcz18_0 : w17.cell? ⟨gb124, 0, none⟩ = some (.int .i64 a0_0) := (blk_cell BK124.out 0).trans rfl; have hcz18_1 : w17.cell? ⟨gb124, 1, none⟩ = some (.int .i64 a0_1) := (blk_cell BK124.out 1).trans rfl; have hcz18_2 : w17.cell? ⟨gb124, 2, none⟩ = some (.int .i64 a0_2) := (blk_cell BK124.out 2).trans rfl; have hcz18_3 : w17.cell? ⟨gb124, 3, none⟩ = some (.slice A0_3 l0_3.length c0_3) := (blk_cell BK124.out 3).trans rfl; have hcz18_4 : w17.cell? ⟨gb124, 4, none⟩ = some (.slice (some ad125) l0_4.length c0_4) := (blk_cell BK124.out 4).trans rfl; have hfz18_0 := blk_frozen BK124.out 0; have hfz18_1 := blk_frozen BK124.out 1; have hfz18_2 := blk_frozen BK124.out 2; have hfz18_3 := blk_frozen BK124.out 3; have hfz18_4 := blk_frozen BK124.out 4))
        go_roundg k1
        case measure => have := HK1.out; omega
        case rel => exact ⟨(wrap64 (x3_1 + 1)), (by first | rfl | (simp; done) | (simp [*]; done)), H', ⟨by have := HK1.out; omega⟩, ⟨by (with_reducible repeat (first | refine blk_drewN ?_ _ | refine blk_drew ?_ | refine blk_alloc ?_ _)); exact BK124.out⟩, ⟨by repeat (first | (with_reducible first | exact HB.out | apply below_alloc | apply pw_below_drewN | apply below_drew1 | refine below_set ?_ GE124.out) | exact HB.out)⟩⟩
      ·rw [if_neg c7] at H
       have c7b0 : (a0_0 == 2) = false := beq_eq_false_iff_ne.mpr c7
       have c7b1 : (a0_0 != 2) = true := bne_iff_ne.mpr c7
       have H' := Aside0.mk H
       clear H
       have hcz19_0 : wr.cell? ⟨gb124, 0, none⟩ = some (.int .i64 a0_0) := (blk_cell BK124.out 0).trans rfl
       have hcz19_1 : wr.cell? ⟨gb124, 1, none⟩ = some (.int .i64 a0_1) := (blk_cell BK124.out 1).trans rfl
       have hcz19_2 : wr.cell? ⟨gb124, 2, none⟩ = some (.int .i64 a0_2) := (blk_cell BK124.out 2).trans rfl
       have hcz19_3 : wr.cell? ⟨gb124, 3, none⟩ = some (.slice A0_3 l0_3.length c0_3) := (blk_cell BK124.out 3).trans rfl
       have hcz19_4 : wr.cell? ⟨gb124, 4, none⟩ = some (.slice A0_4 l0_4.length c0_4) := (blk_cell BK124.out 4).trans rfl
       have hfz19_0 := blk_frozen BK124.out 0
       have hfz19_1 := blk_frozen BK124.out 1
       have hfz19_2 := blk_frozen BK124.out 2
       have hfz19_3 := blk_frozen BK124.out 3
       have hfz19_4 := blk_frozen BK124.out 4
       have p125 : 0 ≤ (x3_1 : Int) := of_decide_eq_true (by first | (with_reducible assumption) | assumption)
       have q125 : x3_1 < (l0_4.length : Int) := of_decide_eq_true (by first | (with_reducible assumption) | assumption)
       obtain ⟨ad125, A125_3, c125_3, A125_4, c125_4, e125, hx125_0, hx125_1, hx125_2, hx125_3, hx125_4, hl125_3, hi125_3, hl125_4, hi125_4⟩ := at_T25 HR0_4.out x3_1 p125 q125
       cases e125
       replace hx125_0 := (HB.out.cell (World.block_lt_of_cell? w _ hx125_0)).trans hx125_0
       replace hx125_1 := (HB.out.cell (World.block_lt_of_cell? w _ hx125_1)).trans hx125_1
       replace hx125_2 := (HB.out.cell (World.block_lt_of_cell? w _ hx125_2)).trans hx125_2
       replace hx125_3 := (HB.out.cell (World.block_lt_of_cell? w _ hx125_3)).trans hx125_3
       replace hx125_4 := (HB.out.cell (World.block_lt_of_cell? w _ hx125_4)).trans hx125_4
       have HR125_3 := Aside0.mk hi125_3
       have HC125_3 := Aside0.mk hl125_3
       clear hi125_3 hl125_3
       have HR125_4 := Aside0.mk hi125_4
       have HC125_4 := Aside0.mk hl125_4
       clear hi125_4 hl125_4
       replace p125 := eq_true p125
       replace q125 := eq_true q125
       go_wp2_with (first | ((with_reducible refine gate_callee (f := 11) rfl ?_); refine goesL_ (some 16) rfl rfl Tryd.func11 (by kernel_rfl) rfl #[.agg #[.int .i64 ((rd_T25 l0_4 x3_1).f0), .int .i64 ((rd_T25 l0_4 x3_1).f1), .int .i64 ((rd_T25 l0_4 x3_1).f2), .slice A125_3 ((rd_T25 l0_4 x3_1).f3).length c125_3, .slice A125_4 ((rd_T25 l0_4 x3_1).f4).length c125_4]] rfl (by (try simp only [List.map_toArray, List.map_cons, List.map_nil]); first | done | rfl | (simp only [List.length_drop, List.length_take]; rfl)) ?_; (with_reducible refine (ih k1 (by have := HK1.out; omega) ((rd_T25 l0_4 x3_1).f0) ((rd_T25 l0_4 x3_1).f1) ((rd_T25 l0_4 x3_1).f2) _ _ ((rd_T25 l0_4 x3_1).f3) _ _ ((rd_T25 l0_4 x3_1).f4) true _ ?side1 ?side2 ?side3 ?side4 A5.out).mono ?_); (case side1 => repeat (first | exact (Kd.C_below HR125_3.out HB.out) | (with_reducible refine Kd.C_alloc ?_ _) | (with_reducible refine Kd.C_drewN ?_ _) | (with_reducible refine Kd.C_drew ?_))); (case side2 => exact HC125_3.out); (case side3 => repeat (first | exact (Kd.C_below HR125_4.out HB.out) | (with_reducible refine Kd.C_alloc ?_ _) | (with_reducible refine Kd.C_drewN ?_ _) | (with_reducible refine Kd.C_drew ?_))); (case side4 => exact HC125_4.out); rintro e w20 ⟨rfl, hb⟩; refine ⟨_, rfl, ?_⟩; have n0_ := Aside0.mk (blk_below (g := gb124) (o := .cells #[.int .i64 a0_0, .int .i64 a0_1, .int .i64 a0_2, .slice A0_3 l0_3.length c0_3, .slice (some ad125) l0_4.length c0_4] 25 (0, 0)) (by (with_reducible repeat (first | refine blk_drewN ?_ _ | refine blk_drew ?_ | refine blk_alloc ?_ _)); exact BK124.out) hb); have n1_ := Aside0.mk (below_step (by repeat (first | (with_reducible first | exact HB.out | apply below_alloc | apply pw_below_drewN | apply below_drew1 | refine below_set ?_ GE124.out) | exact HB.out)) hb); clear BK124; clear HB; have BK124 := n0_; have HB := n1_; clear n0_ n1_; (try clear hb); (try clear hb2); (try clear hk); (try clear hi); have hcz21_0 : w20.cell? ⟨gb124, 0, none⟩ = some (.int .i64 a0_0) := (blk_cell BK124.out 0).trans rfl; have hcz21_1 : w20.cell? ⟨gb124, 1, none⟩ = some (.int .i64 a0_1) := (blk_cell BK124.out 1).trans rfl; have hcz21_2 : w20.cell? ⟨gb124, 2, none⟩ = some (.int .i64 a0_2) := (blk_cell BK124.out 2).trans rfl; have hcz21_3 : w20.cell? ⟨gb124, 3, none⟩ = some (.slice A0_3 l0_3.length c0_3) := (blk_cell BK124.out 3).trans rfl; have hcz21_4 : w20.cell? ⟨gb124, 4, none⟩ = some (.slice (some ad125) l0_4.length c0_4) := (blk_cell BK124.out 4).trans rfl; have hfz21_0 := blk_frozen BK124.out 0; have hfz21_1 := blk_frozen BK124.out 1; have hfz21_2 := blk_frozen BK124.out 2; have hfz21_3 := blk_frozen BK124.out 3; have hfz21_4 := blk_frozen BK124.out 4))
       go_roundg k1
       case measure => have := HK1.out; omega
       case rel => exact ⟨(wrap64 (x3_1 + 1)), (by first | rfl | (simp; done) | (simp [*]; done)), H', ⟨by have := HK1.out; omega⟩, ⟨by (with_reducible repeat (first | refine blk_drewN ?_ _ | refine blk_drew ?_ | refine blk_alloc ?_ _)); exact BK124.out⟩, ⟨by repeat (first | (with_reducible first | exact HB.out | apply below_alloc | apply pw_below_drewN | apply below_drew1 | refine below_set ?_ GE124.out) | exact HB.out)⟩⟩
     ·replace c6 := Bool.eq_false_iff.mpr c6
      subst c6
      have H1 : (some false) = some r := by rw [if_neg (show ¬ (false = true) by decide)] at H; exact H
      clear H
      have H := H1
      clear H1
      obtain rfl := Option.some.inj H
      have hcz22_0 : wr.cell? ⟨gb124, 0, none⟩ = some (.int .i64 a0_0) := (blk_cell BK124.out 0).trans rfl
      have hcz22_1 : wr.cell? ⟨gb124, 1, none⟩ = some (.int .i64 a0_1) := (blk_cell BK124.out 1).trans rfl
      have hcz22_2 : wr.cell? ⟨gb124, 2, none⟩ = some (.int .i64 a0_2) := (blk_cell BK124.out 2).trans rfl
      have hcz22_3 : wr.cell? ⟨gb124, 3, none⟩ = some (.slice A0_3 l0_3.length c0_3) := (blk_cell BK124.out 3).trans rfl
      have hcz22_4 : wr.cell? ⟨gb124, 4, none⟩ = some (.slice A0_4 l0_4.length c0_4) := (blk_cell BK124.out 4).trans rfl
      have hfz22_0 := blk_frozen BK124.out 0
      have hfz22_1 := blk_frozen BK124.out 1
      have hfz22_2 := blk_frozen BK124.out 2
      have hfz22_3 := blk_frozen BK124.out 3
      have hfz22_4 := blk_frozen BK124.out 4
      have p125 : 0 ≤ (x3_1 : Int) := of_decide_eq_true (by first | (with_reducible assumption) | assumption)
      have q125 : x3_1 < (l0_4.length : Int) := of_decide_eq_true (by first | (with_reducible assumption) | assumption)
      obtain ⟨ad125, A125_3, c125_3, A125_4, c125_4, e125, hx125_0, hx125_1, hx125_2, hx125_3, hx125_4, hl125_3, hi125_3, hl125_4, hi125_4⟩ := at_T25 HR0_4.out x3_1 p125 q125
      cases e125
      replace hx125_0 := (HB.out.cell (World.block_lt_of_cell? w _ hx125_0)).trans hx125_0
      replace hx125_1 := (HB.out.cell (World.block_lt_of_cell? w _ hx125_1)).trans hx125_1
      replace hx125_2 := (HB.out.cell (World.block_lt_of_cell? w _ hx125_2)).trans hx125_2
      replace hx125_3 := (HB.out.cell (World.block_lt_of_cell? w _ hx125_3)).trans hx125_3
      replace hx125_4 := (HB.out.cell (World.block_lt_of_cell? w _ hx125_4)).trans hx125_4
      have HR125_3 := Aside0.mk hi125_3
      have HC125_3 := Aside0.mk hl125_3
      clear hi125_3 hl125_3
      have HR125_4 := Aside0.mk hi125_4
      have HC125_4 := Aside0.mk hl125_4
      clear hi125_4 hl125_4
      replace p125 := eq_true p125
      replace q125 := eq_true q125
      go_wp2_with (first | ((with_reducible refine gate_callee (f := 11) rfl ?_); refine goesL_ (some 16) rfl rfl Tryd.func11 (by kernel_rfl) rfl #[.agg #[.int .i64 ((rd_T25 l0_4 x3_1).f0), .int .i64 ((rd_T25 l0_4 x3_1).f1), .int .i64 ((rd_T25 l0_4 x3_1).f2), .slice A125_3 ((rd_T25 l0_4 x3_1).f3).length c125_3, .slice A125_4 ((rd_T25 l0_4 x3_1).f4).length c125_4]] rfl (by (try simp only [List.map_toArray, List.map_cons, List.map_nil]); first | done | rfl | (simp only [List.length_drop, List.length_take]; rfl)) ?_; (with_reducible refine (ih k1 (by have := HK1.out; omega) ((rd_T25 l0_4 x3_1).f0) ((rd_T25 l0_4 x3_1).f1) ((rd_T25 l0_4 x3_1).f2) _ _ ((rd_T25 l0_4 x3_1).f3) _ _ ((rd_T25 l0_4 x3_1).f4) false _ ?side1 ?side2 ?side3 ?side4 A5.out).mono ?_); (case side1 => repeat (first | exact (Kd.C_below HR125_3.out HB.out) | (with_reducible refine Kd.C_alloc ?_ _) | (with_reducible refine Kd.C_drewN ?_ _) | (with_reducible refine Kd.C_drew ?_))); (case side2 => exact HC125_3.out); (case side3 => repeat (first | exact (Kd.C_below HR125_4.out HB.out) | (with_reducible refine Kd.C_alloc ?_ _) | (with_reducible refine Kd.C_drewN ?_ _) | (with_reducible refine Kd.C_drew ?_))); (case side4 => exact HC125_4.out); rintro e w23 ⟨rfl, hb⟩; refine ⟨_, rfl, ?_⟩; have n0_ := Aside0.mk (blk_below (g := gb124) (o := .cells #[.int .i64 a0_0, .int .i64 a0_1, .int .i64 a0_2, .slice A0_3 l0_3.length c0_3, .slice (some ad125) l0_4.length c0_4] 25 (0, 0)) (by (with_reducible repeat (first | refine blk_drewN ?_ _ | refine blk_drew ?_ | refine blk_alloc ?_ _)); exact BK124.out) hb); have n1_ := Aside0.mk (below_step (by repeat (first | (with_reducible first | exact HB.out | apply below_alloc | apply pw_below_drewN | apply below_drew1 | refine below_set ?_ GE124.out) | exact HB.out)) hb); clear BK124; clear HB; have BK124 := n0_; have HB := n1_; clear n0_ n1_; (try clear hb); (try clear hb2); (try clear hk); (try clear hi)))
      go_ret
      exact ⟨by first | rfl | (simp [errW_none, errW_some] <;> rfl) | (simp [*, errW_none, errW_some] <;> rfl), by repeat (first | (with_reducible first | exact HB.out | apply below_alloc | apply pw_below_drewN | apply below_drew1 | refine below_set ?_ GE124.out) | exact HB.out)⟩
    ·rw [if_neg c4] at H
     exact absurd H (by simp)
   ·rw [if_neg c3] at H
    have c3b0 : decide (x3_1 < (l0_4.length : Int)) = false := decide_eq_false c3
    clear c3
    by_cases c24 : a0_0 = 0
    ·rw [if_pos c24] at H
     have c24b0 : (a0_0 == 0) = true := beq_iff_eq.mpr c24
     have c24b1 : (a0_0 != 0) = false := bne_eq_false_iff_eq.mpr c24
     clear c24
     by_cases c25 : a0_1 = 0
     ·rw [if_pos c25] at H
      have c25b0 : (a0_1 == 0) = true := beq_iff_eq.mpr c25
      have c25b1 : (a0_1 != 0) = false := bne_eq_false_iff_eq.mpr c25
      clear c25
      by_cases c26 : a0_2 = 0
      ·rw [if_pos c26] at H
       have c26b0 : (a0_2 == 0) = true := beq_iff_eq.mpr c26
       have c26b1 : (a0_2 != 0) = false := bne_eq_false_iff_eq.mpr c26
       clear c26
       by_cases c27 : (l0_3.length : Int) = 0
       ·rw [if_pos c27] at H
        have c27b0 : ((l0_3.length : Int) == 0) = true := beq_iff_eq.mpr c27
        have c27b1 : ((l0_3.length : Int) != 0) = false := bne_eq_false_iff_eq.mpr c27
        clear c27
        obtain rfl := Option.some.inj H
        have hcz28_0 : wr.cell? ⟨gb124, 0, none⟩ = some (.int .i64 a0_0) := (blk_cell BK124.out 0).trans rfl
        have hcz28_1 : wr.cell? ⟨gb124, 1, none⟩ = some (.int .i64 a0_1) := (blk_cell BK124.out 1).trans rfl
        have hcz28_2 : wr.cell? ⟨gb124, 2, none⟩ = some (.int .i64 a0_2) := (blk_cell BK124.out 2).trans rfl
        have hcz28_3 : wr.cell? ⟨gb124, 3, none⟩ = some (.slice A0_3 l0_3.length c0_3) := (blk_cell BK124.out 3).trans rfl
        have hcz28_4 : wr.cell? ⟨gb124, 4, none⟩ = some (.slice A0_4 l0_4.length c0_4) := (blk_cell BK124.out 4).trans rfl
        have hfz28_0 := blk_frozen BK124.out 0
        have hfz28_1 := blk_frozen BK124.out 1
        have hfz28_2 := blk_frozen BK124.out 2
        have hfz28_3 := blk_frozen BK124.out 3
        have hfz28_4 := blk_frozen BK124.out 4
        go_wp2
        go_ret
        exact ⟨by first | rfl | (simp [errW_none, errW_some] <;> rfl) | (simp [*, errW_none, errW_some] <;> rfl), by repeat (first | (with_reducible first | exact HB.out | apply below_alloc | apply pw_below_drewN | apply below_drew1 | refine below_set ?_ GE124.out) | exact HB.out)⟩
       ·rw [if_neg c27] at H
        have c27b0 : ((l0_3.length : Int) == 0) = false := beq_eq_false_iff_ne.mpr c27
        have c27b1 : ((l0_3.length : Int) != 0) = true := bne_iff_ne.mpr c27
        have c27b2 : ¬ (l0_3 = []) := fun h_ => c27 (by rw [h_]; rfl)
        obtain rfl := Option.some.inj H
        have hcz29_0 : wr.cell? ⟨gb124, 0, none⟩ = some (.int .i64 a0_0) := (blk_cell BK124.out 0).trans rfl
        have hcz29_1 : wr.cell? ⟨gb124, 1, none⟩ = some (.int .i64 a0_1) := (blk_cell BK124.out 1).trans rfl
        have hcz29_2 : wr.cell? ⟨gb124, 2, none⟩ = some (.int .i64 a0_2) := (blk_cell BK124.out 2).trans rfl
        have hcz29_3 : wr.cell? ⟨gb124, 3, none⟩ = some (.slice A0_3 l0_3.length c0_3) := (blk_cell BK124.out 3).trans rfl
        have hcz29_4 : wr.cell? ⟨gb124, 4, none⟩ = some (.slice A0_4 l0_4.length c0_4) := (blk_cell BK124.out 4).trans rfl
        have hfz29_0 := blk_frozen BK124.out 0
        have hfz29_1 := blk_frozen BK124.out 1
        have hfz29_2 := blk_frozen BK124.out 2
        have hfz29_3 := blk_frozen BK124.out 3
        have hfz29_4 := blk_frozen BK124.out 4
        go_wp2
        go_ret
        exact ⟨by first | rfl | (simp [errW_none, errW_some] <;> rfl) | (simp [*, errW_none, errW_some] <;> rfl), by repeat (first | (with_reducible first | exact HB.out | apply below_alloc | apply pw_below_drewN | apply below_drew1 | refine below_set ?_ GE124.out) | exact HB.out)⟩
      ·rw [if_neg c26] at H
       have c26b0 : (a0_2 == 0) = false := beq_eq_false_iff_ne.mpr c26
       have c26b1 : (a0_2 != 0) = true := bne_iff_ne.mpr c26
       obtain rfl := Option.some.inj H
       have hcz30_0 : wr.cell? ⟨gb124, 0, none⟩ = some (.int .i64 a0_0) := (blk_cell BK124.out 0).trans rfl
       have hcz30_1 : wr.cell? ⟨gb124, 1, none⟩ = some (.int .i64 a0_1) := (blk_cell BK124.out 1).trans rfl
       have hcz30_2 : wr.cell? ⟨gb124, 2, none⟩ = some (.int .i64 a0_2) := (blk_cell BK124.out 2).trans rfl
       have hcz30_3 : wr.cell? ⟨gb124, 3, none⟩ = some (.slice A0_3 l0_3.length c0_3) := (blk_cell BK124.out 3).trans rfl
       have hcz30_4 : wr.cell? ⟨gb124, 4, none⟩ = some (.slice A0_4 l0_4.length c0_4) := (blk_cell BK124.out 4).trans rfl
       have hfz30_0 := blk_frozen BK124.out 0
       have hfz30_1 := blk_frozen BK124.out 1
       have hfz30_2 := blk_frozen BK124.out 2
       have hfz30_3 := blk_frozen BK124.out 3
       have hfz30_4 := blk_frozen BK124.out 4
       go_wp2
       go_ret
       exact ⟨by first | rfl | (simp [errW_none, errW_some] <;> rfl) | (simp [*, errW_none, errW_some] <;> rfl), by repeat (first | (with_reducible first | exact HB.out | apply below_alloc | apply pw_below_drewN | apply below_drew1 | refine below_set ?_ GE124.out) | exact HB.out)⟩
     ·rw [if_neg c25] at H
      have c25b0 : (a0_1 == 0) = false := beq_eq_false_iff_ne.mpr c25
      have c25b1 : (a0_1 != 0) = true := bne_iff_ne.mpr c25
      obtain rfl := Option.some.inj H
      have hcz31_0 : wr.cell? ⟨gb124, 0, none⟩ = some (.int .i64 a0_0) := (blk_cell BK124.out 0).trans rfl
      have hcz31_1 : wr.cell? ⟨gb124, 1, none⟩ = some (.int .i64 a0_1) := (blk_cell BK124.out 1).trans rfl
      have hcz31_2 : wr.cell? ⟨gb124, 2, none⟩ = some (.int .i64 a0_2) := (blk_cell BK124.out 2).trans rfl
      have hcz31_3 : wr.cell? ⟨gb124, 3, none⟩ = some (.slice A0_3 l0_3.length c0_3) := (blk_cell BK124.out 3).trans rfl
      have hcz31_4 : wr.cell? ⟨gb124, 4, none⟩ = some (.slice A0_4 l0_4.length c0_4) := (blk_cell BK124.out 4).trans rfl
      have hfz31_0 := blk_frozen BK124.out 0
      have hfz31_1 := blk_frozen BK124.out 1
      have hfz31_2 := blk_frozen BK124.out 2
      have hfz31_3 := blk_frozen BK124.out 3
      have hfz31_4 := blk_frozen BK124.out 4
      go_wp2
      go_ret
      exact ⟨by first | rfl | (simp [errW_none, errW_some] <;> rfl) | (simp [*, errW_none, errW_some] <;> rfl), by repeat (first | (with_reducible first | exact HB.out | apply below_alloc | apply pw_below_drewN | apply below_drew1 | refine below_set ?_ GE124.out) | exact HB.out)⟩
    ·rw [if_neg c24] at H
     have c24b0 : (a0_0 == 0) = false := beq_eq_false_iff_ne.mpr c24
     have c24b1 : (a0_0 != 0) = true := bne_iff_ne.mpr c24
     by_cases c32 : a0_0 = 1
     ·rw [if_pos c32] at H
      have c32b0 : (a0_0 == 1) = true := beq_iff_eq.mpr c32
      have c32b1 : (a0_0 != 1) = false := bne_eq_false_iff_eq.mpr c32
      clear c32
      by_cases c33 : a0_1 = 0
      ·rw [if_pos c33] at H
       have c33b0 : (a0_1 == 0) = true := beq_iff_eq.mpr c33
       have c33b1 : (a0_1 != 0) = false := bne_eq_false_iff_eq.mpr c33
       clear c33
       by_cases c34 : a0_2 = 0
       ·rw [if_pos c34] at H
        have c34b0 : (a0_2 == 0) = true := beq_iff_eq.mpr c34
        have c34b1 : (a0_2 != 0) = false := bne_eq_false_iff_eq.mpr c34
        clear c34
        by_cases c35 : ((l0_3.length : Int) % 8) = 0
        ·rw [if_pos c35] at H
         have c35b0 : (((l0_3.length : Int) % 8) == 0) = true := beq_iff_eq.mpr c35
         have c35b1 : (((l0_3.length : Int) % 8) != 0) = false := bne_eq_false_iff_eq.mpr c35
         clear c35
         by_cases c36 : (l0_3.length : Int) ≤ 524280
         ·rw [if_pos c36] at H
          have c36b0 : decide ((l0_3.length : Int) ≤ 524280) = true := decide_eq_true c36
          have c36b1 : decide (l0_3.length ≤ 524280) = true := decide_eq_true (by omega)
          clear c36
          obtain rfl := Option.some.inj H
          have hcz37_0 : wr.cell? ⟨gb124, 0, none⟩ = some (.int .i64 a0_0) := (blk_cell BK124.out 0).trans rfl
          have hcz37_1 : wr.cell? ⟨gb124, 1, none⟩ = some (.int .i64 a0_1) := (blk_cell BK124.out 1).trans rfl
          have hcz37_2 : wr.cell? ⟨gb124, 2, none⟩ = some (.int .i64 a0_2) := (blk_cell BK124.out 2).trans rfl
          have hcz37_3 : wr.cell? ⟨gb124, 3, none⟩ = some (.slice A0_3 l0_3.length c0_3) := (blk_cell BK124.out 3).trans rfl
          have hcz37_4 : wr.cell? ⟨gb124, 4, none⟩ = some (.slice A0_4 l0_4.length c0_4) := (blk_cell BK124.out 4).trans rfl
          have hfz37_0 := blk_frozen BK124.out 0
          have hfz37_1 := blk_frozen BK124.out 1
          have hfz37_2 := blk_frozen BK124.out 2
          have hfz37_3 := blk_frozen BK124.out 3
          have hfz37_4 := blk_frozen BK124.out 4
          go_wp2
          go_ret
          exact ⟨by first | rfl | (simp [errW_none, errW_some] <;> rfl) | (simp [*, errW_none, errW_some] <;> rfl), by repeat (first | (with_reducible first | exact HB.out | apply below_alloc | apply pw_below_drewN | apply below_drew1 | refine below_set ?_ GE124.out) | exact HB.out)⟩
         ·rw [if_neg c36] at H
          have c36b0 : decide ((l0_3.length : Int) ≤ 524280) = false := decide_eq_false c36
          have c36b1 : decide (l0_3.length ≤ 524280) = false := decide_eq_false (by omega)
          clear c36
          obtain rfl := Option.some.inj H
          have hcz38_0 : wr.cell? ⟨gb124, 0, none⟩ = some (.int .i64 a0_0) := (blk_cell BK124.out 0).trans rfl
          have hcz38_1 : wr.cell? ⟨gb124, 1, none⟩ = some (.int .i64 a0_1) := (blk_cell BK124.out 1).trans rfl
          have hcz38_2 : wr.cell? ⟨gb124, 2, none⟩ = some (.int .i64 a0_2) := (blk_cell BK124.out 2).trans rfl
          have hcz38_3 : wr.cell? ⟨gb124, 3, none⟩ = some (.slice A0_3 l0_3.length c0_3) := (blk_cell BK124.out 3).trans rfl
          have hcz38_4 : wr.cell? ⟨gb124, 4, none⟩ = some (.slice A0_4 l0_4.length c0_4) := (blk_cell BK124.out 4).trans rfl
          have hfz38_0 := blk_frozen BK124.out 0
          have hfz38_1 := blk_frozen BK124.out 1
          have hfz38_2 := blk_frozen BK124.out 2
          have hfz38_3 := blk_frozen BK124.out 3
          have hfz38_4 := blk_frozen BK124.out 4
          go_wp2
          go_ret
          exact ⟨by first | rfl | (simp [errW_none, errW_some] <;> rfl) | (simp [*, errW_none, errW_some] <;> rfl), by repeat (first | (with_reducible first | exact HB.out | apply below_alloc | apply pw_below_drewN | apply below_drew1 | refine below_set ?_ GE124.out) | exact HB.out)⟩
        ·rw [if_neg c35] at H
         have c35b0 : (((l0_3.length : Int) % 8) == 0) = false := beq_eq_false_iff_ne.mpr c35
         have c35b1 : (((l0_3.length : Int) % 8) != 0) = true := bne_iff_ne.mpr c35
         obtain rfl := Option.some.inj H
         have hcz39_0 : wr.cell? ⟨gb124, 0, none⟩ = some (.int .i64 a0_0) := (blk_cell BK124.out 0).trans rfl
         have hcz39_1 : wr.cell? ⟨gb124, 1, none⟩ = some (.int .i64 a0_1) := (blk_cell BK124.out 1).trans rfl
         have hcz39_2 : wr.cell? ⟨gb124, 2, none⟩ = some (.int .i64 a0_2) := (blk_cell BK124.out 2).trans rfl
         have hcz39_3 : wr.cell? ⟨gb124, 3, none⟩ = some (.slice A0_3 l0_3.length c0_3) := (blk_cell BK124.out 3).trans rfl
         have hcz39_4 : wr.cell? ⟨gb124, 4, none⟩ = some (.slice A0_4 l0_4.length c0_4) := (blk_cell BK124.out 4).trans rfl
         have hfz39_0 := blk_frozen BK124.out 0
         have hfz39_1 := blk_frozen BK124.out 1
         have hfz39_2 := blk_frozen BK124.out 2
         have hfz39_3 := blk_frozen BK124.out 3
         have hfz39_4 := blk_frozen BK124.out 4
         go_wp2
         go_ret
         exact ⟨by first | rfl | (simp [errW_none, errW_some] <;> rfl) | (simp [*, errW_none, errW_some] <;> rfl), by repeat (first | (with_reducible first | exact HB.out | apply below_alloc | apply pw_below_drewN | apply below_drew1 | refine below_set ?_ GE124.out) | exact HB.out)⟩
       ·rw [if_neg c34] at H
        have c34b0 : (a0_2 == 0) = false := beq_eq_false_iff_ne.mpr c34
        have c34b1 : (a0_2 != 0) = true := bne_iff_ne.mpr c34
        obtain rfl := Option.some.inj H
        have hcz40_0 : wr.cell? ⟨gb124, 0, none⟩ = some (.int .i64 a0_0) := (blk_cell BK124.out 0).trans rfl
        have hcz40_1 : wr.cell? ⟨gb124, 1, none⟩ = some (.int .i64 a0_1) := (blk_cell BK124.out 1).trans rfl
        have hcz40_2 : wr.cell? ⟨gb124, 2, none⟩ = some (.int .i64 a0_2) := (blk_cell BK124.out 2).trans rfl
        have hcz40_3 : wr.cell? ⟨gb124, 3, none⟩ = some (.slice A0_3 l0_3.length c0_3) := (blk_cell BK124.out 3).trans rfl
        have hcz40_4 : wr.cell? ⟨gb124, 4, none⟩ = some (.slice A0_4 l0_4.length c0_4) := (blk_cell BK124.out 4).trans rfl
        have hfz40_0 := blk_frozen BK124.out 0
        have hfz40_1 := blk_frozen BK124.out 1
        have hfz40_2 := blk_frozen BK124.out 2
        have hfz40_3 := blk_frozen BK124.out 3
        have hfz40_4 := blk_frozen BK124.out 4
        go_wp2
        go_ret
        exact ⟨by first | rfl | (simp [errW_none, errW_some] <;> rfl) | (simp [*, errW_none, errW_some] <;> rfl), by repeat (first | (with_reducible first | exact HB.out | apply below_alloc | apply pw_below_drewN | apply below_drew1 | refine below_set ?_ GE124.out) | exact HB.out)⟩
      ·rw [if_neg c33] at H
       have c33b0 : (a0_1 == 0) = false := beq_eq_false_iff_ne.mpr c33
       have c33b1 : (a0_1 != 0) = true := bne_iff_ne.mpr c33
       obtain rfl := Option.some.inj H
       have hcz41_0 : wr.cell? ⟨gb124, 0, none⟩ = some (.int .i64 a0_0) := (blk_cell BK124.out 0).trans rfl
       have hcz41_1 : wr.cell? ⟨gb124, 1, none⟩ = some (.int .i64 a0_1) := (blk_cell BK124.out 1).trans rfl
       have hcz41_2 : wr.cell? ⟨gb124, 2, none⟩ = some (.int .i64 a0_2) := (blk_cell BK124.out 2).trans rfl
       have hcz41_3 : wr.cell? ⟨gb124, 3, none⟩ = some (.slice A0_3 l0_3.length c0_3) := (blk_cell BK124.out 3).trans rfl
       have hcz41_4 : wr.cell? ⟨gb124, 4, none⟩ = some (.slice A0_4 l0_4.length c0_4) := (blk_cell BK124.out 4).trans rfl
       have hfz41_0 := blk_frozen BK124.out 0
       have hfz41_1 := blk_frozen BK124.out 1
       have hfz41_2 := blk_frozen BK124.out 2
       have hfz41_3 := blk_frozen BK124.out 3
       have hfz41_4 := blk_frozen BK124.out 4
       go_wp2
       go_ret
       exact ⟨by first | rfl | (simp [errW_none, errW_some] <;> rfl) | (simp [*, errW_none, errW_some] <;> rfl), by repeat (first | (with_reducible first | exact HB.out | apply below_alloc | apply pw_below_drewN | apply below_drew1 | refine below_set ?_ GE124.out) | exact HB.out)⟩
     ·rw [if_neg c32] at H
      have c32b0 : (a0_0 == 1) = false := beq_eq_false_iff_ne.mpr c32
      have c32b1 : (a0_0 != 1) = true := bne_iff_ne.mpr c32
      by_cases c42 : a0_0 = 2
      ·rw [if_pos c42] at H
       have c42b0 : (a0_0 == 2) = true := beq_iff_eq.mpr c42
       have c42b1 : (a0_0 != 2) = false := bne_eq_false_iff_eq.mpr c42
       clear c42
       have HC43 := Aside0.mk H
       clear H
       have hcz44_0 : wr.cell? ⟨gb124, 0, none⟩ = some (.int .i64 a0_0) := (blk_cell BK124.out 0).trans rfl
       have hcz44_1 : wr.cell? ⟨gb124, 1, none⟩ = some (.int .i64 a0_1) := (blk_cell BK124.out 1).trans rfl
       have hcz44_2 : wr.cell? ⟨gb124, 2, none⟩ = some (.int .i64 a0_2) := (blk_cell BK124.out 2).trans rfl
       have hcz44_3 : wr.cell? ⟨gb124, 3, none⟩ = some (.slice A0_3 l0_3.length c0_3) := (blk_cell BK124.out 3).trans rfl
       have hcz44_4 : wr.cell? ⟨gb124, 4, none⟩ = some (.slice A0_4 l0_4.length c0_4) := (blk_cell BK124.out 4).trans rfl
       have hfz44_0 := blk_frozen BK124.out 0
       have hfz44_1 := blk_frozen BK124.out 1
       have hfz44_2 := blk_frozen BK124.out 2
       have hfz44_3 := blk_frozen BK124.out 3
       have hfz44_4 := blk_frozen BK124.out 4
       go_upto_region 12 with (fail)
       go_cut [109] (fun v109 wc => ∃ (kq : Nat) (x109_42 : Bool), v109 = .bool x109_42 ∧ Aside0 (capnpref10_Valid.j1 kq x109_42 a0_0 a0_1 a0_2 l0_3 l0_4 = some r) ∧ Aside0 (kq ≤ k1) ∧ Aside0 (wc.heap[gb124]? = some (.cells #[.int .i64 a0_0, .int .i64 a0_1, .int .i64 a0_2, (.slice A0_3 l0_3.length c0_3), (.slice A0_4 l0_4.length c0_4)] 25 (0, 0))) ∧ Aside0 (Below w.heap.size w wc))
       case first =>
        have H := HC43.out
        clear HC43
        by_cases c45 : a0_2 < 0
        ·rw [if_pos c45] at H
         have c45b0 : decide (a0_2 < 0) = true := decide_eq_true c45
         clear c45
         (first | rw [c45b0] | (simp only [i64_w, i32_w]; rw [c45b0]) | skip)
         have H' := Aside0.mk H
         clear H
         have hcz46_0 : wr.cell? ⟨gb124, 0, none⟩ = some (.int .i64 a0_0) := (blk_cell BK124.out 0).trans rfl
         have hcz46_1 : wr.cell? ⟨gb124, 1, none⟩ = some (.int .i64 a0_1) := (blk_cell BK124.out 1).trans rfl
         have hcz46_2 : wr.cell? ⟨gb124, 2, none⟩ = some (.int .i64 a0_2) := (blk_cell BK124.out 2).trans rfl
         have hcz46_3 : wr.cell? ⟨gb124, 3, none⟩ = some (.slice A0_3 l0_3.length c0_3) := (blk_cell BK124.out 3).trans rfl
         have hcz46_4 : wr.cell? ⟨gb124, 4, none⟩ = some (.slice A0_4 l0_4.length c0_4) := (blk_cell BK124.out 4).trans rfl
         have hfz46_0 := blk_frozen BK124.out 0
         have hfz46_1 := blk_frozen BK124.out 1
         have hfz46_2 := blk_frozen BK124.out 2
         have hfz46_3 := blk_frozen BK124.out 3
         have hfz46_4 := blk_frozen BK124.out 4
         go_wp2
         go_meet
         case rel => exact ⟨_, (true), (by first | rfl | (simp; done) | (simp [*]; done)), H', ⟨by have := HK1.out; first | omega | exact Nat.le_refl _⟩, ⟨by (with_reducible repeat (first | refine blk_drewN ?_ _ | refine blk_drew ?_ | refine blk_alloc ?_ _)); exact BK124.out⟩, ⟨by repeat (first | (with_reducible first | exact HB.out | apply below_alloc | apply pw_below_drewN | apply below_drew1 | refine below_set ?_ GE124.out) | exact HB.out)⟩⟩
        ·rw [if_neg c45] at H
         have c45b0 : decide (a0_2 < 0) = false := decide_eq_false c45
         clear c45
         (first | rw [c45b0] | (simp only [i64_w, i32_w]; rw [c45b0]) | skip)
         by_cases c47 : a0_2 > 536870911
         ·rw [if_pos c47] at H
          have c47b0 : decide (536870911 < a0_2) = true := decide_eq_true c47
          clear c47
          have H' := Aside0.mk H
          clear H
          have hcz48_0 : wr.cell? ⟨gb124, 0, none⟩ = some (.int .i64 a0_0) := (blk_cell BK124.out 0).trans rfl
          have hcz48_1 : wr.cell? ⟨gb124, 1, none⟩ = some (.int .i64 a0_1) := (blk_cell BK124.out 1).trans rfl
          have hcz48_2 : wr.cell? ⟨gb124, 2, none⟩ = some (.int .i64 a0_2) := (blk_cell BK124.out 2).trans rfl
          have hcz48_3 : wr.cell? ⟨gb124, 3, none⟩ = some (.slice A0_3 l0_3.length c0_3) := (blk_cell BK124.out 3).trans rfl
          have hcz48_4 : wr.cell? ⟨gb124, 4, none⟩ = some (.slice A0_4 l0_4.length c0_4) := (blk_cell BK124.out 4).trans rfl
          have hfz48_0 := blk_frozen BK124.out 0
          have hfz48_1 := blk_frozen BK124.out 1
          have hfz48_2 := blk_frozen BK124.out 2
          have hfz48_3 := blk_frozen BK124.out 3
          have hfz48_4 := blk_frozen BK124.out 4
          go_wp2
          go_meet
          case rel => exact ⟨_, (true), (by first | rfl | (simp; done) | (simp [*]; done)), H', ⟨by have := HK1.out; first | omega | exact Nat.le_refl _⟩, ⟨by (with_reducible repeat (first | refine blk_drewN ?_ _ | refine blk_drew ?_ | refine blk_alloc ?_ _)); exact BK124.out⟩, ⟨by repeat (first | (with_reducible first | exact HB.out | apply below_alloc | apply pw_below_drewN | apply below_drew1 | refine below_set ?_ GE124.out) | exact HB.out)⟩⟩
         ·rw [if_neg c47] at H
          have c47b0 : decide (536870911 < a0_2) = false := decide_eq_false c47
          clear c47
          by_cases c49 : a0_1 < 0
          ·rw [if_pos c49] at H
           have c49b0 : decide (a0_1 < 0) = true := decide_eq_true c49
           clear c49
           have H' := Aside0.mk H
           clear H
           have hcz50_0 : wr.cell? ⟨gb124, 0, none⟩ = some (.int .i64 a0_0) := (blk_cell BK124.out 0).trans rfl
           have hcz50_1 : wr.cell? ⟨gb124, 1, none⟩ = some (.int .i64 a0_1) := (blk_cell BK124.out 1).trans rfl
           have hcz50_2 : wr.cell? ⟨gb124, 2, none⟩ = some (.int .i64 a0_2) := (blk_cell BK124.out 2).trans rfl
           have hcz50_3 : wr.cell? ⟨gb124, 3, none⟩ = some (.slice A0_3 l0_3.length c0_3) := (blk_cell BK124.out 3).trans rfl
           have hcz50_4 : wr.cell? ⟨gb124, 4, none⟩ = some (.slice A0_4 l0_4.length c0_4) := (blk_cell BK124.out 4).trans rfl
           have hfz50_0 := blk_frozen BK124.out 0
           have hfz50_1 := blk_frozen BK124.out 1
           have hfz50_2 := blk_frozen BK124.out 2
           have hfz50_3 := blk_frozen BK124.out 3
           have hfz50_4 := blk_frozen BK124.out 4
           go_wp2
           go_meet
           case rel => exact ⟨_, (true), (by first | rfl | (simp; done) | (simp [*]; done)), H', ⟨by have := HK1.out; first | omega | exact Nat.le_refl _⟩, ⟨by (with_reducible repeat (first | refine blk_drewN ?_ _ | refine blk_drew ?_ | refine blk_alloc ?_ _)); exact BK124.out⟩, ⟨by repeat (first | (with_reducible first | exact HB.out | apply below_alloc | apply pw_below_drewN | apply below_drew1 | refine below_set ?_ GE124.out) | exact HB.out)⟩⟩
          ·rw [if_neg c49] at H
           have c49b0 : decide (a0_1 < 0) = false := decide_eq_false c49
           clear c49
           have H' := Aside0.mk H
           clear H
           have hcz51_0 : wr.cell? ⟨gb124, 0, none⟩ = some (.int .i64 a0_0) := (blk_cell BK124.out 0).trans rfl
           have hcz51_1 : wr.cell? ⟨gb124, 1, none⟩ = some (.int .i64 a0_1) := (blk_cell BK124.out 1).trans rfl
           have hcz51_2 : wr.cell? ⟨gb124, 2, none⟩ = some (.int .i64 a0_2) := (blk_cell BK124.out 2).trans rfl
           have hcz51_3 : wr.cell? ⟨gb124, 3, none⟩ = some (.slice A0_3 l0_3.length c0_3) := (blk_cell BK124.out 3).trans rfl
           have hcz51_4 : wr.cell? ⟨gb124, 4, none⟩ = some (.slice A0_4 l0_4.length c0_4) := (blk_cell BK124.out 4).trans rfl
           have hfz51_0 := blk_frozen BK124.out 0
           have hfz51_1 := blk_frozen BK124.out 1
           have hfz51_2 := blk_frozen BK124.out 2
           have hfz51_3 := blk_frozen BK124.out 3
           have hfz51_4 := blk_frozen BK124.out 4
           go_wp2
           go_meet
           case rel => exact ⟨_, (decide (a0_1 > 7)), (by first | rfl | (simp; done) | (simp [*]; done)), H', ⟨by have := HK1.out; first | omega | exact Nat.le_refl _⟩, ⟨by (with_reducible repeat (first | refine blk_drewN ?_ _ | refine blk_drew ?_ | refine blk_alloc ?_ _)); exact BK124.out⟩, ⟨by repeat (first | (with_reducible first | exact HB.out | apply below_alloc | apply pw_below_drewN | apply below_drew1 | refine below_set ?_ GE124.out) | exact HB.out)⟩⟩
       case rest =>
        clear HC43
        try clear c1
        try clear p1
        try clear q1
        try clear hx1
        try clear c2
        try clear p2
        try clear c3
        try clear c3b0
        try clear c4
        try clear c4b0
        try clear c6
        try clear p6
        try clear c7
        try clear c7b0
        try clear c7b1
        try clear c8
        try clear c8b0
        try clear c8b1
        try clear c9
        try clear c9b0
        try clear c9b1
        try clear c11
        try clear c12
        try clear p12
        try clear q12
        try clear hx12
        try clear c24
        try clear c24b0
        try clear c24b1
        try clear c25
        try clear c25b0
        try clear c25b1
        try clear c26
        try clear c26b0
        try clear c26b1
        try clear c27
        try clear c27b0
        try clear c27b1
        try clear c27b2
        try clear c32
        try clear c32b0
        try clear c32b1
        try clear c33
        try clear c33b0
        try clear c33b1
        try clear c34
        try clear c34b0
        try clear c34b1
        try clear c35
        try clear c35b0
        try clear c35b1
        try clear c36
        try clear c36b0
        try clear c36b1
        try clear c42
        try clear c42b0
        try clear c42b1
        try clear c45
        try clear c45b0
        try clear c47
        try clear c47b0
        try clear c49
        try clear c49b0
        try clear hcz10_0
        try clear hcz10_1
        try clear hcz10_2
        try clear hcz10_3
        try clear hcz10_4
        try clear hcz12_0
        try clear hcz12_1
        try clear hcz12_2
        try clear hcz12_3
        try clear hcz12_4
        try clear hcz13_0
        try clear hcz13_1
        try clear hcz13_2
        try clear hcz13_3
        try clear hcz13_4
        try clear hcz15_0
        try clear hcz15_1
        try clear hcz15_2
        try clear hcz15_3
        try clear hcz15_4
        try clear hcz16_0
        try clear hcz16_1
        try clear hcz16_2
        try clear hcz16_3
        try clear hcz16_4
        try clear hcz18_0
        try clear hcz18_1
        try clear hcz18_2
        try clear hcz18_3
        try clear hcz18_4
        try clear hcz19_0
        try clear hcz19_1
        try clear hcz19_2
        try clear hcz19_3
        try clear hcz19_4
        try clear hcz21_0
        try clear hcz21_1
        try clear hcz21_2
        try clear hcz21_3
        try clear hcz21_4
        try clear hcz22_0
        try clear hcz22_1
        try clear hcz22_2
        try clear hcz22_3
        try clear hcz22_4
        try clear hcz28_0
        try clear hcz28_1
        try clear hcz28_2
        try clear hcz28_3
        try clear hcz28_4
        try clear hcz29_0
        try clear hcz29_1
        try clear hcz29_2
        try clear hcz29_3
        try clear hcz29_4
        try clear hcz30_0
        try clear hcz30_1
        try clear hcz30_2
        try clear hcz30_3
        try clear hcz30_4
        try clear hcz31_0
        try clear hcz31_1
        try clear hcz31_2
        try clear hcz31_3
        try clear hcz31_4
        try clear hcz37_0
        try clear hcz37_1
        try clear hcz37_2
        try clear hcz37_3
        try clear hcz37_4
        try clear hcz38_0
        try clear hcz38_1
        try clear hcz38_2
        try clear hcz38_3
        try clear hcz38_4
        try clear hcz39_0
        try clear hcz39_1
        try clear hcz39_2
        try clear hcz39_3
        try clear hcz39_4
        try clear hcz40_0
        try clear hcz40_1
        try clear hcz40_2
        try clear hcz40_3
        try clear hcz40_4
        try clear hcz41_0
        try clear hcz41_1
        try clear hcz41_2
        try clear hcz41_3
        try clear hcz41_4
        try clear hcz44_0
        try clear hcz44_1
        try clear hcz44_2
        try clear hcz44_3
        try clear hcz44_4
        try clear hcz46_0
        try clear hcz46_1
        try clear hcz46_2
        try clear hcz46_3
        try clear hcz46_4
        try clear hcz48_0
        try clear hcz48_1
        try clear hcz48_2
        try clear hcz48_3
        try clear hcz48_4
        try clear hcz50_0
        try clear hcz50_1
        try clear hcz50_2
        try clear hcz50_3
        try clear hcz50_4
        try clear hcz51_0
        try clear hcz51_1
        try clear hcz51_2
        try clear hcz51_3
        try clear hcz51_4
        try clear hfz10_0
        try clear hfz10_1
        try clear hfz10_2
        try clear hfz10_3
        try clear hfz10_4
        try clear hfz12_0
        try clear hfz12_1
        try clear hfz12_2
        try clear hfz12_3
        try clear hfz12_4
        try clear hfz13_0
        try clear hfz13_1
        try clear hfz13_2
        try clear hfz13_3
        try clear hfz13_4
        try clear hfz15_0
        try clear hfz15_1
        try clear hfz15_2
        try clear hfz15_3
        try clear hfz15_4
        try clear hfz16_0
        try clear hfz16_1
        try clear hfz16_2
        try clear hfz16_3
        try clear hfz16_4
        try clear hfz18_0
        try clear hfz18_1
        try clear hfz18_2
        try clear hfz18_3
        try clear hfz18_4
        try clear hfz19_0
        try clear hfz19_1
        try clear hfz19_2
        try clear hfz19_3
        try clear hfz19_4
        try clear hfz21_0
        try clear hfz21_1
        try clear hfz21_2
        try clear hfz21_3
        try clear hfz21_4
        try clear hfz22_0
        try clear hfz22_1
        try clear hfz22_2
        try clear hfz22_3
        try clear hfz22_4
        try clear hfz28_0
        try clear hfz28_1
        try clear hfz28_2
        try clear hfz28_3
        try clear hfz28_4
        try clear hfz29_0
        try clear hfz29_1
        try clear hfz29_2
        try clear hfz29_3
        try clear hfz29_4
        try clear hfz30_0
        try clear hfz30_1
        try clear hfz30_2
        try clear hfz30_3
        try clear hfz30_4
        try clear hfz31_0
        try clear hfz31_1
        try clear hfz31_2
        try clear hfz31_3
        try clear hfz31_4
        try clear hfz37_0
        try clear hfz37_1
        try clear hfz37_2
        try clear hfz37_3
        try clear hfz37_4
        try clear hfz38_0
        try clear hfz38_1
        try clear hfz38_2
        try clear hfz38_3
        try clear hfz38_4
        try clear hfz39_0
        try clear hfz39_1
        try clear hfz39_2
        try clear hfz39_3
        try clear hfz39_4
        try clear hfz40_0
        try clear hfz40_1
        try clear hfz40_2
        try clear hfz40_3
        try clear hfz40_4
        try clear hfz41_0
        try clear hfz41_1
        try clear hfz41_2
        try clear hfz41_3
        try clear hfz41_4
        try clear hfz44_0
        try clear hfz44_1
        try clear hfz44_2
        try clear hfz44_3
        try clear hfz44_4
        try clear hfz46_0
        try clear hfz46_1
        try clear hfz46_2
        try clear hfz46_3
        try clear hfz46_4
        try clear hfz48_0
        try clear hfz48_1
        try clear hfz48_2
        try clear hfz48_3
        try clear hfz48_4
        try clear hfz50_0
        try clear hfz50_1
        try clear hfz50_2
        try clear hfz50_3
        try clear hfz50_4
        try clear hfz51_0
        try clear hfz51_1
        try clear hfz51_2
        try clear hfz51_3
        try clear hfz51_4
        try clear hx125_0
        try clear hx125_1
        try clear hx125_2
        try clear hx125_3
        try clear hx125_4
        try clear hx127_0
        try clear hx127_1
        try clear hx127_2
        try clear hx127_3
        try clear hx127_4
        try clear p125
        try clear p127
        try clear p2
        try clear q125
        try clear q127
        obtain ⟨kq, x109_42, rfl, HA, HJ42, BK124, HB⟩ := hcut
        cases kq with
        | zero => exact absurd HA.out (by simp [capnpref10_Valid.j1])
        | succ kj42 =>
         have H := HA.out
         clear HA
         simp only [capnpref10_Valid.j1] at H
         by_cases c52 : x109_42 = true
         ·subst c52
          have H1 : (some false) = some r := by rw [if_pos rfl] at H; exact H
          clear H
          have H := H1
          clear H1
          obtain rfl := Option.some.inj H
          go_wp2
          go_ret
          exact ⟨by first | rfl | (simp [errW_none, errW_some] <;> rfl) | (simp [*, errW_none, errW_some] <;> rfl), by repeat (first | (with_reducible first | exact HB.out | apply below_alloc | apply pw_below_drewN | apply below_drew1 | refine below_set ?_ GE124.out) | exact HB.out)⟩
         ·replace c52 := Bool.eq_false_iff.mpr c52
          subst c52
          have H1 : (if a0_1 ≥ 6 then (if (l0_3.length : Int) = 0 then (some ((l0_4.length : Int) == a0_2)) else (some false)) else (if (l0_4.length : Int) = 0 then ((capnpref06_Bytes.f a0_1 a0_2).bind fun t128 => (capnpref10_Valid.j2 kj42 ((l0_3.length : Int) != t128) a0_0 a0_1 a0_2 l0_3 l0_4)) else (capnpref10_Valid.j2 kj42 true a0_0 a0_1 a0_2 l0_3 l0_4))) = some r := by rw [if_neg (show ¬ (false = true) by decide)] at H; exact H
          clear H
          have H := H1
          clear H1
          by_cases c53 : a0_1 ≥ 6
          ·rw [if_pos c53] at H
           have c53b0 : decide (6 ≤ a0_1) = true := decide_eq_true c53
           clear c53
           by_cases c54 : (l0_3.length : Int) = 0
           ·rw [if_pos c54] at H
            have c54b0 : ((l0_3.length : Int) == 0) = true := beq_iff_eq.mpr c54
            have c54b1 : ((l0_3.length : Int) != 0) = false := bne_eq_false_iff_eq.mpr c54
            clear c54
            obtain rfl := Option.some.inj H
            have hcz55_0 : wc.cell? ⟨gb124, 0, none⟩ = some (.int .i64 a0_0) := (blk_cell BK124.out 0).trans rfl
            have hcz55_1 : wc.cell? ⟨gb124, 1, none⟩ = some (.int .i64 a0_1) := (blk_cell BK124.out 1).trans rfl
            have hcz55_2 : wc.cell? ⟨gb124, 2, none⟩ = some (.int .i64 a0_2) := (blk_cell BK124.out 2).trans rfl
            have hcz55_3 : wc.cell? ⟨gb124, 3, none⟩ = some (.slice A0_3 l0_3.length c0_3) := (blk_cell BK124.out 3).trans rfl
            have hcz55_4 : wc.cell? ⟨gb124, 4, none⟩ = some (.slice A0_4 l0_4.length c0_4) := (blk_cell BK124.out 4).trans rfl
            have hfz55_0 := blk_frozen BK124.out 0
            have hfz55_1 := blk_frozen BK124.out 1
            have hfz55_2 := blk_frozen BK124.out 2
            have hfz55_3 := blk_frozen BK124.out 3
            have hfz55_4 := blk_frozen BK124.out 4
            go_wp2
            go_ret
            exact ⟨by first | rfl | (simp [errW_none, errW_some] <;> rfl) | (simp [*, errW_none, errW_some] <;> rfl), by repeat (first | (with_reducible first | exact HB.out | apply below_alloc | apply pw_below_drewN | apply below_drew1 | refine below_set ?_ GE124.out) | exact HB.out)⟩
           ·rw [if_neg c54] at H
            have c54b0 : ((l0_3.length : Int) == 0) = false := beq_eq_false_iff_ne.mpr c54
            have c54b1 : ((l0_3.length : Int) != 0) = true := bne_iff_ne.mpr c54
            have c54b2 : ¬ (l0_3 = []) := fun h_ => c54 (by rw [h_]; rfl)
            obtain rfl := Option.some.inj H
            have hcz56_0 : wc.cell? ⟨gb124, 0, none⟩ = some (.int .i64 a0_0) := (blk_cell BK124.out 0).trans rfl
            have hcz56_1 : wc.cell? ⟨gb124, 1, none⟩ = some (.int .i64 a0_1) := (blk_cell BK124.out 1).trans rfl
            have hcz56_2 : wc.cell? ⟨gb124, 2, none⟩ = some (.int .i64 a0_2) := (blk_cell BK124.out 2).trans rfl
            have hcz56_3 : wc.cell? ⟨gb124, 3, none⟩ = some (.slice A0_3 l0_3.length c0_3) := (blk_cell BK124.out 3).trans rfl
            have hcz56_4 : wc.cell? ⟨gb124, 4, none⟩ = some (.slice A0_4 l0_4.length c0_4) := (blk_cell BK124.out 4).trans rfl
            have hfz56_0 := blk_frozen BK124.out 0
            have hfz56_1 := blk_frozen BK124.out 1
            have hfz56_2 := blk_frozen BK124.out 2
            have hfz56_3 := blk_frozen BK124.out 3
            have hfz56_4 := blk_frozen BK124.out 4
            go_wp2
            go_ret
            exact ⟨by first | rfl | (simp [errW_none, errW_some] <;> rfl) | (simp [*, errW_none, errW_some] <;> rfl), by repeat (first | (with_reducible first | exact HB.out | apply below_alloc | apply pw_below_drewN | apply below_drew1 | refine below_set ?_ GE124.out) | exact HB.out)⟩
          ·rw [if_neg c53] at H
           have c53b0 : decide (6 ≤ a0_1) = false := decide_eq_false c53
           clear c53
           have HC57 := Aside0.mk H
           clear H
           have hcz58_0 : wc.cell? ⟨gb124, 0, none⟩ = some (.int .i64 a0_0) := (blk_cell BK124.out 0).trans rfl
           have hcz58_1 : wc.cell? ⟨gb124, 1, none⟩ = some (.int .i64 a0_1) := (blk_cell BK124.out 1).trans rfl
           have hcz58_2 : wc.cell? ⟨gb124, 2, none⟩ = some (.int .i64 a0_2) := (blk_cell BK124.out 2).trans rfl
           have hcz58_3 : wc.cell? ⟨gb124, 3, none⟩ = some (.slice A0_3 l0_3.length c0_3) := (blk_cell BK124.out 3).trans rfl
           have hcz58_4 : wc.cell? ⟨gb124, 4, none⟩ = some (.slice A0_4 l0_4.length c0_4) := (blk_cell BK124.out 4).trans rfl
           have hfz58_0 := blk_frozen BK124.out 0
           have hfz58_1 := blk_frozen BK124.out 1
           have hfz58_2 := blk_frozen BK124.out 2
           have hfz58_3 := blk_frozen BK124.out 3
           have hfz58_4 := blk_frozen BK124.out 4
           go_upto_region 16 with (fail)
           go_cut [139] (fun v139 wc => ∃ (kq : Nat) (x139_56 : Bool), v139 = .bool x139_56 ∧ Aside0 (capnpref10_Valid.j2 kq x139_56 a0_0 a0_1 a0_2 l0_3 l0_4 = some r) ∧ Aside0 (kq ≤ kj42) ∧ Aside0 (wc.heap[gb124]? = some (.cells #[.int .i64 a0_0, .int .i64 a0_1, .int .i64 a0_2, (.slice A0_3 l0_3.length c0_3), (.slice A0_4 l0_4.length c0_4)] 25 (0, 0))) ∧ Aside0 (Below w.heap.size w wc))
           case first =>
            have H := HC57.out
            clear HC57
            by_cases c59 : (l0_4.length : Int) = 0
            ·rw [if_pos c59] at H
             have c59b0 : ((l0_4.length : Int) == 0) = true := beq_iff_eq.mpr c59
             have c59b1 : ((l0_4.length : Int) != 0) = false := bne_eq_false_iff_eq.mpr c59
             clear c59
             (first | rw [c59b0] | (simp only [i64_w, i32_w]; rw [c59b0]) | skip)
             replace H := Option.bind_eq_some_iff.mp H
             obtain ⟨t128, A600, H⟩ := H
             replace H : (capnpref10_Valid.j2 kj42 ((l0_3.length : Int) != t128) a0_0 a0_1 a0_2 l0_3 l0_4) = some r := H
             have A60 := Aside0.mk A600
             clear A600
             have H' := Aside0.mk H
             clear H
             try go_wp2
             have n0_ := Aside0.mk (blk_drew BK124.out)
             have n1_ := Aside0.mk (below_drew1 HB.out)
             clear BK124
             clear HB
             have BK124 := n0_
             have HB := n1_
             clear n0_ n1_
             refine start_ (n := 15) (S := fun w' => w'.cell? ⟨gb124, 0, none⟩ = some (.int .i64 a0_0) ∧ w'.cell? ⟨gb124, 1, none⟩ = some (.int .i64 a0_1) ∧ w'.cell? ⟨gb124, 2, none⟩ = some (.int .i64 a0_2) ∧ w'.cell? ⟨gb124, 3, none⟩ = some (.slice A0_3 l0_3.length c0_3) ∧ w'.cell? ⟨gb124, 4, none⟩ = some (.slice A0_4 l0_4.length c0_4)) (ds := []) #[false, false, false, false, false, false, false, false, false, false, false, false, false, false, false] (by kernel_rfl) rfl rfl ⟨(blk_cell BK124.out 0).trans rfl, (blk_cell BK124.out 1).trans rfl, (blk_cell BK124.out 2).trans rfl, (blk_cell BK124.out 3).trans rfl, (blk_cell BK124.out 4).trans rfl⟩ (fun hHeld => ?_); refine with_tabW capnpref10_Valid.tab16 capnpref10_Valid.bits16 (fun HT_ HW_ => ?_)
             generalize wc.drew = w61 at BK124 HB hHeld ⊢
             refine pure_ (i := 0) (N := some 125) (v := ?_) (a' := ?_) #[true, false, false, false, false, false, false, false, false, false, false, false, false, false, false] rfl rfl (any_of HT_.out (by kernel_rfl)) (fun _ _ _ h => h) (Or.inl ⟨by rfl, ?_⟩) ?_ ?_
             rotate_left
             ·intro w'
              go_simp
              with_reducible rfl
             rotate_left
             ·simp only [Act.put, List.setIfInBounds_toArray, List.set_cons_zero, List.set_cons_succ, i64_w, i32_w]
              rfl
             refine take_ (i := 1) (N := some 126) (v := ?_) (a' := ?_) #[true, true, false, false, false, false, false, false, false, false, false, false, false, false, false] rfl rfl (take_ofW HT_.out HW_.out (by kernel_rfl)) (fun _ _ _ h => h) (Or.inl ⟨by rfl, ?_⟩) hHeld ?_ ?_
             rotate_left
             ·rintro w' ⟨s0, s1, s2, s3, s4⟩
              go_simp
              with_reducible rfl
             rotate_left
             ·simp only [Act.put, List.setIfInBounds_toArray, List.set_cons_zero, List.set_cons_succ, i64_w, i32_w]
              rfl
             refine pure_ (i := 2) (N := some 127) (v := ?_) (a' := ?_) #[true, true, true, false, false, false, false, false, false, false, false, false, false, false, false] rfl rfl (any_of HT_.out (by kernel_rfl)) (fun _ _ _ h => h) (Or.inl ⟨by rfl, ?_⟩) ?_ ?_
             rotate_left
             ·intro w'
              go_simp
              with_reducible rfl
             rotate_left
             ·simp only [Act.put, List.setIfInBounds_toArray, List.set_cons_zero, List.set_cons_succ, i64_w, i32_w]
              rfl
             refine pure_ (i := 3) (N := some 128) (v := ?_) (a' := ?_) #[true, true, true, true, false, false, false, false, false, false, false, false, false, false, false] rfl rfl (any_of HT_.out (by kernel_rfl)) (fun _ _ _ h => h) (Or.inl ⟨by rfl, ?_⟩) ?_ ?_
             rotate_left
             ·intro w'
              go_simp
              with_reducible rfl
             rotate_left
             ·simp only [Act.put, List.setIfInBounds_toArray, List.set_cons_zero, List.set_cons_succ, i64_w, i32_w]
              rfl
             refine pure_ (i := 4) (N := some 129) (v := ?_) (a' := ?_) #[true, true, true, true, true, false, false, false, false, false, false, false, false, false, false] rfl rfl (any_of HT_.out (by kernel_rfl)) (fun _ _ _ h => h) (Or.inl ⟨by rfl, ?_⟩) ?_ ?_
             rotate_left
             ·intro w'
              go_simp
              with_reducible rfl
             rotate_left
             ·simp only [Act.put, List.setIfInBounds_toArray, List.set_cons_zero, List.set_cons_succ, i64_w, i32_w]
              rfl
             refine pure_ (i := 5) (N := some 130) (v := ?_) (a' := ?_) #[true, true, true, true, true, true, false, false, false, false, false, false, false, false, false] rfl rfl (any_of HT_.out (by kernel_rfl)) (fun _ _ _ h => h) (Or.inl ⟨by rfl, ?_⟩) ?_ ?_
             rotate_left
             ·intro w'
              go_simp
              with_reducible rfl
             rotate_left
             ·simp only [Act.put, List.setIfInBounds_toArray, List.set_cons_zero, List.set_cons_succ, i64_w, i32_w]
              rfl
             refine pure_ (i := 8) (N := some 133) (v := ?_) (a' := ?_) #[true, true, true, true, true, true, false, false, true, false, false, false, false, false, false] rfl rfl (any_of HT_.out (by kernel_rfl)) (fun _ _ _ h => h) (Or.inl ⟨by rfl, ?_⟩) ?_ ?_
             rotate_left
             ·intro w'
              go_simp
              with_reducible rfl
             rotate_left
             ·simp only [Act.put, List.setIfInBounds_toArray, List.set_cons_zero, List.set_cons_succ, i64_w, i32_w]
              rfl
             refine pure_ (i := 10) (N := some 135) (v := ?_) (a' := ?_) #[true, true, true, true, true, true, false, false, true, false, true, false, false, false, false] rfl rfl (any_of HT_.out (by kernel_rfl)) (fun _ _ _ h => h) (Or.inl ⟨by rfl, ?_⟩) ?_ ?_
             rotate_left
             ·intro w'
              go_simp
              with_reducible rfl
             rotate_left
             ·simp only [Act.put, List.setIfInBounds_toArray, List.set_cons_zero, List.set_cons_succ, i64_w, i32_w]
              rfl
             refine take_ (i := 6) (N := some 131) (v := ?_) (a' := ?_) #[true, true, true, true, true, true, true, false, true, false, true, false, false, false, false] rfl rfl (take_ofW HT_.out HW_.out (by kernel_rfl)) (fun _ _ _ h => h) (Or.inl ⟨by rfl, ?_⟩) hHeld ?_ ?_
             rotate_left
             ·rintro w' ⟨s0, s1, s2, s3, s4⟩
              go_simp
              with_reducible rfl
             rotate_left
             ·simp only [Act.put, List.setIfInBounds_toArray, List.set_cons_zero, List.set_cons_succ, i64_w, i32_w]
              rfl
             refine pure_ (i := 7) (N := some 132) (v := ?_) (a' := ?_) #[true, true, true, true, true, true, true, true, true, false, true, false, false, false, false] rfl rfl (any_of HT_.out (by kernel_rfl)) (fun _ _ _ h => h) (Or.inl ⟨by rfl, ?_⟩) ?_ ?_
             rotate_left
             ·intro w'
              go_simp
              with_reducible rfl
             rotate_left
             ·simp only [Act.put, List.setIfInBounds_toArray, List.set_cons_zero, List.set_cons_succ, i64_w, i32_w]
              rfl
             refine take_ (i := 9) (N := some 134) (v := ?_) (a' := ?_) #[true, true, true, true, true, true, true, true, true, true, true, false, false, false, false] rfl rfl (take_ofW HT_.out HW_.out (by kernel_rfl)) (fun _ _ _ h => h) (Or.inl ⟨by rfl, ?_⟩) hHeld ?_ ?_
             rotate_left
             ·rintro w' ⟨s0, s1, s2, s3, s4⟩
              go_simp
              with_reducible rfl
             rotate_left
             ·simp only [Act.put, List.setIfInBounds_toArray, List.set_cons_zero, List.set_cons_succ, i64_w, i32_w]
              rfl
             refine take_ (i := 11) (N := some 136) (v := ?_) (a' := ?_) #[true, true, true, true, true, true, true, true, true, true, true, true, false, false, false] rfl rfl (take_ofW HT_.out HW_.out (by kernel_rfl)) (fun _ _ _ h => h) (Or.inl ⟨by rfl, ?_⟩) hHeld ?_ ?_
             rotate_left
             ·rintro w' ⟨s0, s1, s2, s3, s4⟩
              go_simp
              with_reducible rfl
             rotate_left
             ·simp only [Act.put, List.setIfInBounds_toArray, List.set_cons_zero, List.set_cons_succ, i64_w, i32_w]
              rfl
             refine one_ (i := 12) (N := some 137) #[true, true, true, true, true, true, true, true, true, true, true, true, true, false, false] rfl rfl (one_of HT_.out (by kernel_rfl)) (by decide) (fun K hK => ?_)
             refine goes_ Tryd.func23 (by kernel_rfl) rfl #[.int .i64 a0_1, .int .i64 a0_2] (by rfl) rfl rfl (by (try simp only [List.map_toArray, List.map_cons, List.map_nil]); first | done | rfl | (simp only [List.length_drop, List.length_take]; rfl)) ?_
             with_reducible refine (capnpref06_Bytes.calls a0_1 a0_2 t128 _ A60.out).mono ?_
             rintro e w' ⟨rfl, ⟨nd, rfl⟩⟩
             refine ⟨_, rfl, ?_⟩
             refine hK.out _ _ ⟨(blk_cell BK124.out 0).trans rfl, (blk_cell BK124.out 1).trans rfl, (blk_cell BK124.out 2).trans rfl, (blk_cell BK124.out 3).trans rfl, (blk_cell BK124.out 4).trans rfl⟩ (fun hHeld => ?_)
             clear hK K
             refine norm_ (a' := ?_) ?_ ?_
             rotate_left
             ·show Act.put _ (some 137) _ = _
              simp only [Act.put, List.setIfInBounds_toArray, List.set_cons_zero, List.set_cons_succ, i64_w, i32_w]
              rfl
             refine pure_ (i := 13) (N := some 138) (v := ?_) (a' := ?_) #[true, true, true, true, true, true, true, true, true, true, true, true, true, true, false] rfl rfl (any_of HT_.out (by kernel_rfl)) (fun _ _ _ h => h) (Or.inl ⟨by rfl, ?_⟩) ?_ ?_
             rotate_left
             ·intro w'
              go_simp
              with_reducible rfl
             rotate_left
             ·simp only [Act.put, List.setIfInBounds_toArray, List.set_cons_zero, List.set_cons_succ, i64_w, i32_w]
              rfl
             refine pure_ (i := 14) (N := some 139) (v := ?_) (a' := ?_) #[true, true, true, true, true, true, true, true, true, true, true, true, true, true, true] rfl rfl (any_of HT_.out (by kernel_rfl)) (fun _ _ _ h => h) (Or.inl ⟨by rfl, ?_⟩) ?_ ?_
             rotate_left
             ·intro w'
              go_simp
              with_reducible rfl
             rotate_left
             ·simp only [Act.put, List.setIfInBounds_toArray, List.set_cons_zero, List.set_cons_succ, i64_w, i32_w]
              rfl
             refine done_ (done_of HT_.out (by kernel_rfl)) ?_
             try go_wp2
             go_meet
             case rel => exact ⟨_, (((l0_3.length : Int) != t128)), (by first | rfl | (simp; done) | (simp [*]; done)), H', ⟨by have := HK1.out; have := HJ42.out; first | omega | exact Nat.le_refl _⟩, ⟨by (with_reducible repeat (first | refine blk_drewN ?_ _ | refine blk_drew ?_ | refine blk_alloc ?_ _)); exact BK124.out⟩, ⟨by repeat (first | (with_reducible first | exact HB.out | apply below_alloc | apply pw_below_drewN | apply below_drew1 | refine below_set ?_ GE124.out) | exact HB.out)⟩⟩
            ·rw [if_neg c59] at H
             have c59b0 : ((l0_4.length : Int) == 0) = false := beq_eq_false_iff_ne.mpr c59
             have c59b1 : ((l0_4.length : Int) != 0) = true := bne_iff_ne.mpr c59
             have c59b2 : ¬ (l0_4 = []) := fun h_ => c59 (by rw [h_]; rfl)
             (first | rw [c59b0] | (simp only [i64_w, i32_w]; rw [c59b0]) | skip)
             have H' := Aside0.mk H
             clear H
             try go_wp2
             have n0_ := Aside0.mk (blk_drew BK124.out)
             have n1_ := Aside0.mk (below_drew1 HB.out)
             clear BK124
             clear HB
             have BK124 := n0_
             have HB := n1_
             clear n0_ n1_
             refine start_ (n := 15) (S := fun w' => w'.cell? ⟨gb124, 0, none⟩ = some (.int .i64 a0_0) ∧ w'.cell? ⟨gb124, 1, none⟩ = some (.int .i64 a0_1) ∧ w'.cell? ⟨gb124, 2, none⟩ = some (.int .i64 a0_2) ∧ w'.cell? ⟨gb124, 3, none⟩ = some (.slice A0_3 l0_3.length c0_3) ∧ w'.cell? ⟨gb124, 4, none⟩ = some (.slice A0_4 l0_4.length c0_4)) (ds := []) #[false, false, false, false, false, false, false, false, false, false, false, false, false, false, false] (by kernel_rfl) rfl rfl ⟨(blk_cell BK124.out 0).trans rfl, (blk_cell BK124.out 1).trans rfl, (blk_cell BK124.out 2).trans rfl, (blk_cell BK124.out 3).trans rfl, (blk_cell BK124.out 4).trans rfl⟩ (fun hHeld => ?_); refine with_tabW capnpref10_Valid.tab16 capnpref10_Valid.bits16 (fun HT_ HW_ => ?_)
             generalize wc.drew = w62 at BK124 HB hHeld ⊢
             refine pure_ (i := 0) (N := some 125) (v := ?_) (a' := ?_) #[true, false, false, false, false, false, false, false, false, false, false, false, false, false, false] rfl rfl (any_of HT_.out (by kernel_rfl)) (fun _ _ _ h => h) (Or.inl ⟨by rfl, ?_⟩) ?_ ?_
             rotate_left
             ·intro w'
              go_simp
              with_reducible rfl
             rotate_left
             ·simp only [Act.put, List.setIfInBounds_toArray, List.set_cons_zero, List.set_cons_succ, i64_w, i32_w]
              rfl
             refine take_ (i := 1) (N := some 126) (v := ?_) (a' := ?_) #[true, true, false, false, false, false, false, false, false, false, false, false, false, false, false] rfl rfl (take_ofW HT_.out HW_.out (by kernel_rfl)) (fun _ _ _ h => h) (Or.inl ⟨by rfl, ?_⟩) hHeld ?_ ?_
             rotate_left
             ·rintro w' ⟨s0, s1, s2, s3, s4⟩
              go_simp
              with_reducible rfl
             rotate_left
             ·simp only [Act.put, List.setIfInBounds_toArray, List.set_cons_zero, List.set_cons_succ, i64_w, i32_w]
              rfl
             refine pure_ (i := 2) (N := some 127) (v := ?_) (a' := ?_) #[true, true, true, false, false, false, false, false, false, false, false, false, false, false, false] rfl rfl (any_of HT_.out (by kernel_rfl)) (fun _ _ _ h => h) (Or.inl ⟨by rfl, ?_⟩) ?_ ?_
             rotate_left
             ·intro w'
              go_simp
              with_reducible rfl
             rotate_left
             ·simp only [Act.put, List.setIfInBounds_toArray, List.set_cons_zero, List.set_cons_succ, i64_w, i32_w]
              rfl
             refine pure_ (i := 3) (N := some 128) (v := ?_) (a' := ?_) #[true, true, true, true, false, false, false, false, false, false, false, false, false, false, false] rfl rfl (any_of HT_.out (by kernel_rfl)) (fun _ _ _ h => h) (Or.inl ⟨by rfl, ?_⟩) ?_ ?_
             rotate_left
             ·intro w'
              go_simp
              with_reducible rfl
             rotate_left
             ·simp only [Act.put, List.setIfInBounds_toArray, List.set_cons_zero, List.set_cons_succ, i64_w, i32_w]
              rfl
             refine pure_ (i := 4) (N := some 129) (v := ?_) (a' := ?_) #[true, true, true, true, true, false, false, false, false, false, false, false, false, false, false] rfl rfl (any_of HT_.out (by kernel_rfl)) (fun _ _ _ h => h) (Or.inl ⟨by rfl, ?_⟩) ?_ ?_
             rotate_left
             ·intro w'
              go_simp
              with_reducible rfl
             rotate_left
             ·simp only [Act.put, List.setIfInBounds_toArray, List.set_cons_zero, List.set_cons_succ, i64_w, i32_w]
              rfl
             refine pure_ (i := 5) (N := some 130) (v := undef) (a' := ?_) #[true, true, true, true, true, true, false, false, false, false, false, false, false, false, false] rfl rfl (any_of HT_.out (by kernel_rfl)) (fun _ _ _ h => h) (Or.inr ⟨by rfl, rfl⟩) ?_ ?_
             rotate_left
             ·simp only [Act.put, List.setIfInBounds_toArray, List.set_cons_zero, List.set_cons_succ, i64_w, i32_w]
              rfl
             refine pure_ (i := 6) (N := some 131) (v := undef) (a' := ?_) #[true, true, true, true, true, true, true, false, false, false, false, false, false, false, false] rfl rfl (any_of HT_.out (by kernel_rfl)) (fun _ _ _ h => h) (Or.inr ⟨by rfl, rfl⟩) ?_ ?_
             rotate_left
             ·simp only [Act.put, List.setIfInBounds_toArray, List.set_cons_zero, List.set_cons_succ, i64_w, i32_w]
              rfl
             refine pure_ (i := 7) (N := some 132) (v := undef) (a' := ?_) #[true, true, true, true, true, true, true, true, false, false, false, false, false, false, false] rfl rfl (any_of HT_.out (by kernel_rfl)) (fun _ _ _ h => h) (Or.inr ⟨by rfl, rfl⟩) ?_ ?_
             rotate_left
             ·simp only [Act.put, List.setIfInBounds_toArray, List.set_cons_zero, List.set_cons_succ, i64_w, i32_w]
              rfl
             refine pure_ (i := 8) (N := some 133) (v := undef) (a' := ?_) #[true, true, true, true, true, true, true, true, true, false, false, false, false, false, false] rfl rfl (any_of HT_.out (by kernel_rfl)) (fun _ _ _ h => h) (Or.inr ⟨by rfl, rfl⟩) ?_ ?_
             rotate_left
             ·simp only [Act.put, List.setIfInBounds_toArray, List.set_cons_zero, List.set_cons_succ, i64_w, i32_w]
              rfl
             refine pure_ (i := 9) (N := some 134) (v := undef) (a' := ?_) #[true, true, true, true, true, true, true, true, true, true, false, false, false, false, false] rfl rfl (any_of HT_.out (by kernel_rfl)) (fun _ _ _ h => h) (Or.inr ⟨by rfl, rfl⟩) ?_ ?_
             rotate_left
             ·simp only [Act.put, List.setIfInBounds_toArray, List.set_cons_zero, List.set_cons_succ, i64_w, i32_w]
              rfl
             refine pure_ (i := 10) (N := some 135) (v := undef) (a' := ?_) #[true, true, true, true, true, true, true, true, true, true, true, false, false, false, false] rfl rfl (any_of HT_.out (by kernel_rfl)) (fun _ _ _ h => h) (Or.inr ⟨by rfl, rfl⟩) ?_ ?_
             rotate_left
             ·simp only [Act.put, List.setIfInBounds_toArray, List.set_cons_zero, List.set_cons_succ, i64_w, i32_w]
              rfl
             refine pure_ (i := 11) (N := some 136) (v := undef) (a' := ?_) #[true, true, true, true, true, true, true, true, true, true, true, true, false, false, false] rfl rfl (any_of HT_.out (by kernel_rfl)) (fun _ _ _ h => h) (Or.inr ⟨by rfl, rfl⟩) ?_ ?_
             rotate_left
             ·simp only [Act.put, List.setIfInBounds_toArray, List.set_cons_zero, List.set_cons_succ, i64_w, i32_w]
              rfl
             refine pure_ (i := 12) (N := some 137) (v := undef) (a' := ?_) #[true, true, true, true, true, true, true, true, true, true, true, true, true, false, false] rfl rfl (any_of HT_.out (by kernel_rfl)) (fun _ _ _ h => h) (Or.inr ⟨by rfl, rfl⟩) ?_ ?_
             rotate_left
             ·simp only [Act.put, List.setIfInBounds_toArray, List.set_cons_zero, List.set_cons_succ, i64_w, i32_w]
              rfl
             refine pure_ (i := 13) (N := some 138) (v := undef) (a' := ?_) #[true, true, true, true, true, true, true, true, true, true, true, true, true, true, false] rfl rfl (any_of HT_.out (by kernel_rfl)) (fun _ _ _ h => h) (Or.inr ⟨by rfl, rfl⟩) ?_ ?_
             rotate_left
             ·simp only [Act.put, List.setIfInBounds_toArray, List.set_cons_zero, List.set_cons_succ, i64_w, i32_w]
              rfl
             refine pure_ (i := 14) (N := some 139) (v := ?_) (a' := ?_) #[true, true, true, true, true, true, true, true, true, true, true, true, true, true, true] rfl rfl (any_of HT_.out (by kernel_rfl)) (fun _ _ _ h => h) (Or.inl ⟨by rfl, ?_⟩) ?_ ?_
             rotate_left
             ·intro w'
              go_simp
              with_reducible rfl
             rotate_left
             ·simp only [Act.put, List.setIfInBounds_toArray, List.set_cons_zero, List.set_cons_succ, i64_w, i32_w]
              rfl
             refine done_ (done_of HT_.out (by kernel_rfl)) ?_
             try go_wp2
             go_meet
             case rel => exact ⟨_, (true), (by first | rfl | (simp; done) | (simp [*]; done)), H', ⟨by have := HK1.out; have := HJ42.out; first | omega | exact Nat.le_refl _⟩, ⟨by (with_reducible repeat (first | refine blk_drewN ?_ _ | refine blk_drew ?_ | refine blk_alloc ?_ _)); exact BK124.out⟩, ⟨by repeat (first | (with_reducible first | exact HB.out | apply below_alloc | apply pw_below_drewN | apply below_drew1 | refine below_set ?_ GE124.out) | exact HB.out)⟩⟩
           case rest =>
            clear HC57
            try clear p1
            try clear q1
            try clear hx1
            try clear c2
            try clear p2
            try clear c3
            try clear c4
            try clear c5
            try clear p12
            try clear q12
            try clear hx12
            try clear c23
            try clear c35
            try clear c35b1
            try clear c36
            try clear c36b0
            try clear c36b1
            try clear c42
            try clear c42b0
            try clear c42b1
            try clear c45
            try clear c45b0
            try clear c47
            try clear c47b0
            try clear c49
            try clear c49b0
            try clear c52
            try clear c53
            try clear c53b0
            try clear c54
            try clear c54b0
            try clear c54b1
            try clear c54b2
            try clear c59
            try clear c59b0
            try clear c59b1
            try clear c59b2
            try clear hcz10_0
            try clear hcz10_1
            try clear hcz10_2
            try clear hcz10_3
            try clear hcz10_4
            try clear hcz12_0
            try clear hcz12_1
            try clear hcz12_2
            try clear hcz12_3
            try clear hcz12_4
            try clear hcz13_0
            try clear hcz13_1
            try clear hcz13_2
            try clear hcz13_3
            try clear hcz13_4
            try clear hcz15_0
            try clear hcz15_1
            try clear hcz15_2
            try clear hcz15_3
            try clear hcz15_4
            try clear hcz16_0
            try clear hcz16_1
            try clear hcz16_2
            try clear hcz16_3
            try clear hcz16_4
            try clear hcz18_0
            try clear hcz18_1
            try clear hcz18_2
            try clear hcz18_3
            try clear hcz18_4
            try clear hcz19_0
            try clear hcz19_1
            try clear hcz19_2
            try clear hcz19_3
            try clear hcz19_4
            try clear hcz21_0
            try clear hcz21_1
            try clear hcz21_2
            try clear hcz21_3
            try clear hcz21_4
            try clear hcz22_0
            try clear hcz22_1
            try clear hcz22_2
            try clear hcz22_3
            try clear hcz22_4
            try clear hcz28_0
            try clear hcz28_1
            try clear hcz28_2
            try clear hcz28_3
            try clear hcz28_4
            try clear hcz29_0
            try clear hcz29_1
            try clear hcz29_2
            try clear hcz29_3
            try clear hcz29_4
            try clear hcz30_0
            try clear hcz30_1
            try clear hcz30_2
            try clear hcz30_3
            try clear hcz30_4
            try clear hcz31_0
            try clear hcz31_1
            try clear hcz31_2
            try clear hcz31_3
            try clear hcz31_4
            try clear hcz37_0
            try clear hcz37_1
            try clear hcz37_2
            try clear hcz37_3
            try clear hcz37_4
            try clear hcz38_0
            try clear hcz38_1
            try clear hcz38_2
            try clear hcz38_3
            try clear hcz38_4
            try clear hcz39_0
            try clear hcz39_1
            try clear hcz39_2
            try clear hcz39_3
            try clear hcz39_4
            try clear hcz40_0
            try clear hcz40_1
            try clear hcz40_2
            try clear hcz40_3
            try clear hcz40_4
            try clear hcz41_0
            try clear hcz41_1
            try clear hcz41_2
            try clear hcz41_3
            try clear hcz41_4
            try clear hcz44_0
            try clear hcz44_1
            try clear hcz44_2
            try clear hcz44_3
            try clear hcz44_4
            try clear hcz46_0
            try clear hcz46_1
            try clear hcz46_2
            try clear hcz46_3
            try clear hcz46_4
            try clear hcz48_0
            try clear hcz48_1
            try clear hcz48_2
            try clear hcz48_3
            try clear hcz48_4
            try clear hcz50_0
            try clear hcz50_1
            try clear hcz50_2
            try clear hcz50_3
            try clear hcz50_4
            try clear hcz51_0
            try clear hcz51_1
            try clear hcz51_2
            try clear hcz51_3
            try clear hcz51_4
            try clear hcz55_0
            try clear hcz55_1
            try clear hcz55_2
            try clear hcz55_3
            try clear hcz55_4
            try clear hcz56_0
            try clear hcz56_1
            try clear hcz56_2
            try clear hcz56_3
            try clear hcz56_4
            try clear hcz58_0
            try clear hcz58_1
            try clear hcz58_2
            try clear hcz58_3
            try clear hcz58_4
            try clear hfz10_0
            try clear hfz10_1
            try clear hfz10_2
            try clear hfz10_3
            try clear hfz10_4
            try clear hfz12_0
            try clear hfz12_1
            try clear hfz12_2
            try clear hfz12_3
            try clear hfz12_4
            try clear hfz13_0
            try clear hfz13_1
            try clear hfz13_2
            try clear hfz13_3
            try clear hfz13_4
            try clear hfz15_0
            try clear hfz15_1
            try clear hfz15_2
            try clear hfz15_3
            try clear hfz15_4
            try clear hfz16_0
            try clear hfz16_1
            try clear hfz16_2
            try clear hfz16_3
            try clear hfz16_4
            try clear hfz18_0
            try clear hfz18_1
            try clear hfz18_2
            try clear hfz18_3
            try clear hfz18_4
            try clear hfz19_0
            try clear hfz19_1
            try clear hfz19_2
            try clear hfz19_3
            try clear hfz19_4
            try clear hfz21_0
            try clear hfz21_1
            try clear hfz21_2
            try clear hfz21_3
            try clear hfz21_4
            try clear hfz22_0
            try clear hfz22_1
            try clear hfz22_2
            try clear hfz22_3
            try clear hfz22_4
            try clear hfz28_0
            try clear hfz28_1
            try clear hfz28_2
            try clear hfz28_3
            try clear hfz28_4
            try clear hfz29_0
            try clear hfz29_1
            try clear hfz29_2
            try clear hfz29_3
            try clear hfz29_4
            try clear hfz30_0
            try clear hfz30_1
            try clear hfz30_2
            try clear hfz30_3
            try clear hfz30_4
            try clear hfz31_0
            try clear hfz31_1
            try clear hfz31_2
            try clear hfz31_3
            try clear hfz31_4
            try clear hfz37_0
            try clear hfz37_1
            try clear hfz37_2
            try clear hfz37_3
            try clear hfz37_4
            try clear hfz38_0
            try clear hfz38_1
            try clear hfz38_2
            try clear hfz38_3
            try clear hfz38_4
            try clear hfz39_0
            try clear hfz39_1
            try clear hfz39_2
            try clear hfz39_3
            try clear hfz39_4
            try clear hfz40_0
            try clear hfz40_1
            try clear hfz40_2
            try clear hfz40_3
            try clear hfz40_4
            try clear hfz41_0
            try clear hfz41_1
            try clear hfz41_2
            try clear hfz41_3
            try clear hfz41_4
            try clear hfz44_0
            try clear hfz44_1
            try clear hfz44_2
            try clear hfz44_3
            try clear hfz44_4
            try clear hfz46_0
            try clear hfz46_1
            try clear hfz46_2
            try clear hfz46_3
            try clear hfz46_4
            try clear hfz48_0
            try clear hfz48_1
            try clear hfz48_2
            try clear hfz48_3
            try clear hfz48_4
            try clear hfz50_0
            try clear hfz50_1
            try clear hfz50_2
            try clear hfz50_3
            try clear hfz50_4
            try clear hfz51_0
            try clear hfz51_1
            try clear hfz51_2
            try clear hfz51_3
            try clear hfz51_4
            try clear hfz55_0
            try clear hfz55_1
            try clear hfz55_2
            try clear hfz55_3
            try clear hfz55_4
            try clear hfz56_0
            try clear hfz56_1
            try clear hfz56_2
            try clear hfz56_3
            try clear hfz56_4
            try clear hfz58_0
            try clear hfz58_1
            try clear hfz58_2
            try clear hfz58_3
            try clear hfz58_4
            try clear hx125_0
            try clear hx125_1
            try clear hx125_2
            try clear hx125_3
            try clear hx125_4
            try clear hx127_0
            try clear hx127_1
            try clear hx127_2
            try clear hx127_3
            try clear hx127_4
            try clear p125
            try clear p127
            try clear p2
            try clear q125
            try clear q127
            obtain ⟨kq, x139_56, rfl, HA, HJ56, BK124, HB⟩ := hcut
            cases kq with
            | zero => exact absurd HA.out (by simp [capnpref10_Valid.j2])
            | succ kj56 =>
             have H := HA.out
             clear HA
             simp only [capnpref10_Valid.j2] at H
             by_cases c63 : x139_56 = true
             ·subst c63
              have H1 : (some false) = some r := by rw [if_pos rfl] at H; exact H
              clear H
              have H := H1
              clear H1
              obtain rfl := Option.some.inj H
              go_wp2
              go_ret
              exact ⟨by first | rfl | (simp [errW_none, errW_some] <;> rfl) | (simp [*, errW_none, errW_some] <;> rfl), by repeat (first | (with_reducible first | exact HB.out | apply below_alloc | apply pw_below_drewN | apply below_drew1 | refine below_set ?_ GE124.out) | exact HB.out)⟩
             ·replace c63 := Bool.eq_false_iff.mpr c63
              subst c63
              have H1 : ((capnpref06_Trim.f kj56 a0_1 a0_2 l0_3).bind fun t129 => ((capnpref01_Same.f kj56 t129 l0_3).bind fun t132 => (some t132))) = some r := by rw [if_neg (show ¬ (false = true) by decide)] at H; exact H
              clear H
              have H := H1
              clear H1
              replace H := Option.bind_eq_some_iff.mp H
              obtain ⟨t129, A640, H⟩ := H
              replace H : ((capnpref01_Same.f kj56 t129 l0_3).bind fun t132 => (some t132)) = some r := H
              have A64 := Aside0.mk A640
              clear A640
              replace H := Option.bind_eq_some_iff.mp H
              obtain ⟨t132, A650, H⟩ := H
              replace H : (some t132) = some r := H
              have A65 := Aside0.mk A650
              clear A650
              obtain rfl := Option.some.inj H
              try go_wp2
              have n0_ := Aside0.mk (blk_drew BK124.out)
              have n1_ := Aside0.mk (below_drew1 HB.out)
              clear BK124
              clear HB
              have BK124 := n0_
              have HB := n1_
              clear n0_ n1_
              refine start_ (n := 11) (S := fun w' => w'.cell? ⟨gb124, 0, none⟩ = some (.int .i64 a0_0) ∧ w'.cell? ⟨gb124, 1, none⟩ = some (.int .i64 a0_1) ∧ w'.cell? ⟨gb124, 2, none⟩ = some (.int .i64 a0_2) ∧ w'.cell? ⟨gb124, 3, none⟩ = some (.slice A0_3 l0_3.length c0_3) ∧ w'.cell? ⟨gb124, 4, none⟩ = some (.slice A0_4 l0_4.length c0_4)) (ds := []) #[false, false, false, false, false, false, false, false, false, false, false] (by kernel_rfl) rfl rfl ⟨(blk_cell BK124.out 0).trans rfl, (blk_cell BK124.out 1).trans rfl, (blk_cell BK124.out 2).trans rfl, (blk_cell BK124.out 3).trans rfl, (blk_cell BK124.out 4).trans rfl⟩ (fun hHeld => ?_); refine with_tabW capnpref10_Valid.tab18 capnpref10_Valid.bits18 (fun HT_ HW_ => ?_)
              generalize wc.drew = w66 at BK124 HB hHeld ⊢
              refine pure_ (i := 0) (N := some 140) (v := ?_) (a' := ?_) #[true, false, false, false, false, false, false, false, false, false, false] rfl rfl (any_of HT_.out (by kernel_rfl)) (fun _ _ _ h => h) (Or.inl ⟨by rfl, ?_⟩) ?_ ?_
              rotate_left
              ·intro w'
               go_simp
               with_reducible rfl
              rotate_left
              ·simp only [Act.put, List.setIfInBounds_toArray, List.set_cons_zero, List.set_cons_succ, i64_w, i32_w]
               rfl
              refine pure_ (i := 2) (N := some 142) (v := ?_) (a' := ?_) #[true, false, true, false, false, false, false, false, false, false, false] rfl rfl (any_of HT_.out (by kernel_rfl)) (fun _ _ _ h => h) (Or.inl ⟨by rfl, ?_⟩) ?_ ?_
              rotate_left
              ·intro w'
               go_simp
               with_reducible rfl
              rotate_left
              ·simp only [Act.put, List.setIfInBounds_toArray, List.set_cons_zero, List.set_cons_succ, i64_w, i32_w]
               rfl
              refine pure_ (i := 4) (N := some 144) (v := ?_) (a' := ?_) #[true, false, true, false, true, false, false, false, false, false, false] rfl rfl (any_of HT_.out (by kernel_rfl)) (fun _ _ _ h => h) (Or.inl ⟨by rfl, ?_⟩) ?_ ?_
              rotate_left
              ·intro w'
               go_simp
               with_reducible rfl
              rotate_left
              ·simp only [Act.put, List.setIfInBounds_toArray, List.set_cons_zero, List.set_cons_succ, i64_w, i32_w]
               rfl
              refine pure_ (i := 7) (N := some 147) (v := ?_) (a' := ?_) #[true, false, true, false, true, false, false, true, false, false, false] rfl rfl (any_of HT_.out (by kernel_rfl)) (fun _ _ _ h => h) (Or.inl ⟨by rfl, ?_⟩) ?_ ?_
              rotate_left
              ·intro w'
               go_simp
               with_reducible rfl
              rotate_left
              ·simp only [Act.put, List.setIfInBounds_toArray, List.set_cons_zero, List.set_cons_succ, i64_w, i32_w]
               rfl
              refine take_ (i := 1) (N := some 141) (v := ?_) (a' := ?_) #[true, true, true, false, true, false, false, true, false, false, false] rfl rfl (take_ofW HT_.out HW_.out (by kernel_rfl)) (fun _ _ _ h => h) (Or.inl ⟨by rfl, ?_⟩) hHeld ?_ ?_
              rotate_left
              ·rintro w' ⟨s0, s1, s2, s3, s4⟩
               go_simp
               with_reducible rfl
              rotate_left
              ·simp only [Act.put, List.setIfInBounds_toArray, List.set_cons_zero, List.set_cons_succ, i64_w, i32_w]
               rfl
              refine take_ (i := 3) (N := some 143) (v := ?_) (a' := ?_) #[true, true, true, true, true, false, false, true, false, false, false] rfl rfl (take_ofW HT_.out HW_.out (by kernel_rfl)) (fun _ _ _ h => h) (Or.inl ⟨by rfl, ?_⟩) hHeld ?_ ?_
              rotate_left
              ·rintro w' ⟨s0, s1, s2, s3, s4⟩
               go_simp
               with_reducible rfl
              rotate_left
              ·simp only [Act.put, List.setIfInBounds_toArray, List.set_cons_zero, List.set_cons_succ, i64_w, i32_w]
               rfl
              refine take_ (i := 5) (N := some 145) (v := ?_) (a' := ?_) #[true, true, true, true, true, true, false, true, false, false, false] rfl rfl (take_ofW HT_.out HW_.out (by kernel_rfl)) (fun _ _ _ h => h) (Or.inl ⟨by rfl, ?_⟩) hHeld ?_ ?_
              rotate_left
              ·rintro w' ⟨s0, s1, s2, s3, s4⟩
               go_simp
               with_reducible rfl
              rotate_left
              ·simp only [Act.put, List.setIfInBounds_toArray, List.set_cons_zero, List.set_cons_succ, i64_w, i32_w]
               rfl
              refine take_ (i := 8) (N := some 148) (v := ?_) (a' := ?_) #[true, true, true, true, true, true, false, true, true, false, false] rfl rfl (take_ofW HT_.out HW_.out (by kernel_rfl)) (fun _ _ _ h => h) (Or.inl ⟨by rfl, ?_⟩) hHeld ?_ ?_
              rotate_left
              ·rintro w' ⟨s0, s1, s2, s3, s4⟩
               go_simp
               with_reducible rfl
              rotate_left
              ·simp only [Act.put, List.setIfInBounds_toArray, List.set_cons_zero, List.set_cons_succ, i64_w, i32_w]
               rfl
              refine one_ (i := 6) (N := some 146) #[true, true, true, true, true, true, true, true, true, false, false] rfl rfl (one_of HT_.out (by kernel_rfl)) (by decide) (fun K hK => ?_)
              refine goes_ Tryd.func25 (by kernel_rfl) rfl #[.int .i64 a0_1, .int .i64 a0_2, .slice A0_3 l0_3.length c0_3] (by rfl) rfl rfl (by (try simp only [List.map_toArray, List.map_cons, List.map_nil]); first | done | rfl | (simp only [List.length_drop, List.length_take]; rfl)) ?_
              with_reducible refine (capnpref06_Trim.calls kj56 a0_1 a0_2 _ _ l0_3 t129 _ ?side1 ?side2 A64.out).mono ?_
              (case side1 => repeat (first | exact (Kd.C_below HR0_3.out HB.out) | (with_reducible refine Kd.C_alloc ?_ _) | (with_reducible refine Kd.C_drewN ?_ _) | (with_reducible refine Kd.C_drew ?_)))
              (case side2 => exact HC0_3.out)
              rintro e w67 ⟨v130, rfl, ho0, hb⟩
              refine ⟨_, rfl, ?_⟩
              have n0_ := Aside0.mk (Kd.R_lower ho0 (below_size (by repeat (first | (with_reducible first | exact HB.out | apply below_alloc | apply pw_below_drewN | apply below_drew1 | refine below_set ?_ GE124.out) | exact HB.out))))
              have n1_ := Aside0.mk (blk_below (g := gb124) (o := .cells #[.int .i64 a0_0, .int .i64 a0_1, .int .i64 a0_2, .slice A0_3 l0_3.length c0_3, .slice A0_4 l0_4.length c0_4] 25 (0, 0)) (by (with_reducible repeat (first | refine blk_drewN ?_ _ | refine blk_drew ?_ | refine blk_alloc ?_ _)); exact BK124.out) hb)
              have n2_ := Aside0.mk (below_step (by repeat (first | (with_reducible first | exact HB.out | apply below_alloc | apply pw_below_drewN | apply below_drew1 | refine below_set ?_ GE124.out) | exact HB.out)) hb)
              clear BK124
              clear HB
              have HO131 := n0_
              have BK124 := n1_
              have HB := n2_
              clear n0_ n1_ n2_
              (try clear hb)
              (try clear hb2)
              (try clear hk)
              (try clear hi)
              (try clear ho0)
              obtain ⟨Ao68, co68, eo68⟩ := Kd.R_slice HO131.out
              (first | subst eo68 | (injection eo68 with f1_ f2_ f3_; have f4_ := f1_.symm; have f5_ := f3_.symm; clear f1_ f2_ f3_; subst f4_; subst f5_))
              refine hK.out _ _ ⟨(blk_cell BK124.out 0).trans rfl, (blk_cell BK124.out 1).trans rfl, (blk_cell BK124.out 2).trans rfl, (blk_cell BK124.out 3).trans rfl, (blk_cell BK124.out 4).trans rfl⟩ (fun hHeld => ?_)
              clear hK K
              refine norm_ (a' := ?_) ?_ ?_
              rotate_left
              ·show Act.put _ (some 146) _ = _
               simp only [Act.put, List.setIfInBounds_toArray, List.set_cons_zero, List.set_cons_succ, i64_w, i32_w]
               rfl
              refine one_ (i := 9) (N := some 149) #[true, true, true, true, true, true, true, true, true, true, false] rfl rfl (one_of HT_.out (by kernel_rfl)) (by decide) (fun K hK => ?_)
              refine goes_ Tryd.func24 (by kernel_rfl) rfl #[.slice Ao68 t129.length co68, .slice A0_3 l0_3.length c0_3] (by rfl) rfl rfl (by (try simp only [List.map_toArray, List.map_cons, List.map_nil]); first | done | rfl | (simp only [List.length_drop, List.length_take]; rfl)) ?_
              with_reducible refine (capnpref01_Same.calls kj56 _ _ t129 _ _ l0_3 t132 _ ?side1 ?side2 ?side3 ?side4 A65.out).mono ?_
              (case side1 => repeat (first | exact (Kd.R_reads' HO131.out).2.2 | (with_reducible refine Kd.C_alloc ?_ _) | (with_reducible refine Kd.C_drewN ?_ _) | (with_reducible refine Kd.C_drew ?_)))
              (case side2 => exact (Kd.R_reads' HO131.out).2.1)
              (case side3 => repeat (first | exact (Kd.C_below HR0_3.out HB.out) | (with_reducible refine Kd.C_alloc ?_ _) | (with_reducible refine Kd.C_drewN ?_ _) | (with_reducible refine Kd.C_drew ?_)))
              (case side4 => exact HC0_3.out)
              rintro e w' ⟨rfl, ⟨nd, rfl⟩⟩
              refine ⟨_, rfl, ?_⟩
              refine hK.out _ _ ⟨(blk_cell BK124.out 0).trans rfl, (blk_cell BK124.out 1).trans rfl, (blk_cell BK124.out 2).trans rfl, (blk_cell BK124.out 3).trans rfl, (blk_cell BK124.out 4).trans rfl⟩ (fun hHeld => ?_)
              clear hK K
              refine norm_ (a' := ?_) ?_ ?_
              rotate_left
              ·show Act.put _ (some 149) _ = _
               simp only [Act.put, List.setIfInBounds_toArray, List.set_cons_zero, List.set_cons_succ, i64_w, i32_w]
               rfl
              refine pure_ (i := 10) (N := some 2) (v := ?_) (a' := ?_) #[true, true, true, true, true, true, true, true, true, true, true] rfl rfl (any_of HT_.out (by kernel_rfl)) (fun _ _ _ h => h) (Or.inl ⟨by rfl, ?_⟩) ?_ ?_
              rotate_left
              ·intro w'
               go_simp
               with_reducible rfl
              rotate_left
              ·simp only [Act.put, List.setIfInBounds_toArray, List.set_cons_zero, List.set_cons_succ, i64_w, i32_w]
               rfl
              refine done_ (done_of HT_.out (by kernel_rfl)) ?_
              try go_wp2
              go_ret
              exact ⟨by first | rfl | (simp [errW_none, errW_some] <;> rfl) | (simp [*, errW_none, errW_some] <;> rfl), by repeat (first | (with_reducible first | exact HB.out | apply below_alloc | apply pw_below_drewN | apply below_drew1 | refine below_set ?_ GE124.out) | exact HB.out)⟩
      ·rw [if_neg c42] at H
       have c42b0 : (a0_0 == 2) = false := beq_eq_false_iff_ne.mpr c42
       have c42b1 : (a0_0 != 2) = true := bne_iff_ne.mpr c42
       obtain rfl := Option.some.inj H
       have hcz69_0 : wr.cell? ⟨gb124, 0, none⟩ = some (.int .i64 a0_0) := (blk_cell BK124.out 0).trans rfl
       have hcz69_1 : wr.cell? ⟨gb124, 1, none⟩ = some (.int .i64 a0_1) := (blk_cell BK124.out 1).trans rfl
       have hcz69_2 : wr.cell? ⟨gb124, 2, none⟩ = some (.int .i64 a0_2) := (blk_cell BK124.out 2).trans rfl
       have hcz69_3 : wr.cell? ⟨gb124, 3, none⟩ = some (.slice A0_3 l0_3.length c0_3) := (blk_cell BK124.out 3).trans rfl
       have hcz69_4 : wr.cell? ⟨gb124, 4, none⟩ = some (.slice A0_4 l0_4.length c0_4) := (blk_cell BK124.out 4).trans rfl
       have hfz69_0 := blk_frozen BK124.out 0
       have hfz69_1 := blk_frozen BK124.out 1
       have hfz69_2 := blk_frozen BK124.out 2
       have hfz69_3 := blk_frozen BK124.out 3
       have hfz69_4 := blk_frozen BK124.out 4
       go_wp2
       go_ret
       exact ⟨by first | rfl | (simp [errW_none, errW_some] <;> rfl) | (simp [*, errW_none, errW_some] <;> rfl), by repeat (first | (with_reducible first | exact HB.out | apply below_alloc | apply pw_below_drewN | apply below_drew1 | refine below_set ?_ GE124.out) | exact HB.out)⟩
end Go.Proofs.YtmbockhcmhghlaaDoor.Pr
end
section
namespace Go.Proofs.YtmbockhcmhghlaaDoor.Pr
open Go.RowKit Go.Proofs.YtmbockhcmhghlaaDoorW.PrintWords Go.Proofs.YtmbockhcmhghlaaDoorW.PrintLast Go.Proofs.YtmbockhcmhghlaaDoorW.PrintMore
set_option linter.unusedVariables false
set_option linter.unusedSimpArgs false
theorem w64 {x : Int} (h0 : -9223372036854775808 ≤ x) (h1 : x ≤ 9223372036854775807) : wrap64 x = x := IntWalk.wrap64_in _ ⟨h0, h1⟩
theorem rd_at (l : List Int) (j : Nat) (h : j < l.length) : rd l (j : Int) = l[j] := by
  unfold rd; simp [List.getD_eq_getElem?_getD, List.getElem?_eq_getElem h]
theorem rdT_at (l : List S25) (j : Nat) (h : j < l.length) : rd_T25 l (j : Int) = l[j] := by
  unfold rd_T25; simp [List.getD_eq_getElem?_getD, List.getElem?_eq_getElem h]
theorem S25.ind {P : S25 → Prop} (h : ∀ a : S25, (∀ x ∈ a.f4, P x) → P a) (a : S25) : P a :=
  S25.rec (motive_1 := P) (motive_2 := fun l => ∀ x ∈ l, P x) (fun k e n d l ih => h ⟨k, e, n, d, l⟩ ih) (fun _ hx => by cases hx) (fun y l hy hl x hx => by
    rcases List.mem_cons.1 hx with rfl | hx
    · exact hy
    · exact hl x hx) a
theorem take_one {α : Type} (l : List α) (j : Nat) (h : j < l.length) : l.take (j + 1) = l.take j ++ [l[j]] := List.take_succ_eq_append_getElem h
theorem S25.same {a b : S25} (h0 : a.f0 = b.f0) (h1 : a.f1 = b.f1) (h2 : a.f2 = b.f2) (h3 : a.f3 = b.f3) (h4 : a.f4 = b.f4) : a = b := by
  cases a; cases b; simp at h0 h1 h2 h3 h4; simp [h0, h1, h2, h3, h4]
inductive AllT (p : S25 → Prop) : S25 → Prop
  | mk {a : S25} (h : p a) (hk : ∀ x ∈ a.f4, AllT p x) : AllT p a
theorem AllT.here {p : S25 → Prop} {a : S25} (h : AllT p a) : p a := by cases h; assumption
theorem AllT.kids {p : S25 → Prop} {a : S25} (h : AllT p a) : ∀ x ∈ a.f4, AllT p x := by cases h; assumption
def okT : S25 → Prop := AllT fun a => ∀ x ∈ a.f3, 0 ≤ x ∧ x ≤ 255
mutual
def tsize : S25 → Nat
  | ⟨_, _, _, d, l⟩ => 1 + d.length + tsizes l
def tsizes : List S25 → Nat
  | [] => 0
  | k :: l => tsize k + tsizes l
end
mutual
def tnest : S25 → Nat
  | ⟨_, _, _, _, l⟩ => tnests l + 1
def tnests : List S25 → Nat
  | [] => 0
  | k :: l => max (tnest k) (tnests l)
end
theorem tsize_eq (a : S25) : tsize a = 1 + a.f3.length + tsizes a.f4 := by cases a; rfl
theorem tnest_eq (a : S25) : tnest a = tnests a.f4 + 1 := by cases a; rfl
theorem tsizes_append : ∀ (l m : List S25), tsizes (l ++ m) = tsizes l + tsizes m
  | [], m => by simp [tsizes]
  | k :: l, m => by simp [tsizes, tsizes_append l m]; omega
theorem tnests_append : ∀ (l m : List S25), tnests (l ++ m) = max (tnests l) (tnests m)
  | [], m => by simp [tnests]
  | k :: l, m => by simp [tnests, tnests_append l m, Nat.max_assoc]
theorem tsizes_take (l : List S25) (j : Nat) (h : j < l.length) : tsizes (l.take (j + 1)) = tsizes (l.take j) + tsize l[j] := by
  rw [take_one l j h, tsizes_append]; simp [tsizes]
theorem tnests_take (l : List S25) (j : Nat) (h : j < l.length) : tnests (l.take (j + 1)) = max (tnests (l.take j)) (tnest l[j]) := by
  rw [take_one l j h, tnests_append]; simp [tnests]
theorem tsizes_le (l : List S25) (j : Nat) : tsizes (l.take j) ≤ tsizes l := by
  have := tsizes_append (l.take j) (l.drop j)
  rw [List.take_append_drop] at this
  omega
theorem length_tsizes : ∀ l : List S25, l.length ≤ tsizes l
  | [] => by simp
  | k :: l => by
    have := length_tsizes l
    have := tsize_eq k
    simp [tsizes]; omega
theorem tsize_mem {l : List S25} {x : S25} (h : x ∈ l) : tsize x ≤ tsizes l := by
  induction l with
  | nil => cases h
  | cons k l ih =>
    simp only [tsizes]
    rcases List.mem_cons.1 h with rfl | h
    · omega
    · have := ih h; omega
theorem tsize_kid {a x : S25} (h : x ∈ a.f4) : tsize x < tsize a := by
  have := tsize_mem h
  have := tsize_eq a
  omega
theorem tnests_bound {l : List S25} {B : Nat} (h : ∀ x ∈ l, tnest x ≤ B) : tnests l ≤ B := by
  induction l with
  | nil => simp [tnests]
  | cons k l ih =>
    simp only [tnests]
    have := h k List.mem_cons_self
    have := ih (fun x hx => h x (List.mem_cons_of_mem _ hx))
    omega
theorem tnest_le (a : S25) : tnest a ≤ tsize a := by
  refine S25.ind (P := fun a => tnest a ≤ tsize a) (fun a ih => ?_) a
  have h1 := tnest_eq a
  have h2 := tsize_eq a
  have h3 : tnests a.f4 ≤ tsizes a.f4 := tnests_bound fun x hx => Nat.le_trans (ih x hx) (tsize_mem hx)
  omega
theorem size_ev (a : S25) : tsize a ≤ 4611686018427387904 → Ev (fun k => capnpref10_Size.f k a.f0 a.f1 a.f2 a.f3 a.f4) (tsize a : Int) := by
  refine S25.ind (P := fun a => tsize a ≤ 4611686018427387904 → Ev (fun k => capnpref10_Size.f k a.f0 a.f1 a.f2 a.f3 a.f4) (tsize a : Int)) (fun a ih hs => ?_) a
  have he := tsize_eq a
  have hl := length_tsizes a.f4
  have loop : ∀ d j : Nat, a.f4.length - j = d → j ≤ a.f4.length → Ev (fun k => capnpref10_Size.l0 k ((1 + a.f3.length + tsizes (a.f4.take j) : Nat) : Int) (j : Int) a.f0 a.f1 a.f2 a.f3 a.f4) (tsize a : Int) := by
    intro d
    induction d with
    | zero =>
      intro j hd hj
      refine Ev.step (f := fun _ => some (tsize a : Int)) (fun k => ?_) (Ev.now _)
      simp only [capnpref10_Size.l0]
      rw [if_neg (by omega), List.take_of_length_le (by omega), he]
    | succ d ihd =>
      intro j hd hj
      have hlt : j < a.f4.length := by omega
      have ht := tsizes_take a.f4 j hlt
      have ht2 := tsizes_le a.f4 (j + 1)
      refine Ev.step (f := fun k => (capnpref10_Size.f k a.f4[j].f0 a.f4[j].f1 a.f4[j].f2 a.f4[j].f3 a.f4[j].f4).bind fun t => capnpref10_Size.l0 k (wrap64 (((1 + a.f3.length + tsizes (a.f4.take j) : Nat) : Int) + t)) (wrap64 ((j : Int) + 1)) a.f0 a.f1 a.f2 a.f3 a.f4) (fun k => ?_) ?_
      · simp only [capnpref10_Size.l0]
        rw [if_pos (by omega), if_pos (by omega), rdT_at _ _ hlt]
      · have hk := tsize_kid (List.getElem_mem hlt : a.f4[j] ∈ a.f4)
        refine Ev.bind (ih _ (List.getElem_mem hlt) (by omega)) ?_
        rw [w64 (by omega) (by omega), w64 (by omega) (by omega)]
        have := ihd (j + 1) (by omega) (by omega)
        rw [ht] at this
        have e1 : ((1 + a.f3.length + (tsizes (a.f4.take j) + tsize a.f4[j]) : Nat) : Int) = ((1 + a.f3.length + tsizes (a.f4.take j) : Nat) : Int) + (tsize a.f4[j] : Int) := by omega
        have e2 : ((j + 1 : Nat) : Int) = (j : Int) + 1 := by omega
        rw [e1, e2] at this
        exact this
  refine Ev.step (f := fun k => capnpref10_Size.l0 k (wrap64 (1 + (a.f3.length : Int))) 0 a.f0 a.f1 a.f2 a.f3 a.f4) (fun k => by simp only [capnpref10_Size.f]) ?_
  rw [w64 (by omega) (by omega)]
  have := loop a.f4.length 0 (by omega) (by omega)
  have e1 : ((1 + a.f3.length + tsizes (a.f4.take 0) : Nat) : Int) = 1 + (a.f3.length : Int) := by simp [tsizes]
  rw [e1] at this
  exact this
theorem mx_max (a b : Int) : mx a b = max a b := by unfold mx; omega
theorem nest_ev (a : S25) : tsize a ≤ 4611686018427387904 → Ev (fun k => capnpref10_Nesting.f k a.f0 a.f1 a.f2 a.f3 a.f4) (tnest a : Int) := by
  refine S25.ind (P := fun a => tsize a ≤ 4611686018427387904 → Ev (fun k => capnpref10_Nesting.f k a.f0 a.f1 a.f2 a.f3 a.f4) (tnest a : Int)) (fun a ih hs => ?_) a
  have he := tsize_eq a
  have hn := tnest_eq a
  have hnl := tnest_le a
  have hl := length_tsizes a.f4
  have loop : ∀ d j : Nat, a.f4.length - j = d → j ≤ a.f4.length → Ev (fun k => capnpref10_Nesting.l0 k (tnests (a.f4.take j) : Int) (j : Int) a.f0 a.f1 a.f2 a.f3 a.f4) (tnest a : Int) := by
    intro d
    induction d with
    | zero =>
      intro j hd hj
      refine Ev.step (f := fun _ => some (tnest a : Int)) (fun k => ?_) (Ev.now _)
      simp only [capnpref10_Nesting.l0]
      rw [if_neg (by omega), List.take_of_length_le (by omega), w64 (by omega) (by omega), hn]
      congr 1
    | succ d ihd =>
      intro j hd hj
      have hlt : j < a.f4.length := by omega
      have ht := tnests_take a.f4 j hlt
      refine Ev.step (f := fun k => (capnpref10_Nesting.f k a.f4[j].f0 a.f4[j].f1 a.f4[j].f2 a.f4[j].f3 a.f4[j].f4).bind fun t => capnpref10_Nesting.l0 k (mx (tnests (a.f4.take j) : Int) t) (wrap64 ((j : Int) + 1)) a.f0 a.f1 a.f2 a.f3 a.f4) (fun k => ?_) ?_
      · simp only [capnpref10_Nesting.l0]
        rw [if_pos (by omega), if_pos (by omega), rdT_at _ _ hlt]
      · have hk := tsize_kid (List.getElem_mem hlt : a.f4[j] ∈ a.f4)
        refine Ev.bind (ih _ (List.getElem_mem hlt) (by omega)) ?_
        rw [mx_max, w64 (by omega) (by omega)]
        have := ihd (j + 1) (by omega) (by omega)
        rw [ht] at this
        have e1 : ((max (tnests (a.f4.take j)) (tnest a.f4[j]) : Nat) : Int) = max (tnests (a.f4.take j) : Int) (tnest a.f4[j] : Int) := by omega
        have e2 : ((j + 1 : Nat) : Int) = (j : Int) + 1 := by omega
        rw [e1, e2] at this
        exact this
  refine Ev.step (f := fun k => capnpref10_Nesting.l0 k 0 0 a.f0 a.f1 a.f2 a.f3 a.f4) (fun k => by simp only [capnpref10_Nesting.f]) ?_
  have := loop a.f4.length 0 (by omega) (by omega)
  have e1 : ((tnests (a.f4.take 0) : Nat) : Int) = 0 := by simp [tnests]
  rw [e1] at this
  exact this
def tfew (a : S25) : Bool := decide (tsize a ≤ 3000) && decide (tnest a ≤ 40)
theorem few_ev (a : S25) (h : tsize a ≤ 4611686018427387904) : Ev (fun k => capnpref10_Few.f k a.f0 a.f1 a.f2 a.f3 a.f4) (tfew a) := by
  unfold capnpref10_Few.f
  refine Ev.bind (size_ev a h) ?_
  unfold tfew
  by_cases h1 : tsize a ≤ 3000
  · refine Ev.congr (f := fun k => (capnpref10_Nesting.f k a.f0 a.f1 a.f2 a.f3 a.f4).bind fun t => some (decide (t ≤ 40))) (fun k => by rw [if_pos (by omega)]) ?_
    refine Ev.bind (nest_ev a h) ?_
    have e : (decide (tsize a ≤ 3000) && decide (tnest a ≤ 40)) = decide ((tnest a : Int) ≤ 40) := by
      rw [decide_eq_true h1, Bool.true_and]; exact decide_eq_decide.2 (by omega)
    rw [e]
    exact Ev.now _
  · refine Ev.congr (f := fun k => some false) (fun k => by rw [if_neg (by omega)]) ?_
    rw [decide_eq_false h1, Bool.false_and]
    exact Ev.now _
theorem take_next {α : Type} {l m : List α} {j : Nat} (hl : j < l.length) (hm : j < m.length) (h : l.take j = m.take j) (e : l[j] = m[j]) : l.take (j + 1) = m.take (j + 1) := by
  rw [take_one l j hl, take_one m j hm, h, e]
theorem same_ev (xs ys : List Int) (h : xs.length ≤ 4611686018427387904) : Ev (fun k => capnpref01_Same.f k xs ys) (decide (xs = ys)) := by
  unfold capnpref01_Same.f
  by_cases hl : xs.length = ys.length
  · refine Ev.congr (f := fun k => capnpref01_Same.l0 k xs ys 0) (fun k => by rw [if_pos (by omega)]) ?_
    have loop : ∀ d j : Nat, xs.length - j = d → j ≤ xs.length → xs.take j = ys.take j → Ev (fun k => capnpref01_Same.l0 k xs ys (j : Int)) (decide (xs = ys)) := by
      intro d
      induction d with
      | zero =>
        intro j hd hj ht
        refine Ev.step (f := fun _ => some (decide (xs = ys))) (fun k => ?_) (Ev.now _)
        simp only [capnpref01_Same.l0]
        rw [if_neg (by omega)]
        rw [List.take_of_length_le (by omega), List.take_of_length_le (by omega)] at ht
        simp [ht]
      | succ d ihd =>
        intro j hd hj ht
        have hlt : j < xs.length := by omega
        by_cases e : xs[j] = ys[j]'(by omega)
        · refine Ev.step (f := fun k => capnpref01_Same.l0 k xs ys (wrap64 ((j : Int) + 1))) (fun k => ?_) ?_
          · simp only [capnpref01_Same.l0]
            rw [if_pos (by omega), if_pos (by omega), if_pos (by omega), rd_at _ _ hlt, rd_at _ _ (by omega), if_pos e]
          · rw [w64 (by omega) (by omega)]
            exact ihd (j + 1) (by omega) (by omega) (take_next hlt (by omega) ht e)
        · have hne : ¬ xs = ys := fun h => e (by subst h; rfl)
          refine Ev.step (f := fun _ => some (decide (xs = ys))) (fun k => ?_) (Ev.now _)
          simp only [capnpref01_Same.l0]
          rw [if_pos (by omega), if_pos (by omega), if_pos (by omega), rd_at _ _ hlt, rd_at _ _ (by omega), if_neg e, decide_eq_false hne]
    exact loop xs.length 0 (by omega) (by omega) rfl
  · have hne : ¬ xs = ys := fun h => hl (by rw [h])
    refine Ev.congr (f := fun _ => some false) (fun k => by rw [if_neg (by omega)]) ?_
    rw [decide_eq_false hne]
    exact Ev.now _
noncomputable def eqT (a b : S25) : Bool := @decide (a = b) (Classical.propDecidable _)
theorem eqT_true {a b : S25} (h : a = b) : eqT a b = true := by unfold eqT; simp [h]
theorem eqT_false {a b : S25} (h : ¬ a = b) : eqT a b = false := by unfold eqT; simp [h]
theorem eqT_iff {a b : S25} : eqT a b = true ↔ a = b := by unfold eqT; simp
end Go.Proofs.YtmbockhcmhghlaaDoor.Pr
end
section
namespace Go.Proofs.YtmbockhcmhghlaaDoor.Pr
open Go.RowKit Go.Proofs.YtmbockhcmhghlaaDoorW.PrintWords Go.Proofs.YtmbockhcmhghlaaDoorW.PrintLast Go.Proofs.YtmbockhcmhghlaaDoorW.PrintMore
set_option linter.unusedVariables false
set_option linter.unusedSimpArgs false
def bitsOf (e : Int) : Int := if e = 1 then 1 else if e = 2 then 8 else if e = 3 then 16 else if e = 4 then 32 else if e = 5 then 64 else if e = 6 then 64 else 0
theorem bitsOf_range (e : Int) : 0 ≤ bitsOf e ∧ bitsOf e ≤ 64 := by unfold bitsOf; repeat' split <;> omega
theorem bits_f (e : Int) : capnpref06_Bits.f e = some (bitsOf e) := by
  unfold capnpref06_Bits.f bitsOf
  repeat' split
  all_goals rfl
def bytesOf (e c : Int) : Int := (bitsOf e * c + 7) / 8
theorem bitsOf_mul (e c : Int) (h0 : 0 ≤ c) (h1 : c ≤ 4294967296) : 0 ≤ bitsOf e * c ∧ bitsOf e * c ≤ 274877906944 := by
  obtain ⟨a, b⟩ := bitsOf_range e
  refine ⟨Int.mul_nonneg a h0, ?_⟩
  have := Int.mul_le_mul b h1 h0 (by omega : (0:Int) ≤ 64)
  omega
theorem bytes_f (e c : Int) (h0 : 0 ≤ c) (h1 : c ≤ 4294967296) : capnpref06_Bytes.f e c = some (bytesOf e c) := by
  obtain ⟨a, b⟩ := bitsOf_mul e c h0 h1
  unfold capnpref06_Bytes.f
  rw [bits_f]
  simp only [Option.bind_some]
  unfold bytesOf
  generalize bitsOf e * c = x at *
  rw [w64 (x := x) (by omega) (by omega), Int.tdiv_eq_ediv_of_nonneg a, w64 (x := x / 8) (by omega) (by omega), w64 (x := x / 8 * 8) (by omega) (by omega), w64 (x := x / 8 + 1) (by omega) (by omega)]
  split
  · congr 1; omega
  · congr 1; omega
theorem bytesOf_nonneg (e c : Int) (h0 : 0 ≤ c) : 0 ≤ bytesOf e c := by
  have := bitsOf_range e
  have := Int.mul_nonneg this.1 h0
  unfold bytesOf; omega
theorem bytesOf_le (e c : Int) (h0 : 0 ≤ c) (h1 : c ≤ 4294967296) : bytesOf e c ≤ 34359738368 := by
  have := bitsOf_mul e c h0 h1
  unfold bytesOf; omega
def rT (e c : Int) (xs : List Int) (j : Nat) : Int := if e = 1 ∧ c < 8 * j + 8 then xs.getD j 0 % 2 ^ (c - 8 * j).toNat else xs.getD j 0
def rL (e c : Int) (xs : List Int) (k : Nat) : List Int := (List.range k).map (rT e c xs)
theorem rL_succ (e c : Int) (xs : List Int) (k : Nat) : rL e c xs (k + 1) = rL e c xs k ++ [rT e c xs k] := by simp [rL, List.range_succ]
theorem rL_length (e c : Int) (xs : List Int) (k : Nat) : (rL e c xs k).length = k := by simp [rL]
theorem getD_at (xs : List Int) (j : Nat) (h : j < xs.length) : xs.getD j 0 = xs[j] := by simp [List.getD_eq_getElem?_getD, List.getElem?_eq_getElem h]
theorem trim_ev (e c : Int) (h0 : 0 ≤ c) (h1 : c ≤ 4294967296) (xs : List Int) (hx : ∀ x ∈ xs, 0 ≤ x ∧ x ≤ 255) (m : Nat) (hm : (m : Int) = bytesOf e c) (hmx : m ≤ xs.length) :
    Ev (fun k => capnpref06_Trim.f k e c xs) (rL e c xs m) := by
  unfold capnpref06_Trim.f
  have hb := bytesOf_le e c h0 h1
  have hbits := bitsOf_mul e c h0 h1
  have loop : ∀ d j : Nat, m - j = d → j ≤ m → Ev (fun k => capnpref06_Trim.l0 k e c xs (rL e c xs j) (j : Int)) (rL e c xs m) := by
    intro d
    induction d with
    | zero =>
      intro j hd hj
      obtain rfl : j = m := by omega
      refine Ev.step (f := fun _ => some (rL e c xs j)) (fun k => ?_) (Ev.now _)
      simp only [capnpref06_Trim.l0]
      rw [bytes_f e c h0 h1, Option.bind_some, if_neg (by omega)]
    | succ d ihd =>
      intro j hd hj
      have hlt : j < xs.length := by omega
      have hnext := ihd (j + 1) (by omega) (by omega)
      have e2 : ((j + 1 : Nat) : Int) = (j : Int) + 1 := by omega
      rw [rL_succ, e2] at hnext
      have hxr := hx _ (List.getElem_mem hlt)
      have plain : rT e c xs j = xs[j] → Ev (fun k => capnpref06_Trim.j1 k e c xs (rL e c xs j) (j : Int) (xs[j]) false) (rL e c xs m) := fun hp => by
        refine Ev.step (f := fun k => capnpref06_Trim.l0 k e c xs (rL e c xs j ++ [xs[j]]) (wrap64 ((j : Int) + 1))) (fun k => ?_) ?_
        · simp only [capnpref06_Trim.j1]
          rw [if_neg (by simp), if_pos (by rw [rL_length]; omega)]
        · rw [w64 (by omega) (by omega), ← hp]
          exact hnext
      by_cases he : e = 1
      · subst he
        refine Ev.step (f := fun k => capnpref06_Trim.j1 k 1 c xs (rL 1 c xs j) (j : Int) xs[j] (decide (wrap64 (wrap64 (8 * (j : Int)) + 8) > c))) (fun k => ?_) ?_
        · simp only [capnpref06_Trim.l0]
          rw [bytes_f 1 c h0 h1, Option.bind_some, if_pos (by omega), if_pos (by omega), if_pos (by omega), if_pos trivial, rd_at _ _ hlt]
        · rw [w64 (x := 8 * (j : Int)) (by omega) (by omega), w64 (by omega) (by omega)]
          have hcm : 8 * (j : Int) < c := by
            have : bytesOf 1 c = (c + 7) / 8 := by unfold bytesOf; rw [show bitsOf 1 = 1 from rfl, Int.one_mul]
            omega
          by_cases hc : c < 8 * (j : Int) + 8
          · rw [decide_eq_true hc]
            obtain ⟨q, hq⟩ : ∃ q : Nat, c - 8 * (j : Int) = q := ⟨(c - 8 * (j : Int)).toNat, by omega⟩
            have hp : rT 1 c xs j = xs[j] % 2 ^ q := by
              unfold rT
              rw [if_pos ⟨rfl, hc⟩, getD_at _ _ hlt, hq]
              rfl
            rw [hp] at hnext
            refine Ev.step (f := fun k => capnpref06_Trim.l1 k 1 c xs (rL 1 c xs j) (j : Int) xs[j] (wrap64 (c - wrap64 (8 * (j : Int)))) 1 0) (fun k => ?_) ?_
            · simp only [capnpref06_Trim.j1]
              rw [if_pos trivial]
            · rw [w64 (x := 8 * (j : Int)) (by omega) (by omega), w64 (by omega) (by omega), hq]
              have hq7 : q ≤ 7 := by omega
              have pow7 : ∀ i : Nat, i ≤ 7 → (1 : Int) ≤ 2 ^ i ∧ (2 : Int) ^ i ≤ 128 := fun i hi => by
                rcases (by omega : i = 0 ∨ i = 1 ∨ i = 2 ∨ i = 3 ∨ i = 4 ∨ i = 5 ∨ i = 6 ∨ i = 7) with rfl | rfl | rfl | rfl | rfl | rfl | rfl | rfl <;> decide
              have pows : ∀ d i : Nat, q - i = d → i ≤ q → Ev (fun k => capnpref06_Trim.l1 k 1 c xs (rL 1 c xs j) (j : Int) xs[j] (q : Int) (2 ^ i) (i : Int)) (rL 1 c xs m) := by
                intro d
                induction d with
                | zero =>
                  intro i hd hi
                  obtain rfl : i = q := by omega
                  have hp2 := pow7 i hq7
                  refine Ev.step (f := fun k => capnpref06_Trim.l0 k 1 c xs (rL 1 c xs j ++ [Int.tmod (wrap64 xs[j]) (2 ^ i) % 256]) (wrap64 ((j : Int) + 1))) (fun k => ?_) ?_
                  · simp only [capnpref06_Trim.l1]
                    rw [if_neg (by omega), if_neg (by omega), if_pos (by rw [rL_length]; omega)]
                  · rw [w64 (x := xs[j]) (by omega) (by omega), w64 (by omega) (by omega), Int.tmod_eq_emod_of_nonneg hxr.1]
                    have r1 : 0 ≤ xs[j] % 2 ^ i := Int.emod_nonneg _ (by omega)
                    have r2 : xs[j] % 2 ^ i < 2 ^ i := Int.emod_lt_of_pos _ (by omega)
                    rw [Int.emod_eq_of_lt (a := xs[j] % 2 ^ i) (b := 256) r1 (by omega)]
                    exact hnext
                | succ d ihp =>
                  intro i hd hi
                  have hp2 := pow7 i (by omega)
                  refine Ev.step (f := fun k => capnpref06_Trim.l1 k 1 c xs (rL 1 c xs j) (j : Int) xs[j] (q : Int) (wrap64 (2 ^ i * 2)) (wrap64 ((i : Int) + 1))) (fun k => ?_) ?_
                  · simp only [capnpref06_Trim.l1]
                    rw [if_pos (by omega)]
                  · rw [w64 (x := 2 ^ i * 2) (by omega) (by omega), w64 (by omega) (by omega)]
                    have := ihp (i + 1) (by omega) (by omega)
                    rw [Int.pow_succ] at this
                    exact this
              exact pows q 0 (by omega) (by omega)
          · rw [decide_eq_false (by omega)]
            refine plain ?_
            unfold rT
            rw [if_neg (by rintro ⟨_, h⟩; omega), getD_at _ _ hlt]
      · refine Ev.step (f := fun k => capnpref06_Trim.j1 k e c xs (rL e c xs j) (j : Int) xs[j] false) (fun k => ?_) (plain ?_)
        · simp only [capnpref06_Trim.l0]
          rw [bytes_f e c h0 h1, Option.bind_some, if_pos (by omega), if_pos (by omega), if_pos (by omega), if_neg he, rd_at _ _ hlt]
        · unfold rT
          rw [if_neg (by rintro ⟨h, _⟩; exact he h), getD_at _ _ hlt]
  exact loop m 0 (by omega) (by omega)
def topV (k e n : Int) (d : List Int) (m : Nat) : Bool :=
  if k = 0 then (e == 0) && ((n == 0) && (((d.length : Int) == 0) && ((m : Int) == 0)))
  else if k = 1 then (e == 0) && ((n == 0) && (((d.length : Int) % 8 == 0) && (decide ((d.length : Int) ≤ 524280) && decide ((m : Int) ≤ 65535))))
  else if k = 2 then
    if n < 0 ∨ 536870911 < n ∨ e < 0 ∨ 7 < e then false
    else if 6 ≤ e then ((d.length : Int) == 0) && ((m : Int) == n)
    else if ¬ m = 0 ∨ ¬ (d.length : Int) = bytesOf e n then false else decide (rL e n d d.length = d)
  else false
mutual
def tvalid : S25 → Bool
  | ⟨k, e, n, d, l⟩ => tvalids (k == 2 && e == 7) l && topV k e n d l.length
def tvalids (c : Bool) : List S25 → Bool
  | [] => true
  | x :: l => (tvalid x && !(c && x.f0 != 1)) && tvalids c l
end
theorem tvalid_eq (a : S25) : tvalid a = (tvalids (a.f0 == 2 && a.f1 == 7) a.f4 && topV a.f0 a.f1 a.f2 a.f3 a.f4.length) := by cases a; rfl
theorem tvalids_append (c : Bool) : ∀ (l m : List S25), tvalids c (l ++ m) = (tvalids c l && tvalids c m)
  | [], m => by simp [tvalids]
  | k :: l, m => by simp [tvalids, tvalids_append c l m, Bool.and_assoc]
theorem tvalids_take (c : Bool) (l : List S25) (j : Nat) (h : j < l.length) : tvalids c (l.take (j + 1)) = (tvalids c (l.take j) && (tvalid l[j] && !(c && l[j].f0 != 1))) := by
  rw [take_one l j h, tvalids_append]
  simp [tvalids]
theorem tvalids_bad (c : Bool) (l : List S25) (j : Nat) (h : j < l.length) (hb : (tvalid l[j] && !(c && l[j].f0 != 1)) = false) : tvalids c l = false := by
  have h1 := tvalids_append c (l.take (j + 1)) (l.drop (j + 1))
  rw [List.take_append_drop, tvalids_take c l j h, hb] at h1
  simpa using h1
theorem tvalids_all (c : Bool) (l : List S25) : tvalids c l = true ↔ ∀ x ∈ l, tvalid x = true ∧ (c = true → x.f0 = 1) := by
  induction l with
  | nil => simp [tvalids]
  | cons k l ih =>
    simp only [tvalids, Bool.and_eq_true, ih, List.mem_cons, forall_eq_or_imp]
    constructor
    · rintro ⟨⟨a, b⟩, h⟩
      refine ⟨⟨a, fun hc => ?_⟩, h⟩
      subst hc
      simpa using b
    · rintro ⟨⟨a, b⟩, h⟩
      refine ⟨⟨a, ?_⟩, h⟩
      cases c with
      | false => rfl
      | true => simp [b rfl]
theorem valid_ev (a : S25) : okT a → tsize a ≤ 4611686018427387904 → Ev (fun k => capnpref10_Valid.f k a.f0 a.f1 a.f2 a.f3 a.f4) (tvalid a) := by
  refine S25.ind (P := fun a => okT a → tsize a ≤ 4611686018427387904 → Ev (fun k => capnpref10_Valid.f k a.f0 a.f1 a.f2 a.f3 a.f4) (tvalid a)) (fun a ih hok hs => ?_) a
  have he := tsize_eq a
  have hl := length_tsizes a.f4
  have hx := AllT.here hok
  obtain ⟨C, hC⟩ : ∃ C : Bool, (a.f0 == 2 && a.f1 == 7) = C := ⟨_, rfl⟩
  have HV : tvalid a = (tvalids C a.f4 && topV a.f0 a.f1 a.f2 a.f3 a.f4.length) := by rw [tvalid_eq, hC]
  have yes : ∀ k, capnpref10_Valid.j1 (k + 1) true a.f0 a.f1 a.f2 a.f3 a.f4 = some false := fun k => by
    simp only [capnpref10_Valid.j1]; rw [if_pos trivial]
  have top : Ev (fun k => capnpref10_Valid.l0 k (a.f4.length : Int) a.f0 a.f1 a.f2 a.f3 a.f4) (topV a.f0 a.f1 a.f2 a.f3 a.f4.length) := by
    by_cases k0 : a.f0 = 0
    · refine Ev.step (f := fun _ => some (topV a.f0 a.f1 a.f2 a.f3 a.f4.length)) (fun k => ?_) (Ev.now _)
      simp only [capnpref10_Valid.l0]
      rw [if_neg (by omega), if_pos k0]
      unfold topV
      rw [if_pos k0]
      by_cases a1 : a.f1 = 0
      · by_cases a2 : a.f2 = 0
        · by_cases a3 : (a.f3.length : Int) = 0
          · rw [if_pos a1, if_pos a2, if_pos a3, a1, a2, a3]; rfl
          · rw [if_pos a1, if_pos a2, if_neg a3, a1, a2]
            have : ((a.f3.length : Int) == 0) = false := by simpa using a3
            rw [this]; rfl
        · rw [if_pos a1, if_neg a2, a1]
          have : (a.f2 == 0) = false := by simpa using a2
          rw [this]; rfl
      · rw [if_neg a1]
        have : (a.f1 == 0) = false := by simpa using a1
        rw [this]; rfl
    by_cases k1 : a.f0 = 1
    · refine Ev.step (f := fun _ => some (topV a.f0 a.f1 a.f2 a.f3 a.f4.length)) (fun k => ?_) (Ev.now _)
      simp only [capnpref10_Valid.l0]
      rw [if_neg (by omega), if_neg k0, if_pos k1]
      unfold topV
      rw [if_neg k0, if_pos k1]
      by_cases a1 : a.f1 = 0
      · by_cases a2 : a.f2 = 0
        · by_cases a3 : (a.f3.length : Int) % 8 = 0
          · by_cases a4 : (a.f3.length : Int) ≤ 524280
            · rw [if_pos a1, if_pos a2, if_pos a3, if_pos a4, a1, a2, a3, decide_eq_true a4]; rfl
            · rw [if_pos a1, if_pos a2, if_pos a3, if_neg a4, a1, a2, a3, decide_eq_false a4]; rfl
          · rw [if_pos a1, if_pos a2, if_neg a3, a1, a2]
            have : ((a.f3.length : Int) % 8 == 0) = false := by simpa using a3
            rw [this]; rfl
        · rw [if_pos a1, if_neg a2, a1]
          have : (a.f2 == 0) = false := by simpa using a2
          rw [this]; rfl
      · rw [if_neg a1]
        have : (a.f1 == 0) = false := by simpa using a1
        rw [this]; rfl
    by_cases k2 : a.f0 = 2
    · have bad : (a.f2 < 0 ∨ 536870911 < a.f2 ∨ a.f1 < 0 ∨ 7 < a.f1) → topV a.f0 a.f1 a.f2 a.f3 a.f4.length = false := fun h => by
        unfold topV; rw [if_neg k0, if_neg k1, if_pos k2, if_pos h]
      have go : ∀ b : Bool, (b = true → topV a.f0 a.f1 a.f2 a.f3 a.f4.length = false) → (b = false → Ev (fun k => capnpref10_Valid.j1 k false a.f0 a.f1 a.f2 a.f3 a.f4) (topV a.f0 a.f1 a.f2 a.f3 a.f4.length)) → Ev (fun k => capnpref10_Valid.j1 k b a.f0 a.f1 a.f2 a.f3 a.f4) (topV a.f0 a.f1 a.f2 a.f3 a.f4.length) := fun b h1 h2 => by
        cases b with
        | true => rw [h1 rfl]; exact Ev.step yes (Ev.now _)
        | false => exact h2 rfl
      by_cases a1 : a.f2 < 0
      · refine Ev.step (f := fun k => capnpref10_Valid.j1 k true a.f0 a.f1 a.f2 a.f3 a.f4) (fun k => ?_) (go true (fun _ => bad (.inl a1)) (fun h => by cases h))
        simp only [capnpref10_Valid.l0]
        rw [if_neg (by omega), if_neg k0, if_neg k1, if_pos k2, if_pos a1]
      by_cases a2 : 536870911 < a.f2
      · refine Ev.step (f := fun k => capnpref10_Valid.j1 k true a.f0 a.f1 a.f2 a.f3 a.f4) (fun k => ?_) (go true (fun _ => bad (.inr (.inl a2))) (fun h => by cases h))
        simp only [capnpref10_Valid.l0]
        rw [if_neg (by omega), if_neg k0, if_neg k1, if_pos k2, if_neg a1, if_pos a2]
      by_cases a3 : a.f1 < 0
      · refine Ev.step (f := fun k => capnpref10_Valid.j1 k true a.f0 a.f1 a.f2 a.f3 a.f4) (fun k => ?_) (go true (fun _ => bad (.inr (.inr (.inl a3)))) (fun h => by cases h))
        simp only [capnpref10_Valid.l0]
        rw [if_neg (by omega), if_neg k0, if_neg k1, if_pos k2, if_neg a1, if_neg (by omega), if_pos a3]
      refine Ev.step (f := fun k => capnpref10_Valid.j1 k (decide (a.f1 > 7)) a.f0 a.f1 a.f2 a.f3 a.f4) (fun k => ?_) (go _ (fun h => bad (.inr (.inr (.inr (of_decide_eq_true h))))) (fun h => ?_))
      · simp only [capnpref10_Valid.l0]
        rw [if_neg (by omega), if_neg k0, if_neg k1, if_pos k2, if_neg a1, if_neg (by omega), if_neg a3]
      have a4 : a.f1 ≤ 7 := by have := of_decide_eq_false h; omega
      have hT : topV a.f0 a.f1 a.f2 a.f3 a.f4.length = if 6 ≤ a.f1 then ((a.f3.length : Int) == 0) && ((a.f4.length : Int) == a.f2)
          else if ¬ a.f4.length = 0 ∨ ¬ (a.f3.length : Int) = bytesOf a.f1 a.f2 then false else decide (rL a.f1 a.f2 a.f3 a.f3.length = a.f3) := by
        unfold topV; rw [if_neg k0, if_neg k1, if_pos k2, if_neg (by omega)]
      rw [hT]
      by_cases a5 : 6 ≤ a.f1
      · rw [if_pos a5]
        refine Ev.step (f := fun _ => some (((a.f3.length : Int) == 0) && ((a.f4.length : Int) == a.f2))) (fun k => ?_) (Ev.now _)
        simp only [capnpref10_Valid.j1]
        rw [if_neg (by simp), if_pos (by omega)]
        by_cases a6 : (a.f3.length : Int) = 0
        · rw [if_pos a6, a6]; rfl
        · rw [if_neg a6]
          have : ((a.f3.length : Int) == 0) = false := by simpa using a6
          rw [this]; rfl
      · rw [if_neg a5]
        have no2 : (¬ a.f4.length = 0 ∨ ¬ (a.f3.length : Int) = bytesOf a.f1 a.f2) → Ev (fun k => capnpref10_Valid.j2 k true a.f0 a.f1 a.f2 a.f3 a.f4) (if ¬ a.f4.length = 0 ∨ ¬ (a.f3.length : Int) = bytesOf a.f1 a.f2 then false else decide (rL a.f1 a.f2 a.f3 a.f3.length = a.f3)) := fun h => by
          rw [if_pos h]
          refine Ev.step (fun k => ?_) (Ev.now _)
          simp only [capnpref10_Valid.j2]
          rw [if_pos trivial]
        by_cases a6 : a.f4.length = 0
        · refine Ev.step (f := fun k => capnpref10_Valid.j2 k ((a.f3.length : Int) != bytesOf a.f1 a.f2) a.f0 a.f1 a.f2 a.f3 a.f4) (fun k => ?_) ?_
          · simp only [capnpref10_Valid.j1]
            rw [if_neg (by simp), if_neg (by omega), if_pos (by omega), bytes_f _ _ (by omega) (by omega)]
            rfl
          · by_cases a7 : (a.f3.length : Int) = bytesOf a.f1 a.f2
            · have e7 : ((a.f3.length : Int) != bytesOf a.f1 a.f2) = false := by rw [a7]; simp
              rw [e7, if_neg (by rintro (h | h); exact h a6; exact h a7)]
              refine Ev.step (f := fun k => (capnpref06_Trim.f k a.f1 a.f2 a.f3).bind fun t => (capnpref01_Same.f k t a.f3).bind fun u => some u) (fun k => ?_) ?_
              · simp only [capnpref10_Valid.j2]
                rw [if_neg (by simp)]
              · refine Ev.bind (trim_ev a.f1 a.f2 (by omega) (by omega) a.f3 hx a.f3.length a7 (Nat.le_refl _)) ?_
                exact Ev.bind (same_ev _ _ (by rw [rL_length]; omega)) (Ev.now _)
            · have e7 : ((a.f3.length : Int) != bytesOf a.f1 a.f2) = true := by simpa using a7
              rw [e7]
              exact no2 (.inr a7)
        · refine Ev.step (f := fun k => capnpref10_Valid.j2 k true a.f0 a.f1 a.f2 a.f3 a.f4) (fun k => ?_) (no2 (.inl a6))
          simp only [capnpref10_Valid.j1]
          rw [if_neg (by simp), if_neg (by omega), if_neg (by omega)]
    · refine Ev.step (f := fun _ => some (topV a.f0 a.f1 a.f2 a.f3 a.f4.length)) (fun k => ?_) (Ev.now _)
      simp only [capnpref10_Valid.l0]
      rw [if_neg (by omega), if_neg k0, if_neg k1, if_neg k2]
      unfold topV
      rw [if_neg k0, if_neg k1, if_neg k2]
  have loop : ∀ d j : Nat, a.f4.length - j = d → j ≤ a.f4.length → tvalids C (a.f4.take j) = true → Ev (fun k => capnpref10_Valid.l0 k (j : Int) a.f0 a.f1 a.f2 a.f3 a.f4) (tvalid a) := by
    intro d
    induction d with
    | zero =>
      intro j hd hj ht
      obtain rfl : j = a.f4.length := by omega
      rw [List.take_length] at ht
      rw [HV, ht, Bool.true_and]
      exact top
    | succ d ihd =>
      intro j hd hj ht
      have hlt : j < a.f4.length := by omega
      have hmem : a.f4[j] ∈ a.f4 := List.getElem_mem hlt
      have hk := tsize_kid hmem
      have ha := ih _ hmem (AllT.kids hok _ hmem) (by omega)
      have hst := tvalids_take C a.f4 j hlt
      have hbad := tvalids_bad C a.f4 j hlt
      have e2 : wrap64 ((j : Int) + 1) = ((j + 1 : Nat) : Int) := by rw [w64 (by omega) (by omega)]; omega
      refine Ev.step (f := fun k => (capnpref10_Valid.f k a.f4[j].f0 a.f4[j].f1 a.f4[j].f2 a.f4[j].f3 a.f4[j].f4).bind fun t => if t = true then (if a.f0 = 2 then (if a.f1 = 7 then (if a.f4[j].f0 = 1 then capnpref10_Valid.l0 k (wrap64 ((j : Int) + 1)) a.f0 a.f1 a.f2 a.f3 a.f4 else some false) else capnpref10_Valid.l0 k (wrap64 ((j : Int) + 1)) a.f0 a.f1 a.f2 a.f3 a.f4) else capnpref10_Valid.l0 k (wrap64 ((j : Int) + 1)) a.f0 a.f1 a.f2 a.f3 a.f4) else some false) (fun k => ?_) ?_
      · simp only [capnpref10_Valid.l0]
        rw [if_pos (by omega), if_pos (by omega), rdT_at _ _ hlt]
      refine Ev.bind ha ?_
      cases hv : tvalid a.f4[j] with
      | false =>
        rw [HV, hbad (by rw [hv]; rfl), Bool.false_and]
        exact Ev.now _
      | true =>
        have cont : (!(C && a.f4[j].f0 != 1)) = true → Ev (fun k => capnpref10_Valid.l0 k (wrap64 ((j : Int) + 1)) a.f0 a.f1 a.f2 a.f3 a.f4) (tvalid a) := fun hc => by
          rw [e2]
          exact ihd (j + 1) (by omega) (by omega) (by rw [hst, ht, hv, hc]; rfl)
        by_cases b0 : a.f0 = 2
        · by_cases b1 : a.f1 = 7
          · have hCt : C = true := by rw [← hC, b0, b1]; rfl
            by_cases b2 : a.f4[j].f0 = 1
            · exact Ev.congr (fun k => by rw [if_pos rfl, if_pos b0, if_pos b1, if_pos b2]) (cont (by rw [b2]; simp))
            · have hf : tvalid a = false := by
                rw [HV, hbad (by rw [hv, hCt]; simpa using b2), Bool.false_and]
              rw [hf]
              exact Ev.congr (fun k => by rw [if_pos rfl, if_pos b0, if_pos b1, if_neg b2]) (Ev.now _)
          · have hCf : C = false := by rw [← hC, show (a.f1 == 7) = false by simpa using b1, Bool.and_false]
            exact Ev.congr (fun k => by rw [if_pos rfl, if_pos b0, if_neg b1]) (cont (by rw [hCf]; rfl))
        · have hCf : C = false := by rw [← hC, show (a.f0 == 2) = false by simpa using b0, Bool.false_and]
          exact Ev.congr (fun k => by rw [if_pos rfl, if_neg b0]) (cont (by rw [hCf]; rfl))
  refine Ev.step (f := fun k => capnpref10_Valid.l0 k 0 a.f0 a.f1 a.f2 a.f3 a.f4) (fun k => by simp only [capnpref10_Valid.f]) ?_
  exact loop a.f4.length 0 (by omega) (by omega) (by simp [tvalids])
end Go.Proofs.YtmbockhcmhghlaaDoor.Pr
end
section
namespace Go.Proofs.YtmbockhcmhghlaaDoor.Pr
open Go.RowKit Go.Proofs.YtmbockhcmhghlaaDoorW.PrintWords Go.Proofs.YtmbockhcmhghlaaDoorW.PrintLast Go.Proofs.YtmbockhcmhghlaaDoorW.PrintMore
set_option linter.unusedVariables false
set_option linter.unusedSimpArgs false
def structV (x : S25) : Bool := (x.f1 == 0) && ((x.f2 == 0) && (((x.f3.length : Int) % 8 == 0) && (decide ((x.f3.length : Int) ≤ 524280) && (decide ((x.f4.length : Int) ≤ 65535) && x.f4.all tvalid))))
set_option maxHeartbeats 1000000 in
theorem structure_any (x : S25) (hN : ∀ y ∈ x.f4, NodeC 10 (tvalid y) y) : NodeC 21 (structV x) x := by
  intro A3 c3 A4 c4 W h3 l3 h4 l4 ht
  have H4 := Lib.hid h4; have HT := Lib.hid ht; have HN := Lib.hid hN
  have hm3 : x.f3.length ≤ 9223372036854775807 := h3.2.1
  have hm4 : x.f4.length ≤ 9223372036854775807 := h4.2.1
  clear h3 h4 ht hN
  have HD : Hid (structV x = ((x.f1 == 0) && ((x.f2 == 0) && (((x.f3.length : Int) % 8 == 0) && (decide ((x.f3.length : Int) ≤ 524280) && (decide ((x.f4.length : Int) ≤ 65535) && x.f4.all tvalid)))))) := rfl
  cases b1 : (x.f1 == 0) with
  | false =>
    go_enter Tryd.func21, Tryd.ntmps21
    go_wp2
    go_ret
    exact ⟨by rw [HD.out, b1]; rfl, (Below.refl _ _).alloc (Nat.le_refl _) _⟩
  | true =>
  cases b2 : (x.f2 == 0) with
  | false =>
    go_enter Tryd.func21, Tryd.ntmps21
    go_wp2
    go_ret
    exact ⟨by rw [HD.out, b1, b2]; rfl, (Below.refl _ _).alloc (Nat.le_refl _) _⟩
  | true =>
  cases b3 : ((x.f3.length : Int) % 8 == 0) with
  | false =>
    go_enter Tryd.func21, Tryd.ntmps21
    go_wp2
    go_ret
    exact ⟨by rw [HD.out, b1, b2, b3]; rfl, (Below.refl _ _).alloc (Nat.le_refl _) _⟩
  | true =>
  by_cases p4 : x.f3.length ≤ 524280
  · have b4 : decide ((x.f3.length : Int) ≤ 524280) = true := by simp; omega
    by_cases p5 : x.f4.length ≤ 65535
    · have b5 : decide ((x.f4.length : Int) ≤ 65535) = true := by simp; omega
      have HDD := Lib.hid (show structV x = x.f4.all tvalid by rw [HD.out, b1, b2, b3, b4, b5]; rfl)
      clear HD
      go_enter Tryd.func21, Tryd.ntmps21
      go_wp2_with fail
      refine calls_at (fun W1 hW => ?_)
      have hb : Below W.heap.size W W1 := by rw [hW]; exact (Below.refl _ _).alloc (Nat.le_refl _) _
      clear hW
      refine (all10 tvalid A4 c4 x.f4 W1 HN.out (Kd.C_below H4.out hb) (HT.out.below hb)).mono ?_
      rintro e w1 ⟨rfl, hb1⟩
      go_wp2
      go_ret
      exact ⟨by rw [HDD.out]; rfl, hb.trans (hb1.mono hb.size)⟩
    · have b5 : decide ((x.f4.length : Int) ≤ 65535) = false := by simp; omega
      have HDD := Lib.hid (show structV x = false by rw [HD.out, b1, b2, b3, b4, b5]; rfl)
      clear HD
      go_enter Tryd.func21, Tryd.ntmps21
      go_wp2
      go_ret
      exact ⟨by rw [HDD.out]; rfl, (Below.refl _ _).alloc (Nat.le_refl _) _⟩
  · have b4 : decide ((x.f3.length : Int) ≤ 524280) = false := by simp; omega
    have HDD := Lib.hid (show structV x = false by rw [HD.out, b1, b2, b3, b4]; rfl)
    clear HD
    go_enter Tryd.func21, Tryd.ntmps21
    go_wp2
    go_ret
    exact ⟨by rw [HDD.out]; rfl, (Below.refl _ _).alloc (Nat.le_refl _) _⟩
theorem element_any (x : S25) (hS : NodeC 21 (structV x) x) : NodeC 31 ((x.f0 == 1) && structV x) x := by
  intro A3 c3 A4 c4 W h3 l3 h4 l4 ht
  have H3 := Lib.hid h3; have H4 := Lib.hid h4; have HT := Lib.hid ht; have HS := Lib.hid hS
  clear h3 h4 ht hS
  cases b1 : (x.f0 == 1) with
  | false =>
    go_enter Tryd.func31, Tryd.ntmps31
    go_wp2
    go_ret
    exact ⟨rfl, (Below.refl _ _).alloc (Nat.le_refl _) _⟩
  | true =>
    go_enter Tryd.func31, Tryd.ntmps31
    go_wp2_with fail
    refine calls_at (fun W1 hW => ?_)
    have hb : Below W.heap.size W W1 := by rw [hW]; exact (Below.refl _ _).alloc (Nat.le_refl _) _
    clear hW
    refine (HS.out _ _ _ _ W1 (Kd.C_below H3.out hb) l3 (Kd.C_below H4.out hb) l4 (HT.out.below hb)).mono ?_
    rintro e w1 ⟨rfl, hb1⟩
    go_wp2
    go_ret
    exact ⟨rfl, hb.trans (hb1.mono hb.size)⟩
end Go.Proofs.YtmbockhcmhghlaaDoor.Pr
end
section
namespace Go.Proofs.YtmbockhcmhghlaaDoor.Pr
open Go.RowKit Go.Proofs.YtmbockhcmhghlaaDoorW.PrintWords Go.Proofs.YtmbockhcmhghlaaDoorW.PrintLast Go.Proofs.YtmbockhcmhghlaaDoorW.PrintMore
set_option linter.unusedVariables false
set_option linter.unusedSimpArgs false
theorem toList_loop (s : ByteArray) : ∀ (d i : Nat) (r : List UInt8), s.size - i = d → ByteArray.toList.loop s i r = r.reverse ++ s.data.toList.drop i := by
  intro d
  induction d with
  | zero =>
    intro i r hd
    unfold ByteArray.toList.loop
    rw [if_neg (by omega), List.drop_eq_nil_of_le (by rw [data_length]; omega), List.append_nil]
  | succ d ih =>
    intro i r hd
    have hi : i < s.size := by omega
    unfold ByteArray.toList.loop
    rw [if_pos hi, ih (i + 1) _ (by omega)]
    have hl : i < s.data.toList.length := by rw [data_length]; exact hi
    rw [List.drop_eq_getElem_cons hl]
    have hg : s.get! i = s.data.toList[i] := by
      show s.data[i]! = _
      rw [getElem!_pos s.data i (by simpa using hl)]
      simp
    rw [hg]
    simp
theorem toList_data (s : ByteArray) : s.toList = s.data.toList := by
  unfold ByteArray.toList
  rw [toList_loop s _ 0 [] rfl]
  simp
theorem byte_inj {x y : Int} (hx : 0 ≤ x ∧ x ≤ 255) (hy : 0 ≤ y ∧ y ≤ 255) (h : UInt8.ofNat x.toNat = UInt8.ofNat y.toNat) : x = y := by
  have h1 := congrArg UInt8.toNat h
  rw [UInt8.toNat_ofNat', UInt8.toNat_ofNat'] at h1
  omega
theorem bytes_map_inj : ∀ {xs ys : List Int}, (∀ x ∈ xs, 0 ≤ x ∧ x ≤ 255) → (∀ y ∈ ys, 0 ≤ y ∧ y ≤ 255) → (xs.map fun n => UInt8.ofNat n.toNat) = (ys.map fun n => UInt8.ofNat n.toNat) → xs = ys
  | [], [], _, _, _ => rfl
  | [], y :: ys, _, _, h => by simp at h
  | x :: xs, [], _, _, h => by simp at h
  | x :: xs, y :: ys, hx, hy, h => by
    simp only [List.map_cons, List.cons.injEq] at h
    rw [byte_inj (hx x List.mem_cons_self) (hy y List.mem_cons_self) h.1, bytes_map_inj (fun a ha => hx a (List.mem_cons_of_mem _ ha)) (fun a ha => hy a (List.mem_cons_of_mem _ ha)) h.2]
theorem same_bytes {xs ys : List Int} (hx : ∀ x ∈ xs, 0 ≤ x ∧ x ≤ 255) (hy : ∀ y ∈ ys, 0 ≤ y ∧ y ≤ 255) : ((strOfNums xs).toList == (strOfNums ys).toList) = decide (xs = ys) := by
  rw [toList_data, toList_data]
  by_cases h : xs = ys
  · rw [decide_eq_true h, h]; simp
  · rw [decide_eq_false h, beq_eq_false_iff_ne]
    intro he
    refine h (bytes_map_inj hx hy ?_)
    simpa [strOfNums] using he
theorem getD_of_lt {xs : List Int} {j : Nat} (h : j < xs.length) : xs[j] = xs.getD j 0 := by simp [List.getD_eq_getElem?_getD, List.getElem?_eq_getElem h]
theorem bytes_same (e c : Int) : Ls.bytesOf e c = bytesOf e c := rfl
theorem rL_eq (e c : Int) (h0 : 0 ≤ e) (h5 : e ≤ 5) (hc0 : 0 ≤ c) (xs : List Int) (m : Nat) (hm : (m : Int) = bytesOf e c) (hmx : m ≤ xs.length) : rL e c xs m = Ls.trimL e c xs := by
  have hk : (Ls.bytesOf e c).toNat = m := by rw [bytes_same]; omega
  unfold Ls.trimL
  rw [hk]
  by_cases h : e = 1 ∧ 0 < c % 8
  · rw [if_pos h]
    obtain ⟨rfl, h8⟩ := h
    have hm' : 8 * (m : Int) < c + 8 := by simp [bytesOf, bitsOf] at hm; omega
    have hm'' : c ≤ 8 * (m : Int) := by simp [bytesOf, bitsOf] at hm; omega
    apply List.ext_getElem
    · simp [rL]; omega
    · intro j h1 h2
      have hj : j < m := by simpa [rL] using h1
      rw [List.getElem_set]
      by_cases hl : m - 1 = j
      · rw [if_pos hl]
        simp only [rL, List.getElem_map, List.getElem_range]
        have hjm : 8 * (j : Int) + 8 = 8 * (m : Int) := by omega
        rw [show rT 1 c xs j = xs.getD j 0 % 2 ^ (c - 8 * j).toNat from if_pos ⟨rfl, by omega⟩, hl, show (c - 8 * (j : Int)).toNat = (c % 8).toNat by omega]
      · rw [if_neg hl]
        simp only [rL, List.getElem_map, List.getElem_range, List.getElem_take]
        rw [show rT 1 c xs j = xs.getD j 0 from if_neg (fun h => by have := h.2; omega), getD_of_lt]
  · rw [if_neg h]
    apply List.ext_getElem
    · simp [rL]; omega
    · intro j h1 h2
      have hj : j < m := by simpa [rL] using h1
      simp only [rL, List.getElem_map, List.getElem_range, List.getElem_take]
      rw [getD_of_lt (show j < xs.length by omega)]
      by_cases he : e = 1
      · subst he
        have : ¬ 0 < c % 8 := fun h8 => h ⟨rfl, h8⟩
        have hm' : 8 * (m : Int) = c := by simp [bytesOf, bitsOf] at hm; omega
        exact if_neg (fun h => by have := h.2; omega)
      · exact if_neg (fun h => he h.1)
theorem rL_range {e c : Int} {xs : List Int} (hx : ∀ x ∈ xs, 0 ≤ x ∧ x ≤ 255) {m : Nat} (hm : m ≤ xs.length) : ∀ y ∈ rL e c xs m, 0 ≤ y ∧ y ≤ 255 := by
  intro y hy
  obtain ⟨j, hj, rfl⟩ := List.mem_map.1 hy
  have hj' : j < xs.length := by have := List.mem_range.1 hj; omega
  have h1 := hx _ (List.getElem_mem hj')
  unfold rT
  rw [← getD_of_lt hj']
  split
  · have hp : (0 : Int) < 2 ^ (c - 8 * (j : Int)).toNat := Int.pow_pos (by omega)
    have h2 := Int.emod_nonneg xs[j] (Int.ne_of_gt hp)
    have h3 : xs[j] % 2 ^ (c - 8 * (j : Int)).toNat ≤ xs[j] := by
      rw [Int.emod_def]
      have := Int.mul_nonneg (Int.le_of_lt hp) (Int.ediv_nonneg h1.1 (Int.le_of_lt hp))
      omega
    omega
  · exact h1
theorem Rd_of_C {w : World} {A : Option Addr} {xs : List Int} (h : (Kd.int .u8).C w A xs.length xs) (hx : ∀ x ∈ xs, 0 ≤ x ∧ x ≤ 255) : Ls.Rd w A xs.length xs := by
  refine ⟨rfl, ?_, fun j => ?_⟩
  · by_cases h0 : xs.length = 0
    · exact .inl h0
    · right
      obtain ⟨ad, rfl, hc⟩ := Kd.at_int h 0 (by omega) (by omega)
      have hcell : ∀ j, j < xs.length → w.cell? (ad.add j) = some (.int .u8 (xs.getD j 0)) := fun j hj => by
        obtain ⟨ad', e, hc'⟩ := Kd.at_int h (j : Int) (by omega) (by omega)
        obtain rfl := Option.some.inj e
        simpa [rd] using hc'
      obtain ⟨b, off, e, hc2⟩ := Go.ints_at hcell (by omega)
      exact ⟨b, off, by rw [e], World.block_lt_of_cell? w _ (hc2 0 (by omega)), hc2⟩
  · by_cases hj : j < xs.length
    · have := hx _ (List.getElem_mem hj)
      rwa [getD_of_lt hj] at this
    · rw [List.getD_eq_getElem?_getD, List.getElem?_eq_none (by omega)]
      simp
end Go.Proofs.YtmbockhcmhghlaaDoor.Pr
end
section
namespace Go.Proofs.YtmbockhcmhghlaaDoor.Pr
open Go.RowKit Go.Proofs.YtmbockhcmhghlaaDoorW.PrintWords Go.Proofs.YtmbockhcmhghlaaDoorW.PrintLast Go.Proofs.YtmbockhcmhghlaaDoorW.PrintMore
set_option linter.unusedVariables false
set_option linter.unusedSimpArgs false
def NodeE (b : Bool) (x y : S25) : Prop := ∀ (A3 : Option Addr) (c3 : Nat) (A4 : Option Addr) (c4 : Nat) (B3 : Option Addr) (d3 : Nat) (B4 : Option Addr) (d4 : Nat) (W : World), Kd.C (Kd.int .u8) W A3 x.f3.length x.f3 → x.f3.length ≤ c3 → Kd.C k25 W A4 x.f4.length x.f4 → x.f4.length ≤ c4 →
  Kd.C (Kd.int .u8) W B3 y.f3.length y.f3 → y.f3.length ≤ d3 → Kd.C k25 W B4 y.f4.length y.f4 → y.f4.length ≤ d4 →
  Calls Tryd.prog 12 #[.agg #[.int .i64 x.f0, .int .i64 x.f1, .int .i64 x.f2, .slice A3 x.f3.length c3, .slice A4 x.f4.length c4], .agg #[.int .i64 y.f0, .int .i64 y.f1, .int .i64 y.f2, .slice B3 y.f3.length d3, .slice B4 y.f4.length d4]] W fun e w' => e = .returned (.bool b) ∧ Below W.heap.size W w'
noncomputable def eqL (l m : List S25) : Bool := @decide (l = m) (Classical.propDecidable _)
theorem eqL_true {l m : List S25} (h : l = m) : eqL l m = true := by unfold eqL; simp [h]
theorem eqL_false {l m : List S25} (h : ¬ l = m) : eqL l m = false := by unfold eqL; simp [h]
set_option maxHeartbeats 2000000 in
theorem equalFunc (l m : List S25) (A : Option Addr) (c : Nat) (B : Option Addr) (d : Nat) (W : World) (hN : ∀ x ∈ l, ∀ y ∈ m, NodeE (eqT x y) x y) (hr : Kd.C k25 W A l.length l) (hq : Kd.C k25 W B m.length m) :
    Calls Tryd.prog 27 #[.slice A l.length c, .slice B m.length d, .func (.func 12) #[] #[]] W fun e w' => e = .returned (.bool (eqL l m)) ∧ Below W.heap.size W w' := by
  have HR := Lib.hid hr; have HQ := Lib.hid hq; have HN := Lib.hid hN
  have hl : l.length ≤ 9223372036854775807 := hr.2.1
  have hm : m.length ≤ 9223372036854775807 := hq.2.1
  clear hr hq hN
  by_cases hlm : l.length = m.length
  · have hneq : ((l.length : Int) != (m.length : Int)) = false := by rw [hlm]; simp
    have HLM := Lib.hid hlm
    clear hlm
    go_enter Tryd.func27, Tryd.ntmps27
    go_wp2_with fail
    clear hneq
    go_loopw [17] (fun i wr => ∃ j : Nat, j ≤ l.length ∧ i = .int .i64 j ∧ Hid (l.take j = m.take j) ∧ Hid (Below W.heap.size W wr)) (fun i _ => l.length - (intOf i).toNat)
    case atStart => exact ⟨0, Nat.zero_le _, rfl, Lib.hid (by simp), Lib.hid (Below.refl _ _)⟩
    case round =>
      obtain ⟨j, hj, rfl, htk, hB⟩ := hrel
      by_cases hlt : j < l.length
      · have hlt2 : j < m.length := by have := HLM.out; omega
        obtain ⟨ad, A3, c3, A4, c4, e, h0, h1, h2, h3, h4, l3, g3, l4, g4⟩ := at_T25 (Kd.C_below HR.out hB.out) (j : Int) (by omega) (by omega)
        subst e
        obtain ⟨bd, B3, d3, B4, d4, e, i0, i1, i2, i3, i4, k3, f3, k4, f4⟩ := at_T25 (Kd.C_below HQ.out hB.out) (j : Int) (by omega) (by omega)
        subst e
        rw [rdT_at l j hlt] at h0 h1 h2 h3 h4 l3 g3 l4 g4
        rw [rdT_at m j hlt2] at i0 i1 i2 i3 i4 k3 f3 k4 f4
        simp only [Int.toNat_natCast] at h0 h1 h2 h3 h4 i0 i1 i2 i3 i4
        have hxy := HN.out _ (List.getElem_mem hlt) _ (List.getElem_mem hlt2)
        obtain ⟨x, ex⟩ : ∃ x, Hid (l[j] = x) := ⟨l[j], Lib.hid rfl⟩
        obtain ⟨y, ey⟩ : ∃ y, Hid (m[j] = y) := ⟨m[j], Lib.hid rfl⟩
        rw [ex.out] at h0 h1 h2 h3 h4 l3 g3 l4 g4
        rw [ey.out] at i0 i1 i2 i3 i4 k3 f3 k4 f4
        rw [ex.out, ey.out] at hxy
        have lb : (bd.add (j * 5)).block < wr.heap.size := World.block_lt_of_cell? _ _ i0
        have G3 := Lib.hid g3; have G4 := Lib.hid g4; have F3 := Lib.hid f3; have F4 := Lib.hid f4; have HX := Lib.hid hxy
        clear g3 g4 f3 f4 hxy
        go_wp2_with fail
        refine calls_at (fun W1 hW => ?_)
        have hb : Below wr.heap.size wr W1 := by rw [hW]; exact ((Below.refl _ _).alloc (Nat.le_refl _) _).alloc (by simp) _
        clear hW
        refine (HX.out _ _ _ _ _ _ _ _ W1 (Kd.C_below G3.out hb) l3 (Kd.C_below G4.out hb) l4 (Kd.C_below F3.out hb) k3 (Kd.C_below F4.out hb) k4).mono ?_
        rintro e w1 ⟨rfl, hb1⟩
        have hB1 := Lib.hid (hB.out.trans ((hb.trans (hb1.mono hb.size)).mono hB.out.size))
        have hx1 : Hid (eqT x y = true → l.take (j + 1) = m.take (j + 1)) := fun h => take_next hlt hlt2 htk.out (by rw [ex.out, ey.out]; exact eqT_iff.1 h)
        have hx2 : Hid (eqT x y = false → eqL l m = false) := fun h => eqL_false fun e => by
          subst e
          have : x = y := by rw [← ex.out, ← ey.out]
          rw [eqT_true this] at h
          cases h
        obtain ⟨b, hbb⟩ : ∃ b, Hid (eqT x y = b) := ⟨_, rfl⟩
        rw [hbb.out] at hx1 hx2 ⊢
        cases b with
        | true =>
          go_wp2
          go_roundw
          case rel => exact ⟨j + 1, by omega, by go_num, Lib.hid (hx1.out (by first | trivial | rfl)), hB1⟩
          case measure => simp [intOf]; omega
        | false =>
          go_wp2
          go_ret
          exact ⟨by rw [hx2.out (by first | trivial | rfl)]; rfl, hB1.out⟩
      · have ht : l = m := by
          have := htk.out
          have hh := HLM.out
          rwa [List.take_of_length_le (by omega), List.take_of_length_le (by omega)] at this
        have HTK := Lib.hid ht
        clear ht
        go_wp2
        go_ret
        exact ⟨by rw [eqL_true HTK.out]; rfl, hB.out⟩
  · have hneq : ((l.length : Int) != (m.length : Int)) = true := by rw [bne_iff_ne]; omega
    have HF := Lib.hid (eqL_false (fun h : l = m => hlm (by rw [h])))
    clear hlm
    go_enter Tryd.func27, Tryd.ntmps27
    go_wp2
    go_ret
    exact ⟨by rw [HF.out]; rfl, Below.refl _ _⟩
set_option maxHeartbeats 2000000 in
theorem equal_step (x y : S25) (hx : ∀ b ∈ x.f3, 0 ≤ b ∧ b ≤ 255) (hy : ∀ b ∈ y.f3, 0 ≤ b ∧ b ≤ 255) (hN : ∀ a ∈ x.f4, ∀ b ∈ y.f4, NodeE (eqT a b) a b) : NodeE (eqT x y) x y := by
  intro A3 c3 A4 c4 B3 d3 B4 d4 W h3 l3 h4 l4 k3 m3 k4 m4
  have H3 := Lib.hid h3; have H4 := Lib.hid h4; have K3 := Lib.hid k3; have K4 := Lib.hid k4; have HN := Lib.hid hN; have HX := Lib.hid hx; have HY := Lib.hid hy
  clear h3 h4 k3 k4 hN hx hy
  by_cases q0 : x.f0 = y.f0
  · have g0 : (x.f0 == y.f0) = true := beq_iff_eq.2 q0
    have Q0 := Lib.hid q0; clear q0
    by_cases q1 : x.f1 = y.f1
    · have g1 : (x.f1 == y.f1) = true := beq_iff_eq.2 q1
      have Q1 := Lib.hid q1; clear q1
      by_cases q2 : x.f2 = y.f2
      · have g2 : (x.f2 == y.f2) = true := beq_iff_eq.2 q2
        have Q2 := Lib.hid q2; clear q2
        go_enter Tryd.func12, Tryd.ntmps12
        go_wp2_with fail
        refine calls_at (fun W1 hW => ?_)
        have hb : Below W.heap.size W W1 := by rw [hW]; exact ((Below.refl _ _).alloc (Nat.le_refl _) _).alloc (by simp) _
        have hB1 : W1.heap[W.heap.size]? = some (.cells #[.int .i64 x.f0, .int .i64 x.f1, .int .i64 x.f2, .slice A3 x.f3.length c3, .slice A4 x.f4.length c4] 25 (0, 0)) := by rw [hW]; exact blk_alloc (heap_alloc_new _ _) _
        have hB2 : W1.heap[W.heap.size + 1]? = some (.cells #[.int .i64 y.f0, .int .i64 y.f1, .int .i64 y.f2, .slice B3 y.f3.length d3, .slice B4 y.f4.length d4] 25 (0, 0)) := by rw [hW]; exact blk_new _ _ _ (by simp)
        clear hW
        refine (bytes_Equal.calls A3 c3 x.f3 B3 d3 y.f3 (decide (x.f3 = y.f3)) W1 (Kd.C_below H3.out hb) l3 (Kd.C_below K3.out hb) m3 (by unfold bytes_Equal.f; rw [same_bytes HX.out HY.out])).mono ?_
        rintro e w1 ⟨rfl, hd⟩
        have hb1 := hd.below
        have hb2 := hb.trans (hb1.mono hb.size)
        have c1 := blk_below hB1 hb1
        have c2 := blk_below hB2 hb1
        have u4 : w1.cell? ⟨W.heap.size, 4, none⟩ = some (.slice A4 x.f4.length c4) := (blk_cell c1 4).trans rfl
        have v4 : w1.cell? ⟨W.heap.size + 1, 4, none⟩ = some (.slice B4 y.f4.length d4) := (blk_cell c2 4).trans rfl
        have lu := blk_lt c1; have lv := blk_lt c2
        clear hd hB1 hB2 c1 c2
        by_cases q3 : x.f3 = y.f3
        · have Q3 := Lib.hid q3
          rw [decide_eq_true q3]
          clear q3
          have HB1 := Lib.hid hb1; have HB2 := Lib.hid hb2; clear hb1 hb2
          go_wp2_with fail
          refine (equalFunc x.f4 y.f4 A4 c4 B4 d4 w1 HN.out (Kd.C_below H4.out HB2.out) (Kd.C_below K4.out HB2.out)).mono ?_
          rintro e w2 ⟨rfl, hb3⟩
          have he : eqL x.f4 y.f4 = eqT x y := by
            by_cases q4 : x.f4 = y.f4
            · rw [eqL_true q4, eqT_true (S25.same Q0.out Q1.out Q2.out Q3.out q4)]
            · rw [eqL_false q4, eqT_false (fun h => q4 (by rw [h]))]
          have HE := Lib.hid he
          clear he
          go_wp2
          go_ret
          exact ⟨by rw [← HE.out]; rfl, HB2.out.trans (hb3.mono HB2.out.size)⟩
        · have HF := Lib.hid (eqT_false (fun h : x = y => q3 (by rw [h])))
          rw [decide_eq_false q3]
          clear q3
          go_wp2
          go_ret
          exact ⟨by rw [HF.out]; rfl, hb2⟩
      · have g2 : (x.f2 == y.f2) = false := beq_eq_false_iff_ne.2 q2
        have HF := Lib.hid (eqT_false (fun h : x = y => q2 (by rw [h])))
        clear q2
        go_enter Tryd.func12, Tryd.ntmps12
        go_wp2
        go_ret
        exact ⟨by rw [HF.out]; rfl, ((Below.refl _ _).alloc (Nat.le_refl _) _).alloc (by simp) _⟩
    · have g1 : (x.f1 == y.f1) = false := beq_eq_false_iff_ne.2 q1
      have HF := Lib.hid (eqT_false (fun h : x = y => q1 (by rw [h])))
      clear q1
      go_enter Tryd.func12, Tryd.ntmps12
      go_wp2
      go_ret
      exact ⟨by rw [HF.out]; rfl, ((Below.refl _ _).alloc (Nat.le_refl _) _).alloc (by simp) _⟩
  · have g0 : (x.f0 == y.f0) = false := beq_eq_false_iff_ne.2 q0
    have HF := Lib.hid (eqT_false (fun h : x = y => q0 (by rw [h])))
    clear q0
    go_enter Tryd.func12, Tryd.ntmps12
    go_wp2
    go_ret
    exact ⟨by rw [HF.out]; rfl, ((Below.refl _ _).alloc (Nat.le_refl _) _).alloc (by simp) _⟩
theorem nequal_all (x : S25) : ∀ y : S25, okT x → okT y → NodeE (eqT x y) x y := by
  refine S25.ind (P := fun x => ∀ y : S25, okT x → okT y → NodeE (eqT x y) x y) (fun x ih y hx hy => ?_) x
  exact equal_step x y hx.here hy.here fun a ha b hb => ih a ha b (hx.kids a ha) (hy.kids b hb)
end Go.Proofs.YtmbockhcmhghlaaDoor.Pr
end
section
namespace Go.Proofs.YtmbockhcmhghlaaDoor.Pr
open Go.RowKit Go.Proofs.YtmbockhcmhghlaaDoorW.PrintWords Go.Proofs.YtmbockhcmhghlaaDoorW.PrintLast Go.Proofs.YtmbockhcmhghlaaDoorW.PrintMore
set_option linter.unusedVariables false
set_option linter.unusedSimpArgs false
def tkids : List S25 → List S25
  | [] => []
  | x :: l => x.f4 ++ tkids l
def ttargets (a : S25) : List S25 := if a.f0 = 2 ∧ a.f1 = 7 then tkids a.f4 else a.f4
theorem tkids_append : ∀ l m : List S25, tkids (l ++ m) = tkids l ++ tkids m
  | [], m => rfl
  | x :: l, m => by simp [tkids, tkids_append l m]
theorem tkids_take (l : List S25) (j : Nat) (h : j < l.length) : tkids (l.take (j + 1)) = tkids (l.take j) ++ l[j].f4 := by
  rw [take_one l j h, tkids_append]; simp [tkids]
theorem tkids_sizes : ∀ l : List S25, tsizes (tkids l) ≤ tsizes l
  | [] => by simp [tkids]
  | x :: l => by
    have := tkids_sizes l
    have := tsize_eq x
    simp only [tkids, tsizes, tsizes_append]; omega
theorem ttargets_sizes (a : S25) : tsizes (ttargets a) ≤ tsizes a.f4 := by
  unfold ttargets
  split
  · exact tkids_sizes _
  · exact Nat.le_refl _
theorem ttargets_size {a x : S25} (h : x ∈ ttargets a) : tsize x < tsize a := by
  have h1 := tsize_mem h
  have h2 := ttargets_sizes a
  have h3 := tsize_eq a
  omega
theorem mem_tkids {l : List S25} {x : S25} : x ∈ tkids l ↔ ∃ y ∈ l, x ∈ y.f4 := by
  induction l with
  | nil => simp [tkids]
  | cons y l ih => simp [tkids, ih]
mutual
def tdepth : S25 → Nat
  | ⟨k, e, _, _, l⟩ => if k = 0 then 0 else 1 + (if k = 2 ∧ e = 7 then tdeep2 l else tdeeps l)
def tdeeps : List S25 → Nat
  | [] => 0
  | x :: l => max (tdepth x) (tdeeps l)
def tdeep2 : List S25 → Nat
  | [] => 0
  | ⟨_, _, _, _, m⟩ :: l => max (tdeeps m) (tdeep2 l)
end
mutual
def tobjs : S25 → Nat
  | ⟨k, e, _, _, l⟩ => if k = 0 then 0 else 1 + (if k = 2 ∧ e = 7 then tobj2 l else tobjss l)
def tobjss : List S25 → Nat
  | [] => 0
  | x :: l => tobjs x + tobjss l
def tobj2 : List S25 → Nat
  | [] => 0
  | ⟨_, _, _, _, m⟩ :: l => tobjss m + tobj2 l
end
theorem tdeeps_append : ∀ l m : List S25, tdeeps (l ++ m) = max (tdeeps l) (tdeeps m)
  | [], m => by simp [tdeeps]
  | x :: l, m => by simp [tdeeps, tdeeps_append l m, Nat.max_assoc]
theorem tobjss_append : ∀ l m : List S25, tobjss (l ++ m) = tobjss l + tobjss m
  | [], m => by simp [tobjss]
  | x :: l, m => by simp [tobjss, tobjss_append l m, Nat.add_assoc]
theorem tdeep2_eq : ∀ l : List S25, tdeep2 l = tdeeps (tkids l)
  | [] => by simp [tdeep2, tdeeps, tkids]
  | ⟨_, _, _, _, m⟩ :: l => by simp [tdeep2, tkids, tdeeps_append, tdeep2_eq l]
theorem tobj2_eq : ∀ l : List S25, tobj2 l = tobjss (tkids l)
  | [] => by simp [tobj2, tobjss, tkids]
  | ⟨_, _, _, _, m⟩ :: l => by simp [tobj2, tkids, tobjss_append, tobj2_eq l]
theorem tdepth_eq (a : S25) : tdepth a = if a.f0 = 0 then 0 else 1 + tdeeps (ttargets a) := by
  cases a with
  | mk k e n d l =>
    simp only [tdepth, ttargets]
    split
    · rfl
    · split
      · rw [tdeep2_eq]
      · rfl
theorem tobjs_eq (a : S25) : tobjs a = if a.f0 = 0 then 0 else 1 + tobjss (ttargets a) := by
  cases a with
  | mk k e n d l =>
    simp only [tobjs, ttargets]
    split
    · rfl
    · split
      · rw [tobj2_eq]
      · rfl
theorem tobjss_bound {l : List S25} (h : ∀ x ∈ l, tobjs x ≤ tsize x) : tobjss l ≤ tsizes l := by
  induction l with
  | nil => simp [tobjss]
  | cons k l ih =>
    simp only [tobjss, tsizes]
    have := h k List.mem_cons_self
    have := ih (fun x hx => h x (List.mem_cons_of_mem _ hx))
    omega
theorem tobjs_le : ∀ (n : Nat) (a : S25), tsize a ≤ n → tobjs a ≤ tsize a
  | 0, a, h => by have := tsize_eq a; omega
  | n + 1, a, h => by
    rw [tobjs_eq]
    split
    · omega
    · have h1 : tobjss (ttargets a) ≤ tsizes (ttargets a) := tobjss_bound fun x hx => tobjs_le n x (by have := ttargets_size hx; omega)
      have h2 := ttargets_sizes a
      have h3 := tsize_eq a
      omega
theorem tdepth_le_objs : ∀ (n : Nat) (a : S25), tsize a ≤ n → tdepth a ≤ tobjs a
  | 0, a, h => by have := tsize_eq a; omega
  | n + 1, a, h => by
    rw [tdepth_eq, tobjs_eq]
    split
    · omega
    · have : ∀ l : List S25, (∀ x ∈ l, tdepth x ≤ tobjs x) → tdeeps l ≤ tobjss l := fun l => by
        induction l with
        | nil => intro _; simp [tdeeps]
        | cons k l ih =>
          intro hl
          simp only [tdeeps, tobjss]
          have := hl k List.mem_cons_self
          have := ih (fun x hx => hl x (List.mem_cons_of_mem _ hx))
          omega
      have := this (ttargets a) fun x hx => tdepth_le_objs n x (by have := ttargets_size hx; omega)
      omega
theorem tobjs_size (a : S25) : tobjs a ≤ tsize a := tobjs_le _ a (Nat.le_refl _)
theorem tdepth_objs (a : S25) : tdepth a ≤ tobjs a := tdepth_le_objs _ a (Nat.le_refl _)
end Go.Proofs.YtmbockhcmhghlaaDoor.Pr
end
section
namespace Go.Proofs.YtmbockhcmhghlaaDoor.Pr
open Go.RowKit Go.Shelf Go.Proofs.YtmbockhcmhghlaaDoorW.PrintWords Go.Proofs.YtmbockhcmhghlaaDoorW.PrintLast Go.Proofs.YtmbockhcmhghlaaDoorW.PrintMore
set_option linter.unusedVariables false
set_option linter.unusedSimpArgs false
attribute [local go_sem] Oper.semAt_some
structure El where
  x : S25
  A3 : Option Addr
  c3 : Nat
  A4 : Option Addr
  c4 : Nat
def El.ok (W : World) (e : El) : Prop := Kd.C (Kd.int .u8) W e.A3 e.x.f3.length e.x.f3 ∧ e.x.f3.length ≤ e.c3 ∧ Kd.C k25 W e.A4 e.x.f4.length e.x.f4 ∧ e.x.f4.length ≤ e.c4
abbrev Els (w : World) (T : List S25) := {e : El // e.ok w ∧ e.x ∈ T}
abbrev El.enc (e : El) : Value := .agg #[.int .i64 e.x.f0, .int .i64 e.x.f1, .int .i64 e.x.f2, .slice e.A3 e.x.f3.length e.c3, .slice e.A4 e.x.f4.length e.c4]
def KpN (n₀ Bn : Nat) (W W' : World) : Prop := Below n₀ W W' ∧ W'.heap[Bn]? = W.heap[Bn]?
theorem el_at {l : List S25} {W : World} {A : Option Addr} {n : Nat} (h : Kd.C k25 W A n l) (hn : n = l.length) (j : Nat) (hj : j < l.length) : ∃ ad y B3 d3 B4 d4, A = some ad ∧ l[j] = y ∧ El.ok W ⟨y, B3, d3, B4, d4⟩ ∧
    W.cell? (ad.add (j * 5)) = some (.int .i64 y.f0) ∧ W.cell? ⟨(ad.add (j * 5)).block, (ad.add (j * 5)).off + 1, none⟩ = some (.int .i64 y.f1) ∧ W.cell? ⟨(ad.add (j * 5)).block, (ad.add (j * 5)).off + 2, none⟩ = some (.int .i64 y.f2) ∧
    W.cell? ⟨(ad.add (j * 5)).block, (ad.add (j * 5)).off + 3, none⟩ = some (.slice B3 y.f3.length d3) ∧ W.cell? ⟨(ad.add (j * 5)).block, (ad.add (j * 5)).off + 4, none⟩ = some (.slice B4 y.f4.length d4) := by
  subst hn
  obtain ⟨ad, A3, c3, A4, c4, e, h0, h1, h2, h3, h4, l3, g3, l4, g4⟩ := at_T25 h (j : Int) (by omega) (by omega)
  rw [rdT_at l j hj] at h0 h1 h2 h3 h4 l3 g3 l4 g4
  simp only [Int.toNat_natCast] at h0 h1 h2 h3 h4
  exact ⟨ad, _, A3, c3, A4, c4, e, rfl, ⟨g3, l3, g4, l4⟩, h0, h1, h2, h3, h4⟩
theorem El.ok_below {n : Nat} {W W' : World} {e : El} (h : e.ok W) (hb : Below W.heap.size W W') : e.ok W' := ⟨Kd.C_below h.1 hb, h.2.1, Kd.C_below h.2.2.1 hb, h.2.2.2⟩
set_option maxRecDepth 100000 in
set_option maxHeartbeats 4000000 in
theorem targets1_plain (n : Nat) (hn : 1 ≤ n) (l Bn : Nat) (w : World) (x : S25) (A3 : Option Addr) (c3 : Nat) (A4 : Option Addr) (c4 : Nat) (h7 : (x.f1 != 7) = true) (hC : Kd.C k25 w A4 x.f4.length x.f4)
    (J Jx : List (Els w x.f4) → World → Prop) (W : World) (hJ : AbidesFrom W.heap.size J) (hwW : Below w.heap.size w W)
    (hY : ∀ pre (y : Els w x.f4) W1, J pre W1 → pre.length < x.f4.length → YieldAt Fence.wide (n - 1) Tryd.prog l #[y.1.enc] W1 fun e W' =>
      (e = .returned (.bool true) ∧ J (pre ++ [y]) W' ∧ KpN w.heap.size Bn W1 W') ∨ (e = .returned (.bool false) ∧ Jx (pre ++ [y]) W'))
    (hB : W.heap[Bn]? = some (.cells #[.int .i64 x.f0, .int .i64 x.f1, .int .i64 x.f2, .slice A3 x.f3.length c3, .slice A4 x.f4.length c4] 25 (0, 0))) (h0 : J [] W) :
    CallsIn Fence.wide n Tryd.prog 35 #[.func (.yield l) #[] #[], .pointer (some ⟨Bn, 0, none⟩)] W fun e W' => (∃ v, e = .returned v) ∧
      ((∃ ys : List (Els w x.f4), ys.map (fun y => y.1.x) = x.f4 ∧ J ys W') ∨ (∃ pre : List (Els w x.f4), True ∧ Jx pre W')) := by
  have HC := Lib.hid hC; have HB := Lib.hid hB; have HJ := Lib.hid hJ; have HY := Lib.hid hY; have HW := Lib.hid hwW; have H7 := Lib.hid h7
  have hl : x.f4.length ≤ 9223372036854775807 := hC.2.1
  have b4 : W.cell? ⟨Bn, 4, none⟩ = some (.slice A4 x.f4.length c4) := (blk_cell hB 4).trans rfl
  clear hC hB hJ hY hwW h7
  refine callsIn_of_wp Tryd.func35 rfl trivial ?_ rfl
  simp only [Tryd.ntmps35, List.size_toArray, List.length_cons, List.length_nil, Nat.reduceAdd, Nat.reduceSub, Array.replicate_succ, Array.replicate_zero, List.push_toArray, List.append_toArray, List.nil_append, List.cons_append]
  gi_wp2
  clear b4
  gi_loopw [10] (fun i wr => ∃ (j : Nat) (pre : List (Els w x.f4)), j ≤ x.f4.length ∧ i = .int .i64 j ∧ Hid (pre.map (fun y => y.1.x) = x.f4.take j) ∧ Hid (J pre wr) ∧ Hid (Below w.heap.size w wr) ∧ Hid (W.heap.size ≤ wr.heap.size) ∧ Hid (wr.heap[Bn]? = some (.cells #[.int .i64 x.f0, .int .i64 x.f1, .int .i64 x.f2, .slice A3 x.f3.length c3, .slice A4 x.f4.length c4] 25 (0, 0))))
    (fun i _ => x.f4.length - (intOf i).toNat)
  case atStart => exact ⟨0, [], Nat.zero_le _, rfl, Lib.hid (by simp), Lib.hid h0, HW, Lib.hid (Nat.le_refl _), HB⟩
  case round =>
    obtain ⟨j, pre, hj, rfl, hp, hJs, hW1, hsz, hB1⟩ := hrel
    by_cases hlt : j < x.f4.length
    · obtain ⟨ad, y, B3, d3, B4, d4, e, hy, hok, k0, k1, k2, k3, k4⟩ := el_at HC.out rfl j hlt
      subst e
      have hbd : (ad.add (j * 5)).block < w.heap.size := World.block_lt_of_cell? _ _ k0
      have k0 := (hW1.out.cell hbd).trans k0
      have k1 := (hW1.out.cell (p := ⟨(ad.add (j * 5)).block, (ad.add (j * 5)).off + 1, none⟩) hbd).trans k1
      have k2 := (hW1.out.cell (p := ⟨(ad.add (j * 5)).block, (ad.add (j * 5)).off + 2, none⟩) hbd).trans k2
      have k3 := (hW1.out.cell (p := ⟨(ad.add (j * 5)).block, (ad.add (j * 5)).off + 3, none⟩) hbd).trans k3
      have k4 := (hW1.out.cell (p := ⟨(ad.add (j * 5)).block, (ad.add (j * 5)).off + 4, none⟩) hbd).trans k4
      have hbd2 : (ad.add (j * 5)).block < wr.heap.size := Nat.lt_of_lt_of_le hbd hW1.out.size
      have b1 : wr.cell? ⟨Bn, 1, none⟩ = some (.int .i64 x.f1) := (blk_cell hB1.out 1).trans rfl
      have lb : Bn < wr.heap.size := blk_lt hB1.out
      have h7 := H7.out
      have hlen : pre.length < x.f4.length := by
        have := congrArg List.length hp.out
        rw [List.length_map, List.length_take] at this
        omega
      have hmem : y ∈ x.f4 := hy ▸ List.getElem_mem hlt
      obtain ⟨fn, tmps, assign, body, hyy, hR⟩ := HY.out pre ⟨⟨y, B3, d3, B4, d4⟩, hok, hmem⟩ (wr.alloc (.cells #[.int .i64 y.f0, .int .i64 y.f1, .int .i64 y.f2, .slice B3 y.f3.length d3, .slice B4 y.f4.length d4] 25))
        (HJ.out pre wr _ none hJs.out (World.grownBy_alloc wr _ none) (fun r e => by cases e)) hlen
      dsimp only [El.enc] at hyy
      have HR := Lib.hid hR
      have HYY := Lib.hid hy
      clear hR hy
      gi_wp2
      refine HR.out.mono ?_
      rintro e W3 (⟨rfl, hJ3, hk3, hb3⟩ | ⟨rfl, hJx3⟩)
      · gi_wp2
        go_roundw
        case rel =>
          have hA : Below w.heap.size wr (wr.alloc (.cells #[.int .i64 y.f0, .int .i64 y.f1, .int .i64 y.f2, .slice B3 y.f3.length d3, .slice B4 y.f4.length d4] 25)) := (Below.refl _ _).alloc hW1.out.size _
          refine ⟨j + 1, _, by omega, by go_num, Lib.hid ?_, Lib.hid hJ3, Lib.hid ((hW1.out.trans hA).trans hk3), Lib.hid ?_, Lib.hid ?_⟩
          · rw [List.map_append, hp.out, take_one _ _ hlt, HYY.out]; rfl
          · exact Nat.le_trans hsz.out (Nat.le_trans hA.size hk3.size)
          · rw [hb3]; exact blk_alloc hB1.out _
        case measure => simp [intOf]; omega
      · gi_wp2
        refine bodyPost_ret (results_none rfl _ _ _) rfl ?_
        exact ⟨⟨_, rfl⟩, .inr ⟨_, trivial, hJx3⟩⟩
    · gi_wp2
      go_end0
      refine ⟨⟨_, rfl⟩, .inl ⟨pre, ?_, hJs.out⟩⟩
      rw [hp.out, List.take_of_length_le (by omega)]
theorem tkids_len {l : List S25} {j i : Nat} (hj : j < l.length) (hi : i < l[j].f4.length) : (tkids (l.take j)).length + i < (tkids l).length := by
  have h1 := tkids_take l j hj
  have h2 : tkids l = tkids (l.take (j + 1)) ++ tkids (l.drop (j + 1)) := by rw [← tkids_append, List.take_append_drop]
  rw [h2, h1, List.length_append, List.length_append]
  omega
set_option maxRecDepth 100000 in
set_option maxHeartbeats 4000000 in
theorem targets1_comp (n : Nat) (hn : 1 ≤ n) (l Bn : Nat) (w : World) (x : S25) (A3 : Option Addr) (c3 : Nat) (A4 : Option Addr) (c4 : Nat) (h7 : (x.f1 != 7) = false) (hC : Kd.C k25 w A4 x.f4.length x.f4)
    (J Jx : List (Els w (tkids x.f4)) → World → Prop) (W : World) (hJ : AbidesFrom W.heap.size J) (hwW : Below w.heap.size w W)
    (hY : ∀ pre (y : Els w (tkids x.f4)) W1, J pre W1 → pre.length < (tkids x.f4).length → YieldAt Fence.wide (n - 1) Tryd.prog l #[y.1.enc] W1 fun e W' =>
      (e = .returned (.bool true) ∧ J (pre ++ [y]) W' ∧ KpN w.heap.size Bn W1 W') ∨ (e = .returned (.bool false) ∧ Jx (pre ++ [y]) W'))
    (hB : W.heap[Bn]? = some (.cells #[.int .i64 x.f0, .int .i64 x.f1, .int .i64 x.f2, .slice A3 x.f3.length c3, .slice A4 x.f4.length c4] 25 (0, 0))) (h0 : J [] W) :
    CallsIn Fence.wide n Tryd.prog 35 #[.func (.yield l) #[] #[], .pointer (some ⟨Bn, 0, none⟩)] W fun e W' => (∃ v, e = .returned v) ∧
      ((∃ ys : List (Els w (tkids x.f4)), ys.map (fun y => y.1.x) = tkids x.f4 ∧ J ys W') ∨ (∃ pre : List (Els w (tkids x.f4)), True ∧ Jx pre W')) := by
  have HC := Lib.hid hC; have HB := Lib.hid hB; have HJ := Lib.hid hJ; have HY := Lib.hid hY; have HW := Lib.hid hwW; have H7 := Lib.hid h7
  have hl : x.f4.length ≤ 9223372036854775807 := hC.2.1
  have b4 : W.cell? ⟨Bn, 4, none⟩ = some (.slice A4 x.f4.length c4) := (blk_cell hB 4).trans rfl
  clear hC hB hJ hY hwW h7
  refine callsIn_of_wp Tryd.func35 rfl trivial ?_ rfl
  simp only [Tryd.ntmps35, List.size_toArray, List.length_cons, List.length_nil, Nat.reduceAdd, Nat.reduceSub, Array.replicate_succ, Array.replicate_zero, List.push_toArray, List.append_toArray, List.nil_append, List.cons_append]
  gi_wp2
  clear b4
  gi_loopw [10] (fun i wr => ∃ (j : Nat) (pre : List (Els w (tkids x.f4))), j ≤ x.f4.length ∧ i = .int .i64 j ∧ Hid (pre.map (fun y => y.1.x) = tkids (x.f4.take j)) ∧ Hid (J pre wr) ∧ Hid (Below w.heap.size w wr) ∧ Hid (W.heap.size ≤ wr.heap.size) ∧ Hid (wr.heap[Bn]? = some (.cells #[.int .i64 x.f0, .int .i64 x.f1, .int .i64 x.f2, .slice A3 x.f3.length c3, .slice A4 x.f4.length c4] 25 (0, 0))))
    (fun i _ => x.f4.length - (intOf i).toNat)
  case atStart => exact ⟨0, [], Nat.zero_le _, rfl, Lib.hid (by simp [tkids]), Lib.hid h0, HW, Lib.hid (Nat.le_refl _), HB⟩
  case round =>
    obtain ⟨j, pre, hj, rfl, hp, hJs, hW1, hsz, hB1⟩ := hrel
    by_cases hlt : j < x.f4.length
    · obtain ⟨ad, y, B3, d3, B4, d4, e, hy, hok, r0, r1, r2, r3, r4⟩ := el_at HC.out rfl j hlt
      subst e
      have hbd : (ad.add (j * 5)).block < w.heap.size := World.block_lt_of_cell? _ _ r0
      have k0 := (hW1.out.cell hbd).trans r0
      have k1 := (hW1.out.cell (p := ⟨(ad.add (j * 5)).block, (ad.add (j * 5)).off + 1, none⟩) hbd).trans r1
      have k2 := (hW1.out.cell (p := ⟨(ad.add (j * 5)).block, (ad.add (j * 5)).off + 2, none⟩) hbd).trans r2
      have k3 := (hW1.out.cell (p := ⟨(ad.add (j * 5)).block, (ad.add (j * 5)).off + 3, none⟩) hbd).trans r3
      have k4 := (hW1.out.cell (p := ⟨(ad.add (j * 5)).block, (ad.add (j * 5)).off + 4, none⟩) hbd).trans r4
      clear r0 r1 r2 r3 r4
      have hbd2 : (ad.add (j * 5)).block < wr.heap.size := Nat.lt_of_lt_of_le hbd hW1.out.size
      have b1 : wr.cell? ⟨Bn, 1, none⟩ = some (.int .i64 x.f1) := (blk_cell hB1.out 1).trans rfl
      have lb : Bn < wr.heap.size := blk_lt hB1.out
      have h7 := H7.out
      have hyl : y.f4.length ≤ 9223372036854775807 := hok.2.2.1.2.1
      have HYY := Lib.hid hy
      have HOK := Lib.hid hok
      have hA : Below w.heap.size wr (wr.alloc (.cells #[.int .i64 y.f0, .int .i64 y.f1, .int .i64 y.f2, .slice B3 y.f3.length d3, .slice B4 y.f4.length d4] 25)) := (Below.refl _ _).alloc hW1.out.size _
      have HA := Lib.hid hA
      have hJ1 := Lib.hid (HJ.out pre wr _ none hJs.out (World.grownBy_alloc wr (.cells #[.int .i64 y.f0, .int .i64 y.f1, .int .i64 y.f2, .slice B3 y.f3.length d3, .slice B4 y.f4.length d4] 25) none) (fun r e => by cases e))
      have hB2 := Lib.hid (blk_alloc hB1.out (.cells #[.int .i64 y.f0, .int .i64 y.f1, .int .i64 y.f2, .slice B3 y.f3.length d3, .slice B4 y.f4.length d4] 25))
      clear hy hok hA
      gi_wp2
      clear k0 k1 k2 k3 k4 b1 h7
      gi_loopw [24] (fun i wq => ∃ (m : Nat) (qre : List (Els w (tkids x.f4))), m ≤ y.f4.length ∧ i = .int .i64 m ∧ Hid (qre.map (fun y => y.1.x) = tkids (x.f4.take j) ++ y.f4.take m) ∧ Hid (J qre wq) ∧ Hid (Below w.heap.size w wq) ∧ Hid (W.heap.size ≤ wq.heap.size) ∧ Hid (wq.heap[Bn]? = some (.cells #[.int .i64 x.f0, .int .i64 x.f1, .int .i64 x.f2, .slice A3 x.f3.length c3, .slice (some ad) x.f4.length c4] 25 (0, 0))))
        (fun i _ => y.f4.length - (intOf i).toNat)
      case atStart => exact ⟨0, pre, Nat.zero_le _, rfl, Lib.hid (by rw [hp.out]; simp), hJ1, Lib.hid (hW1.out.trans HA.out), Lib.hid (Nat.le_trans hsz.out HA.out.size), hB2⟩
      case round =>
        clear hJ1 HA hB2 hW1 hsz hB1 hJs hp lb hbd2
        obtain ⟨m, qre, hm, rfl, hp, hJs, hW1, hsz, hB1⟩ := hrel
        by_cases hlm : m < y.f4.length
        · obtain ⟨bd, z, C3, e3, C4, e4, e, hz, hok, r0, r1, r2, r3, r4⟩ := el_at HOK.out.2.2.1 rfl m hlm
          dsimp only at e
          subst e
          have hbe : (bd.add (m * 5)).block < w.heap.size := World.block_lt_of_cell? _ _ r0
          have k0 := (hW1.out.cell hbe).trans r0
          have k1 := (hW1.out.cell (p := ⟨(bd.add (m * 5)).block, (bd.add (m * 5)).off + 1, none⟩) hbe).trans r1
          have k2 := (hW1.out.cell (p := ⟨(bd.add (m * 5)).block, (bd.add (m * 5)).off + 2, none⟩) hbe).trans r2
          have k3 := (hW1.out.cell (p := ⟨(bd.add (m * 5)).block, (bd.add (m * 5)).off + 3, none⟩) hbe).trans r3
          have k4 := (hW1.out.cell (p := ⟨(bd.add (m * 5)).block, (bd.add (m * 5)).off + 4, none⟩) hbe).trans r4
          clear r0 r1 r2 r3 r4
          have hbe2 : (bd.add (m * 5)).block < wr.heap.size := Nat.lt_of_lt_of_le hbe hW1.out.size
          have lb : Bn < wr.heap.size := blk_lt hB1.out
          have hmem : z ∈ tkids x.f4 := mem_tkids.2 ⟨y, HYY.out ▸ List.getElem_mem hlt, hz ▸ List.getElem_mem hlm⟩
          have hlen : qre.length < (tkids x.f4).length := by
            have := congrArg List.length hp.out
            rw [List.length_map, List.length_append, List.length_take] at this
            have h2 := tkids_len (l := x.f4) (j := j) (i := m) hlt (by rw [HYY.out]; exact hlm)
            omega
          obtain ⟨fn, tmps, assign, body, hyy, hR⟩ := HY.out qre ⟨⟨z, C3, e3, C4, e4⟩, hok, hmem⟩ (wr.alloc (.cells #[.int .i64 z.f0, .int .i64 z.f1, .int .i64 z.f2, .slice C3 z.f3.length e3, .slice C4 z.f4.length e4] 25))
            (HJ.out qre wr _ none hJs.out (World.grownBy_alloc wr _ none) (fun r e => by cases e)) hlen
          dsimp only [El.enc] at hyy
          have HR := Lib.hid hR
          have HZ := Lib.hid hz
          clear hR hz
          gi_wp2
          refine HR.out.mono ?_
          rintro e W3 (⟨rfl, hJ3, hk3, hb3⟩ | ⟨rfl, hJx3⟩)
          · gi_wp2
            go_roundw
            case rel =>
              have hA : Below w.heap.size wr (wr.alloc (.cells #[.int .i64 z.f0, .int .i64 z.f1, .int .i64 z.f2, .slice C3 z.f3.length e3, .slice C4 z.f4.length e4] 25)) := (Below.refl _ _).alloc hW1.out.size _
              refine ⟨m + 1, _, by omega, by go_num, Lib.hid ?_, Lib.hid hJ3, Lib.hid ((hW1.out.trans hA).trans hk3), Lib.hid ?_, Lib.hid ?_⟩
              · rw [List.map_append, hp.out, take_one _ _ hlm, HZ.out, List.append_assoc]; rfl
              · exact Nat.le_trans hsz.out (Nat.le_trans hA.size hk3.size)
              · rw [hb3]; exact blk_alloc hB1.out _
            case measure => simp [intOf]; omega
          · gi_wp2
            refine bodyPost_ret (results_none rfl _ _ _) rfl ?_
            exact ⟨⟨_, rfl⟩, .inr ⟨_, trivial, hJx3⟩⟩
        · gi_wp2
          go_roundw
          case rel =>
            refine ⟨j + 1, qre, by omega, by go_num, Lib.hid ?_, hJs, hW1, hsz, hB1⟩
            rw [hp.out, tkids_take _ _ hlt, HYY.out, List.take_of_length_le (show y.f4.length ≤ m by omega)]
          case measure => simp [intOf]; omega
    · gi_wp2
      go_end0
      refine ⟨⟨_, rfl⟩, .inl ⟨pre, ?_, hJs.out⟩⟩
      rw [hp.out, List.take_of_length_le (by omega)]
end Go.Proofs.YtmbockhcmhghlaaDoor.Pr
end
section
namespace Go.Proofs.YtmbockhcmhghlaaDoor.Pr
open Go.RowKit Go.Proofs.YtmbockhcmhghlaaDoorW.PrintWords Go.Proofs.YtmbockhcmhghlaaDoorW.PrintLast Go.Proofs.YtmbockhcmhghlaaDoorW.PrintMore
set_option linter.unusedVariables false
set_option linter.unusedSimpArgs false
theorem wp_at {P : Program} {c : Code} {Q : Exit → Act → World → Prop} {a : Act} {w : World} (h : ∀ W, W = w → c.wp P Q a W) : c.wp P Q a w := h w rfl
section
variable {α : Type} {d : Kd α} {e base n c g sz : Nat} {W W' : World} {v : Value} {A : Option Addr} {xs ys : List α} {rows news : List (List Value)}
def RowsK (d : Kd α) (W : World) (xs : List α) (rows : List (List Value)) : Prop := rows.length = xs.length ∧ ∀ (j : Nat) (x : α) (cs : List Value), xs[j]? = some x → rows[j]? = some cs → d.K W x cs
theorem RowsK.below (h : RowsK d W xs rows) (hb : Below W.heap.size W W') : RowsK d W' xs rows := ⟨h.1, fun j x cs hx hc => d.K_below hb (h.2 j x cs hx hc)⟩
theorem RowsK.nil (d : Kd α) (W : World) : RowsK d W [] [] := ⟨rfl, fun j x cs hx _ => by simp at hx⟩
theorem RowsK.append (h : RowsK d W xs rows) (k : RowsK d W ys news) : RowsK d W (xs ++ ys) (rows ++ news) := ⟨by rw [List.length_append, List.length_append, h.1, k.1], fun j x cs hx hc => by
  rcases Nat.lt_or_ge j xs.length with hj | hj
  · rw [List.getElem?_append_left hj] at hx
    rw [List.getElem?_append_left (by rw [h.1]; exact hj)] at hc
    exact h.2 j x cs hx hc
  · rw [List.getElem?_append_right hj] at hx
    rw [List.getElem?_append_right (by rw [h.1]; exact hj), h.1] at hc
    exact k.2 _ x cs hx hc⟩
theorem RowsK.replicate {x : α} {cs : List Value} (h : d.K W x cs) (m : Nat) : RowsK d W (List.replicate m x) (List.replicate m cs) := ⟨by simp, fun j y c hy hc => by
  obtain ⟨_, rfl⟩ := List.getElem?_eq_some_iff.1 hy
  obtain ⟨_, rfl⟩ := List.getElem?_eq_some_iff.1 hc
  simpa using h⟩
end
end Go.Proofs.YtmbockhcmhghlaaDoor.Pr
end
section
namespace Go.Proofs.YtmbockhcmhghlaaDoor.Pr
open Go.RowKit Go.Proofs.YtmbockhcmhghlaaDoorW.PrintWords Go.Proofs.YtmbockhcmhghlaaDoorW.PrintLast Go.Proofs.YtmbockhcmhghlaaDoorW.PrintMore
set_option linter.unusedVariables false
set_option linter.unusedSimpArgs false
def elemV (k : S25) : Bool := (k.f0 == 1) && structV k
def listV (x : S25) : Bool :=
  if x.f2 < 0 ∨ 536870911 < x.f2 ∨ x.f1 < 0 ∨ 7 < x.f1 then false
  else if x.f1 = 6 then ((x.f3.length : Int) == 0) && (((x.f4.length : Int) == x.f2) && x.f4.all tvalid)
  else if x.f1 = 7 then ((x.f3.length : Int) == 0) && (((x.f4.length : Int) == x.f2) && x.f4.all elemV)
  else ((x.f4.length : Int) == 0) && (((x.f3.length : Int) == bytesOf x.f1 x.f2) && decide (rL x.f1 x.f2 x.f3 x.f3.length = x.f3))
theorem own_reads {w : World} {base : Nat} {v : Value} {n : Nat} {ys : List Int} (h : w.ownsRow base 5 1 v n (Ls.nums .u8 ys)) (hn : ys.length = n) : ∃ A c, v = .slice A ys.length c ∧ ys.length ≤ c ∧ (Kd.int .u8).C w A ys.length ys := by
  subst hn
  have h' : (Kd.int .u8).R 5 w base (fun _ => True) v ys := Kd.R_of_own (h1 := fun _ => rfl) (ok := fun _ => True) h (fun _ _ => trivial)
  obtain ⟨A, c, e, hl, hC⟩ := Kd.R_reads h'
  exact ⟨A, c, e, hl, hC⟩
set_option maxRecDepth 100000 in
set_option maxHeartbeats 4000000 in
theorem list_any (x : S25) (hN : ∀ y ∈ x.f4, NodeC 10 (tvalid y) y) (hE : ∀ y ∈ x.f4, NodeC 31 (elemV y) y) (hx : ∀ b ∈ x.f3, 0 ≤ b ∧ b ≤ 255) : NodeC 22 (listV x) x := by
  intro A3 c3 A4 c4 W h3 l3 h4 l4 ht
  have H3 := Lib.hid h3; have H4 := Lib.hid h4; have HT := Lib.hid ht; have HN := Lib.hid hN; have HE := Lib.hid hE; have HX := Lib.hid hx
  have hm3 : x.f3.length ≤ 9223372036854775807 := h3.2.1
  have hm4 : x.f4.length ≤ 9223372036854775807 := h4.2.1
  clear h3 h4 ht hN hE hx
  have HD : Hid (listV x = _) := Lib.hid (listV.eq_1 x)
  by_cases q1 : x.f1 < 0
  · have d1 : decide (x.f1 < 0) = true := decide_eq_true q1
    have HDD : Hid (listV x = false) := Lib.hid (by rw [HD.out]; rw [if_pos (by omega)])
    clear HD
    go_enter Tryd.func22, Tryd.ntmps22
    go_wp2
    go_ret
    exact ⟨by rw [HDD.out]; rfl, (Below.refl _ _).alloc (Nat.le_refl _) _⟩
  have d1 : decide (x.f1 < 0) = false := decide_eq_false q1
  by_cases q2 : 7 < x.f1
  · have d2 : decide (7 < x.f1) = true := decide_eq_true q2
    have HDD : Hid (listV x = false) := Lib.hid (by rw [HD.out]; rw [if_pos (by omega)])
    clear HD
    go_enter Tryd.func22, Tryd.ntmps22
    go_wp2
    go_ret
    exact ⟨by rw [HDD.out]; rfl, (Below.refl _ _).alloc (Nat.le_refl _) _⟩
  have d2 : decide (7 < x.f1) = false := decide_eq_false q2
  by_cases q3 : x.f2 < 0
  · have d3 : decide (x.f2 < 0) = true := decide_eq_true q3
    have HDD : Hid (listV x = false) := Lib.hid (by rw [HD.out]; rw [if_pos (by omega)])
    clear HD
    go_enter Tryd.func22, Tryd.ntmps22
    go_wp2
    go_ret
    exact ⟨by rw [HDD.out]; rfl, (Below.refl _ _).alloc (Nat.le_refl _) _⟩
  have d3 : decide (x.f2 < 0) = false := decide_eq_false q3
  by_cases q4 : 536870911 < x.f2
  · have d4 : decide (536870911 < x.f2) = true := decide_eq_true q4
    have HDD : Hid (listV x = false) := Lib.hid (by rw [HD.out]; rw [if_pos (by omega)])
    clear HD
    go_enter Tryd.func22, Tryd.ntmps22
    go_wp2
    go_ret
    exact ⟨by rw [HDD.out]; rfl, (Below.refl _ _).alloc (Nat.le_refl _) _⟩
  have d4 : decide (536870911 < x.f2) = false := decide_eq_false q4
  have HD1 := Lib.hid (HD.out.trans (if_neg (by omega)))
  clear HD
  by_cases e6 : x.f1 = 6
  · have g6 : (x.f1 == 6) = true := beq_iff_eq.2 e6
    have HD2 := Lib.hid (HD1.out.trans (if_pos e6))
    clear HD1 e6
    cases b1 : ((x.f3.length : Int) == 0) with
    | false =>
      have HDD : Hid (listV x = false) := Lib.hid (by rw [HD2.out]; rw [b1]; rfl)
      clear HD2
      go_enter Tryd.func22, Tryd.ntmps22
      go_wp2
      go_ret
      exact ⟨by rw [HDD.out]; rfl, (Below.refl _ _).alloc (Nat.le_refl _) _⟩
    | true =>
    cases b2 : ((x.f4.length : Int) == x.f2) with
    | false =>
      have HDD : Hid (listV x = false) := Lib.hid (by rw [HD2.out]; rw [b1, b2]; rfl)
      clear HD2
      go_enter Tryd.func22, Tryd.ntmps22
      go_wp2
      go_ret
      exact ⟨by rw [HDD.out]; rfl, (Below.refl _ _).alloc (Nat.le_refl _) _⟩
    | true =>
    have HDD := Lib.hid (show listV x = x.f4.all tvalid by rw [HD2.out, b1, b2]; rfl)
    clear HD2
    go_enter Tryd.func22, Tryd.ntmps22
    go_wp2_with fail
    refine calls_at (fun W1 hW => ?_)
    have hb : Below W.heap.size W W1 := by rw [hW]; exact (Below.refl _ _).alloc (Nat.le_refl _) _
    clear hW
    refine (all10 tvalid A4 c4 x.f4 W1 HN.out (Kd.C_below H4.out hb) (HT.out.below hb)).mono ?_
    rintro e w1 ⟨rfl, hb1⟩
    go_wp2
    go_ret
    exact ⟨by rw [HDD.out]; rfl, hb.trans (hb1.mono hb.size)⟩
  have g6 : (x.f1 == 6) = false := beq_eq_false_iff_ne.2 e6
  have HD1b := Lib.hid (HD1.out.trans (if_neg e6))
  by_cases e7 : x.f1 = 7
  · have g7 : (x.f1 == 7) = true := beq_iff_eq.2 e7
    have HD2 := Lib.hid (HD1b.out.trans (if_pos e7))
    clear HD1b e7
    cases b1 : ((x.f3.length : Int) == 0) with
    | false =>
      have HDD : Hid (listV x = false) := Lib.hid (by rw [HD2.out]; rw [b1]; rfl)
      clear HD2
      go_enter Tryd.func22, Tryd.ntmps22
      go_wp2
      go_ret
      exact ⟨by rw [HDD.out]; rfl, (Below.refl _ _).alloc (Nat.le_refl _) _⟩
    | true =>
    cases b2 : ((x.f4.length : Int) == x.f2) with
    | false =>
      have HDD : Hid (listV x = false) := Lib.hid (by rw [HD2.out]; rw [b1, b2]; rfl)
      clear HD2
      go_enter Tryd.func22, Tryd.ntmps22
      go_wp2
      go_ret
      exact ⟨by rw [HDD.out]; rfl, (Below.refl _ _).alloc (Nat.le_refl _) _⟩
    | true =>
    have HDD := Lib.hid (show listV x = x.f4.all elemV by rw [HD2.out, b1, b2]; rfl)
    clear HD2
    go_enter Tryd.func22, Tryd.ntmps22
    go_wp2_with fail
    refine calls_at (fun W1 hW => ?_)
    have hb : Below W.heap.size W W1 := by rw [hW]; exact (Below.refl _ _).alloc (Nat.le_refl _) _
    clear hW
    refine (all31 elemV A4 c4 x.f4 W1 HE.out (Kd.C_below H4.out hb) (HT.out.below hb)).mono ?_
    rintro e w1 ⟨rfl, hb1⟩
    go_wp2
    go_ret
    exact ⟨by rw [HDD.out]; rfl, hb.trans (hb1.mono hb.size)⟩
  have g7 : (x.f1 == 7) = false := beq_eq_false_iff_ne.2 e7
  have HD1c := Lib.hid (HD1b.out.trans (if_neg e7))
  have p0 : 0 ≤ x.f1 := by omega
  have p5 : x.f1 ≤ 5 := by omega
  have r0 : 0 ≤ x.f2 := by omega
  have r1 : x.f2 ≤ 536870911 := by omega
  clear HD1 HD1b e6 e7 q1 q2 q3 q4
  cases b1 : ((x.f4.length : Int) == 0) with
  | false =>
    have HDD : Hid (listV x = false) := Lib.hid (by rw [HD1c.out, b1]; rfl)
    clear HD1c
    go_enter Tryd.func22, Tryd.ntmps22
    go_upto_region 8 with fail
    refine wp_at (fun W1 hW => ?_)
    have hb : Below W.heap.size W W1 := by rw [hW]; exact (Below.refl _ _).alloc (Nat.le_refl _) _
    have hB : W1.heap[W.heap.size]? = some (.cells #[.int .i64 x.f0, .int .i64 x.f1, .int .i64 x.f2, .slice A3 x.f3.length c3, .slice A4 x.f4.length c4] 25 (0, 0)) := by rw [hW]; exact heap_alloc_new _ _
    clear hW
    have l_b := blk_lt hB
    have q0 : W1.cell? ⟨W.heap.size, 0, none⟩ = some (.int .i64 x.f0) := (blk_cell hB 0).trans rfl
    have q1 : W1.cell? ⟨W.heap.size, 1, none⟩ = some (.int .i64 x.f1) := (blk_cell hB 1).trans rfl
    have q2 : W1.cell? ⟨W.heap.size, 2, none⟩ = some (.int .i64 x.f2) := (blk_cell hB 2).trans rfl
    have q3 : W1.cell? ⟨W.heap.size, 3, none⟩ = some (.slice A3 x.f3.length c3) := (blk_cell hB 3).trans rfl
    have q4 : W1.cell? ⟨W.heap.size, 4, none⟩ = some (.slice A4 x.f4.length c4) := (blk_cell hB 4).trans rfl
    clear hB
    refine start_ (n := 28) (S := fun w' => w'.cell? ⟨W.heap.size, 0, none⟩ = some (.int .i64 x.f0) ∧ w'.cell? ⟨W.heap.size, 1, none⟩ = some (.int .i64 x.f1) ∧ w'.cell? ⟨W.heap.size, 2, none⟩ = some (.int .i64 x.f2) ∧ w'.cell? ⟨W.heap.size, 3, none⟩ = some (.slice A3 x.f3.length c3) ∧ w'.cell? ⟨W.heap.size, 4, none⟩ = some (.slice A4 x.f4.length c4)) (ds := []) #[false, false, false, false, false, false, false, false, false, false, false, false, false, false, false, false, false, false, false, false, false, false, false, false, false, false, false, false] (by kernel_rfl) rfl rfl ⟨q0, q1, q2, q3, q4⟩ (fun hHeld => ?_)
    obtain ⟨wd, hwd⟩ : ∃ W', W' = W1.drew := ⟨_, rfl⟩
    rw [← hwd] at hHeld ⊢
    have hbR : Below W1.heap.size W1 wd := by rw [hwd]; exact (Below.refl _ _).drew
    clear hwd
    refine pure_ (i := 0) (N := some 61) (v := ?_) (a' := ?_) #[true, false, false, false, false, false, false, false, false, false, false, false, false, false, false, false, false, false, false, false, false, false, false, false, false, false, false, false] rfl rfl (by kernel_rfl) (fun _ _ _ h => h) (Or.inl ⟨by rfl, ?_⟩) ?_ ?_
    rotate_left
    · intro w'
      go_simp
      with_reducible rfl
    rotate_left
    · simp only [Act.put, List.setIfInBounds_toArray, List.set_cons_zero, List.set_cons_succ, i64_w, i32_w]
      rfl
    refine take_ (i := 1) (N := some 62) (v := ?_) (a' := ?_) #[true, true, false, false, false, false, false, false, false, false, false, false, false, false, false, false, false, false, false, false, false, false, false, false, false, false, false, false] rfl rfl (by kernel_rfl) (fun _ _ _ h => h) (Or.inl ⟨by rfl, ?_⟩) hHeld ?_ ?_
    rotate_left
    · rintro w' ⟨s0, s1, s2, s3, s4⟩
      go_simp
      with_reducible rfl
    rotate_left
    · simp only [Act.put, List.setIfInBounds_toArray, List.set_cons_zero, List.set_cons_succ, i64_w, i32_w]
      rfl
    refine pure_ (i := 2) (N := some 63) (v := ?_) (a' := ?_) #[true, true, true, false, false, false, false, false, false, false, false, false, false, false, false, false, false, false, false, false, false, false, false, false, false, false, false, false] rfl rfl (by kernel_rfl) (fun _ _ _ h => h) (Or.inl ⟨by rfl, ?_⟩) ?_ ?_
    rotate_left
    · intro w'
      go_simp
      with_reducible rfl
    rotate_left
    · simp only [Act.put, List.setIfInBounds_toArray, List.set_cons_zero, List.set_cons_succ, i64_w, i32_w]
      rfl
    refine pure_ (i := 3) (N := some 64) (v := ?_) (a' := ?_) #[true, true, true, true, false, false, false, false, false, false, false, false, false, false, false, false, false, false, false, false, false, false, false, false, false, false, false, false] rfl rfl (by kernel_rfl) (fun _ _ _ h => h) (Or.inl ⟨by rfl, ?_⟩) ?_ ?_
    rotate_left
    · intro w'
      go_simp
      with_reducible rfl
    rotate_left
    · simp only [Act.put, List.setIfInBounds_toArray, List.set_cons_zero, List.set_cons_succ, i64_w, i32_w]
      rfl
    refine pure_ (i := 4) (N := some 65) (v := ?_) (a' := ?_) #[true, true, true, true, true, false, false, false, false, false, false, false, false, false, false, false, false, false, false, false, false, false, false, false, false, false, false, false] rfl rfl (by kernel_rfl) (fun _ _ _ h => h) (Or.inl ⟨by rfl, ?_⟩) ?_ ?_
    rotate_left
    · intro w'
      go_simp
      with_reducible rfl
    rotate_left
    · simp only [Act.put, List.setIfInBounds_toArray, List.set_cons_zero, List.set_cons_succ, i64_w, i32_w]
      rfl
    refine pure_ (i := 5) (N := some 66) (v := undef) (a' := ?_) #[true, true, true, true, true, true, false, false, false, false, false, false, false, false, false, false, false, false, false, false, false, false, false, false, false, false, false, false] rfl rfl (by kernel_rfl) (fun _ _ _ h => h) (Or.inr ⟨by rfl, rfl⟩) ?_ ?_
    rotate_left
    · simp only [Act.put, List.setIfInBounds_toArray, List.set_cons_zero, List.set_cons_succ, i64_w, i32_w]
      rfl
    refine pure_ (i := 6) (N := some 67) (v := undef) (a' := ?_) #[true, true, true, true, true, true, true, false, false, false, false, false, false, false, false, false, false, false, false, false, false, false, false, false, false, false, false, false] rfl rfl (by kernel_rfl) (fun _ _ _ h => h) (Or.inr ⟨by rfl, rfl⟩) ?_ ?_
    rotate_left
    · simp only [Act.put, List.setIfInBounds_toArray, List.set_cons_zero, List.set_cons_succ, i64_w, i32_w]
      rfl
    refine pure_ (i := 7) (N := some 68) (v := undef) (a' := ?_) #[true, true, true, true, true, true, true, true, false, false, false, false, false, false, false, false, false, false, false, false, false, false, false, false, false, false, false, false] rfl rfl (by kernel_rfl) (fun _ _ _ h => h) (Or.inr ⟨by rfl, rfl⟩) ?_ ?_
    rotate_left
    · simp only [Act.put, List.setIfInBounds_toArray, List.set_cons_zero, List.set_cons_succ, i64_w, i32_w]
      rfl
    refine pure_ (i := 8) (N := some 69) (v := undef) (a' := ?_) #[true, true, true, true, true, true, true, true, true, false, false, false, false, false, false, false, false, false, false, false, false, false, false, false, false, false, false, false] rfl rfl (by kernel_rfl) (fun _ _ _ h => h) (Or.inr ⟨by rfl, rfl⟩) ?_ ?_
    rotate_left
    · simp only [Act.put, List.setIfInBounds_toArray, List.set_cons_zero, List.set_cons_succ, i64_w, i32_w]
      rfl
    refine pure_ (i := 9) (N := some 70) (v := undef) (a' := ?_) #[true, true, true, true, true, true, true, true, true, true, false, false, false, false, false, false, false, false, false, false, false, false, false, false, false, false, false, false] rfl rfl (by kernel_rfl) (fun _ _ _ h => h) (Or.inr ⟨by rfl, rfl⟩) ?_ ?_
    rotate_left
    · simp only [Act.put, List.setIfInBounds_toArray, List.set_cons_zero, List.set_cons_succ, i64_w, i32_w]
      rfl
    refine pure_ (i := 10) (N := some 71) (v := undef) (a' := ?_) #[true, true, true, true, true, true, true, true, true, true, true, false, false, false, false, false, false, false, false, false, false, false, false, false, false, false, false, false] rfl rfl (by kernel_rfl) (fun _ _ _ h => h) (Or.inr ⟨by rfl, rfl⟩) ?_ ?_
    rotate_left
    · simp only [Act.put, List.setIfInBounds_toArray, List.set_cons_zero, List.set_cons_succ, i64_w, i32_w]
      rfl
    refine pure_ (i := 11) (N := some 72) (v := undef) (a' := ?_) #[true, true, true, true, true, true, true, true, true, true, true, true, false, false, false, false, false, false, false, false, false, false, false, false, false, false, false, false] rfl rfl (by kernel_rfl) (fun _ _ _ h => h) (Or.inr ⟨by rfl, rfl⟩) ?_ ?_
    rotate_left
    · simp only [Act.put, List.setIfInBounds_toArray, List.set_cons_zero, List.set_cons_succ, i64_w, i32_w]
      rfl
    refine pure_ (i := 12) (N := some 73) (v := undef) (a' := ?_) #[true, true, true, true, true, true, true, true, true, true, true, true, true, false, false, false, false, false, false, false, false, false, false, false, false, false, false, false] rfl rfl (by kernel_rfl) (fun _ _ _ h => h) (Or.inr ⟨by rfl, rfl⟩) ?_ ?_
    rotate_left
    · simp only [Act.put, List.setIfInBounds_toArray, List.set_cons_zero, List.set_cons_succ, i64_w, i32_w]
      rfl
    refine pure_ (i := 13) (N := some 74) (v := undef) (a' := ?_) #[true, true, true, true, true, true, true, true, true, true, true, true, true, true, false, false, false, false, false, false, false, false, false, false, false, false, false, false] rfl rfl (by kernel_rfl) (fun _ _ _ h => h) (Or.inr ⟨by rfl, rfl⟩) ?_ ?_
    rotate_left
    · simp only [Act.put, List.setIfInBounds_toArray, List.set_cons_zero, List.set_cons_succ, i64_w, i32_w]
      rfl
    refine pure_ (i := 14) (N := some 75) (v := ?_) (a' := ?_) #[true, true, true, true, true, true, true, true, true, true, true, true, true, true, true, false, false, false, false, false, false, false, false, false, false, false, false, false] rfl rfl (by kernel_rfl) (fun _ _ _ h => h) (Or.inl ⟨by rfl, ?_⟩) ?_ ?_
    rotate_left
    · intro w'
      go_simp
      with_reducible rfl
    rotate_left
    · simp only [Act.put, List.setIfInBounds_toArray, List.set_cons_zero, List.set_cons_succ, i64_w, i32_w]
      rfl
    refine pure_ (i := 15) (N := some 76) (v := ?_) (a' := ?_) #[true, true, true, true, true, true, true, true, true, true, true, true, true, true, true, true, false, false, false, false, false, false, false, false, false, false, false, false] rfl rfl (by kernel_rfl) (fun _ _ _ h => h) (Or.inl ⟨by rfl, ?_⟩) ?_ ?_
    rotate_left
    · intro w'
      go_simp
      with_reducible rfl
    rotate_left
    · simp only [Act.put, List.setIfInBounds_toArray, List.set_cons_zero, List.set_cons_succ, i64_w, i32_w]
      rfl
    refine pure_ (i := 16) (N := some 77) (v := undef) (a' := ?_) #[true, true, true, true, true, true, true, true, true, true, true, true, true, true, true, true, true, false, false, false, false, false, false, false, false, false, false, false] rfl rfl (by kernel_rfl) (fun _ _ _ h => h) (Or.inr ⟨by rfl, rfl⟩) ?_ ?_
    rotate_left
    · simp only [Act.put, List.setIfInBounds_toArray, List.set_cons_zero, List.set_cons_succ, i64_w, i32_w]
      rfl
    refine pure_ (i := 17) (N := some 78) (v := undef) (a' := ?_) #[true, true, true, true, true, true, true, true, true, true, true, true, true, true, true, true, true, true, false, false, false, false, false, false, false, false, false, false] rfl rfl (by kernel_rfl) (fun _ _ _ h => h) (Or.inr ⟨by rfl, rfl⟩) ?_ ?_
    rotate_left
    · simp only [Act.put, List.setIfInBounds_toArray, List.set_cons_zero, List.set_cons_succ, i64_w, i32_w]
      rfl
    refine pure_ (i := 18) (N := some 79) (v := undef) (a' := ?_) #[true, true, true, true, true, true, true, true, true, true, true, true, true, true, true, true, true, true, true, false, false, false, false, false, false, false, false, false] rfl rfl (by kernel_rfl) (fun _ _ _ h => h) (Or.inr ⟨by rfl, rfl⟩) ?_ ?_
    rotate_left
    · simp only [Act.put, List.setIfInBounds_toArray, List.set_cons_zero, List.set_cons_succ, i64_w, i32_w]
      rfl
    refine pure_ (i := 19) (N := some 80) (v := undef) (a' := ?_) #[true, true, true, true, true, true, true, true, true, true, true, true, true, true, true, true, true, true, true, true, false, false, false, false, false, false, false, false] rfl rfl (by kernel_rfl) (fun _ _ _ h => h) (Or.inr ⟨by rfl, rfl⟩) ?_ ?_
    rotate_left
    · simp only [Act.put, List.setIfInBounds_toArray, List.set_cons_zero, List.set_cons_succ, i64_w, i32_w]
      rfl
    refine pure_ (i := 20) (N := some 81) (v := undef) (a' := ?_) #[true, true, true, true, true, true, true, true, true, true, true, true, true, true, true, true, true, true, true, true, true, false, false, false, false, false, false, false] rfl rfl (by kernel_rfl) (fun _ _ _ h => h) (Or.inr ⟨by rfl, rfl⟩) ?_ ?_
    rotate_left
    · simp only [Act.put, List.setIfInBounds_toArray, List.set_cons_zero, List.set_cons_succ, i64_w, i32_w]
      rfl
    refine pure_ (i := 21) (N := some 82) (v := undef) (a' := ?_) #[true, true, true, true, true, true, true, true, true, true, true, true, true, true, true, true, true, true, true, true, true, true, false, false, false, false, false, false] rfl rfl (by kernel_rfl) (fun _ _ _ h => h) (Or.inr ⟨by rfl, rfl⟩) ?_ ?_
    rotate_left
    · simp only [Act.put, List.setIfInBounds_toArray, List.set_cons_zero, List.set_cons_succ, i64_w, i32_w]
      rfl
    refine pure_ (i := 22) (N := some 83) (v := undef) (a' := ?_) #[true, true, true, true, true, true, true, true, true, true, true, true, true, true, true, true, true, true, true, true, true, true, true, false, false, false, false, false] rfl rfl (by kernel_rfl) (fun _ _ _ h => h) (Or.inr ⟨by rfl, rfl⟩) ?_ ?_
    rotate_left
    · simp only [Act.put, List.setIfInBounds_toArray, List.set_cons_zero, List.set_cons_succ, i64_w, i32_w]
      rfl
    refine pure_ (i := 23) (N := some 84) (v := undef) (a' := ?_) #[true, true, true, true, true, true, true, true, true, true, true, true, true, true, true, true, true, true, true, true, true, true, true, true, false, false, false, false] rfl rfl (by kernel_rfl) (fun _ _ _ h => h) (Or.inr ⟨by rfl, rfl⟩) ?_ ?_
    rotate_left
    · simp only [Act.put, List.setIfInBounds_toArray, List.set_cons_zero, List.set_cons_succ, i64_w, i32_w]
      rfl
    refine pure_ (i := 24) (N := some 85) (v := undef) (a' := ?_) #[true, true, true, true, true, true, true, true, true, true, true, true, true, true, true, true, true, true, true, true, true, true, true, true, true, false, false, false] rfl rfl (by kernel_rfl) (fun _ _ _ h => h) (Or.inr ⟨by rfl, rfl⟩) ?_ ?_
    rotate_left
    · simp only [Act.put, List.setIfInBounds_toArray, List.set_cons_zero, List.set_cons_succ, i64_w, i32_w]
      rfl
    refine pure_ (i := 25) (N := some 86) (v := undef) (a' := ?_) #[true, true, true, true, true, true, true, true, true, true, true, true, true, true, true, true, true, true, true, true, true, true, true, true, true, true, false, false] rfl rfl (by kernel_rfl) (fun _ _ _ h => h) (Or.inr ⟨by rfl, rfl⟩) ?_ ?_
    rotate_left
    · simp only [Act.put, List.setIfInBounds_toArray, List.set_cons_zero, List.set_cons_succ, i64_w, i32_w]
      rfl
    refine pure_ (i := 26) (N := some 87) (v := ?_) (a' := ?_) #[true, true, true, true, true, true, true, true, true, true, true, true, true, true, true, true, true, true, true, true, true, true, true, true, true, true, true, false] rfl rfl (by kernel_rfl) (fun _ _ _ h => h) (Or.inl ⟨by rfl, ?_⟩) ?_ ?_
    rotate_left
    · intro w'
      go_simp
      with_reducible rfl
    rotate_left
    · simp only [Act.put, List.setIfInBounds_toArray, List.set_cons_zero, List.set_cons_succ, i64_w, i32_w]
      rfl
    refine pure_ (i := 27) (N := some 2) (v := ?_) (a' := ?_) #[true, true, true, true, true, true, true, true, true, true, true, true, true, true, true, true, true, true, true, true, true, true, true, true, true, true, true, true] rfl rfl (by kernel_rfl) (fun _ _ _ h => h) (Or.inl ⟨by rfl, ?_⟩) ?_ ?_
    rotate_left
    · intro w'
      go_simp
      with_reducible rfl
    rotate_left
    · simp only [Act.put, List.setIfInBounds_toArray, List.set_cons_zero, List.set_cons_succ, i64_w, i32_w]
      rfl
    refine done_ (by kernel_rfl) ?_
    go_wp2
    go_ret
    exact ⟨by rw [HDD.out]; rfl, hb.trans (hbR.mono hb.size)⟩
  | true =>
  obtain ⟨m, hm⟩ : ∃ m : Nat, Hid (bytesOf x.f1 x.f2 = (m : Int)) := ⟨(bytesOf x.f1 x.f2).toNat, Lib.hid (by have := bytesOf_nonneg x.f1 x.f2 r0; omega)⟩
  cases b2 : ((x.f3.length : Int) == (m : Int)) with
  | false =>
    have HDD : Hid (listV x = false) := Lib.hid (by rw [HD1c.out, b1, hm.out, b2]; rfl)
    clear HD1c
    go_enter Tryd.func22, Tryd.ntmps22
    go_upto_region 8 with fail
    refine wp_at (fun W1 hW => ?_)
    have hb : Below W.heap.size W W1 := by rw [hW]; exact (Below.refl _ _).alloc (Nat.le_refl _) _
    have hB : W1.heap[W.heap.size]? = some (.cells #[.int .i64 x.f0, .int .i64 x.f1, .int .i64 x.f2, .slice A3 x.f3.length c3, .slice A4 x.f4.length c4] 25 (0, 0)) := by rw [hW]; exact heap_alloc_new _ _
    clear hW
    have l_b := blk_lt hB
    have q0 : W1.cell? ⟨W.heap.size, 0, none⟩ = some (.int .i64 x.f0) := (blk_cell hB 0).trans rfl
    have q1 : W1.cell? ⟨W.heap.size, 1, none⟩ = some (.int .i64 x.f1) := (blk_cell hB 1).trans rfl
    have q2 : W1.cell? ⟨W.heap.size, 2, none⟩ = some (.int .i64 x.f2) := (blk_cell hB 2).trans rfl
    have q3 : W1.cell? ⟨W.heap.size, 3, none⟩ = some (.slice A3 x.f3.length c3) := (blk_cell hB 3).trans rfl
    have q4 : W1.cell? ⟨W.heap.size, 4, none⟩ = some (.slice A4 x.f4.length c4) := (blk_cell hB 4).trans rfl
    clear hB
    refine start_ (n := 28) (S := fun w' => w'.cell? ⟨W.heap.size, 0, none⟩ = some (.int .i64 x.f0) ∧ w'.cell? ⟨W.heap.size, 1, none⟩ = some (.int .i64 x.f1) ∧ w'.cell? ⟨W.heap.size, 2, none⟩ = some (.int .i64 x.f2) ∧ w'.cell? ⟨W.heap.size, 3, none⟩ = some (.slice A3 x.f3.length c3) ∧ w'.cell? ⟨W.heap.size, 4, none⟩ = some (.slice A4 x.f4.length c4)) (ds := []) #[false, false, false, false, false, false, false, false, false, false, false, false, false, false, false, false, false, false, false, false, false, false, false, false, false, false, false, false] (by kernel_rfl) rfl rfl ⟨q0, q1, q2, q3, q4⟩ (fun hHeld => ?_)
    obtain ⟨wd, hwd⟩ : ∃ W', W' = W1.drew := ⟨_, rfl⟩
    rw [← hwd] at hHeld ⊢
    have hbR : Below W1.heap.size W1 wd := by rw [hwd]; exact (Below.refl _ _).drew
    clear hwd
    refine pure_ (i := 0) (N := some 61) (v := ?_) (a' := ?_) #[true, false, false, false, false, false, false, false, false, false, false, false, false, false, false, false, false, false, false, false, false, false, false, false, false, false, false, false] rfl rfl (by kernel_rfl) (fun _ _ _ h => h) (Or.inl ⟨by rfl, ?_⟩) ?_ ?_
    rotate_left
    · intro w'
      go_simp
      with_reducible rfl
    rotate_left
    · simp only [Act.put, List.setIfInBounds_toArray, List.set_cons_zero, List.set_cons_succ, i64_w, i32_w]
      rfl
    refine take_ (i := 1) (N := some 62) (v := ?_) (a' := ?_) #[true, true, false, false, false, false, false, false, false, false, false, false, false, false, false, false, false, false, false, false, false, false, false, false, false, false, false, false] rfl rfl (by kernel_rfl) (fun _ _ _ h => h) (Or.inl ⟨by rfl, ?_⟩) hHeld ?_ ?_
    rotate_left
    · rintro w' ⟨s0, s1, s2, s3, s4⟩
      go_simp
      with_reducible rfl
    rotate_left
    · simp only [Act.put, List.setIfInBounds_toArray, List.set_cons_zero, List.set_cons_succ, i64_w, i32_w]
      rfl
    refine pure_ (i := 2) (N := some 63) (v := ?_) (a' := ?_) #[true, true, true, false, false, false, false, false, false, false, false, false, false, false, false, false, false, false, false, false, false, false, false, false, false, false, false, false] rfl rfl (by kernel_rfl) (fun _ _ _ h => h) (Or.inl ⟨by rfl, ?_⟩) ?_ ?_
    rotate_left
    · intro w'
      go_simp
      with_reducible rfl
    rotate_left
    · simp only [Act.put, List.setIfInBounds_toArray, List.set_cons_zero, List.set_cons_succ, i64_w, i32_w]
      rfl
    refine pure_ (i := 3) (N := some 64) (v := ?_) (a' := ?_) #[true, true, true, true, false, false, false, false, false, false, false, false, false, false, false, false, false, false, false, false, false, false, false, false, false, false, false, false] rfl rfl (by kernel_rfl) (fun _ _ _ h => h) (Or.inl ⟨by rfl, ?_⟩) ?_ ?_
    rotate_left
    · intro w'
      go_simp
      with_reducible rfl
    rotate_left
    · simp only [Act.put, List.setIfInBounds_toArray, List.set_cons_zero, List.set_cons_succ, i64_w, i32_w]
      rfl
    refine pure_ (i := 4) (N := some 65) (v := ?_) (a' := ?_) #[true, true, true, true, true, false, false, false, false, false, false, false, false, false, false, false, false, false, false, false, false, false, false, false, false, false, false, false] rfl rfl (by kernel_rfl) (fun _ _ _ h => h) (Or.inl ⟨by rfl, ?_⟩) ?_ ?_
    rotate_left
    · intro w'
      go_simp
      with_reducible rfl
    rotate_left
    · simp only [Act.put, List.setIfInBounds_toArray, List.set_cons_zero, List.set_cons_succ, i64_w, i32_w]
      rfl
    refine pure_ (i := 5) (N := some 66) (v := ?_) (a' := ?_) #[true, true, true, true, true, true, false, false, false, false, false, false, false, false, false, false, false, false, false, false, false, false, false, false, false, false, false, false] rfl rfl (by kernel_rfl) (fun _ _ _ h => h) (Or.inl ⟨by rfl, ?_⟩) ?_ ?_
    rotate_left
    · intro w'
      go_simp
      with_reducible rfl
    rotate_left
    · simp only [Act.put, List.setIfInBounds_toArray, List.set_cons_zero, List.set_cons_succ, i64_w, i32_w]
      rfl
    refine pure_ (i := 8) (N := some 69) (v := ?_) (a' := ?_) #[true, true, true, true, true, true, false, false, true, false, false, false, false, false, false, false, false, false, false, false, false, false, false, false, false, false, false, false] rfl rfl (by kernel_rfl) (fun _ _ _ h => h) (Or.inl ⟨by rfl, ?_⟩) ?_ ?_
    rotate_left
    · intro w'
      go_simp
      with_reducible rfl
    rotate_left
    · simp only [Act.put, List.setIfInBounds_toArray, List.set_cons_zero, List.set_cons_succ, i64_w, i32_w]
      rfl
    refine pure_ (i := 10) (N := some 71) (v := ?_) (a' := ?_) #[true, true, true, true, true, true, false, false, true, false, true, false, false, false, false, false, false, false, false, false, false, false, false, false, false, false, false, false] rfl rfl (by kernel_rfl) (fun _ _ _ h => h) (Or.inl ⟨by rfl, ?_⟩) ?_ ?_
    rotate_left
    · intro w'
      go_simp
      with_reducible rfl
    rotate_left
    · simp only [Act.put, List.setIfInBounds_toArray, List.set_cons_zero, List.set_cons_succ, i64_w, i32_w]
      rfl
    refine take_ (i := 6) (N := some 67) (v := ?_) (a' := ?_) #[true, true, true, true, true, true, true, false, true, false, true, false, false, false, false, false, false, false, false, false, false, false, false, false, false, false, false, false] rfl rfl (by kernel_rfl) (fun _ _ _ h => h) (Or.inl ⟨by rfl, ?_⟩) hHeld ?_ ?_
    rotate_left
    · rintro w' ⟨s0, s1, s2, s3, s4⟩
      go_simp
      with_reducible rfl
    rotate_left
    · simp only [Act.put, List.setIfInBounds_toArray, List.set_cons_zero, List.set_cons_succ, i64_w, i32_w]
      rfl
    refine pure_ (i := 7) (N := some 68) (v := ?_) (a' := ?_) #[true, true, true, true, true, true, true, true, true, false, true, false, false, false, false, false, false, false, false, false, false, false, false, false, false, false, false, false] rfl rfl (by kernel_rfl) (fun _ _ _ h => h) (Or.inl ⟨by rfl, ?_⟩) ?_ ?_
    rotate_left
    · intro w'
      go_simp
      with_reducible rfl
    rotate_left
    · simp only [Act.put, List.setIfInBounds_toArray, List.set_cons_zero, List.set_cons_succ, i64_w, i32_w]
      rfl
    refine take_ (i := 9) (N := some 70) (v := ?_) (a' := ?_) #[true, true, true, true, true, true, true, true, true, true, true, false, false, false, false, false, false, false, false, false, false, false, false, false, false, false, false, false] rfl rfl (by kernel_rfl) (fun _ _ _ h => h) (Or.inl ⟨by rfl, ?_⟩) hHeld ?_ ?_
    rotate_left
    · rintro w' ⟨s0, s1, s2, s3, s4⟩
      go_simp
      with_reducible rfl
    rotate_left
    · simp only [Act.put, List.setIfInBounds_toArray, List.set_cons_zero, List.set_cons_succ, i64_w, i32_w]
      rfl
    refine take_ (i := 11) (N := some 72) (v := ?_) (a' := ?_) #[true, true, true, true, true, true, true, true, true, true, true, true, false, false, false, false, false, false, false, false, false, false, false, false, false, false, false, false] rfl rfl (by kernel_rfl) (fun _ _ _ h => h) (Or.inl ⟨by rfl, ?_⟩) hHeld ?_ ?_
    rotate_left
    · rintro w' ⟨s0, s1, s2, s3, s4⟩
      go_simp
      with_reducible rfl
    rotate_left
    · simp only [Act.put, List.setIfInBounds_toArray, List.set_cons_zero, List.set_cons_succ, i64_w, i32_w]
      rfl
    refine one_ (i := 12) (N := some 73) #[true, true, true, true, true, true, true, true, true, true, true, true, true, false, false, false, false, false, false, false, false, false, false, false, false, false, false, false] rfl rfl (by kernel_rfl) (by decide) (fun K hK => ?_)
    refine goes_ Tryd.func32 (by kernel_rfl) rfl #[.int .i64 x.f1, .int .i64 x.f2] (by rfl) rfl rfl (by simp only [List.map_toArray, List.map_cons, List.map_nil]; rfl) ?_
    with_reducible refine (Ls.bytes_any x.f1 x.f2 p0 (by omega) r0 (by omega) _ (HT.out.below (hb.trans (hbR.mono hb.size)))).mono ?_
    rintro e r1_ ⟨rfl, rfl⟩
    rw [bytes_same, hm.out]
    refine ⟨_, rfl, ?_⟩
    refine hK.out _ _ ⟨(hbR.cell (p := ⟨W.heap.size, 0, none⟩) l_b).trans q0, (hbR.cell (p := ⟨W.heap.size, 1, none⟩) l_b).trans q1, (hbR.cell (p := ⟨W.heap.size, 2, none⟩) l_b).trans q2, (hbR.cell (p := ⟨W.heap.size, 3, none⟩) l_b).trans q3, (hbR.cell (p := ⟨W.heap.size, 4, none⟩) l_b).trans q4⟩ (fun hHeld => ?_)
    clear hK K
    refine norm_ (a' := ?_) ?_ ?_
    rotate_left
    · show Act.put _ (some 73) _ = _
      simp only [Act.put, List.setIfInBounds_toArray, List.set_cons_zero, List.set_cons_succ, i64_w, i32_w]
      rfl
    refine pure_ (i := 13) (N := some 74) (v := ?_) (a' := ?_) #[true, true, true, true, true, true, true, true, true, true, true, true, true, true, false, false, false, false, false, false, false, false, false, false, false, false, false, false] rfl rfl (by kernel_rfl) (fun _ _ _ h => h) (Or.inl ⟨by rfl, ?_⟩) ?_ ?_
    rotate_left
    · intro w'
      go_simp
      with_reducible rfl
    rotate_left
    · simp only [Act.put, List.setIfInBounds_toArray, List.set_cons_zero, List.set_cons_succ, i64_w, i32_w]
      rfl
    refine pure_ (i := 14) (N := some 75) (v := ?_) (a' := ?_) #[true, true, true, true, true, true, true, true, true, true, true, true, true, true, true, false, false, false, false, false, false, false, false, false, false, false, false, false] rfl rfl (by kernel_rfl) (fun _ _ _ h => h) (Or.inl ⟨by rfl, ?_⟩) ?_ ?_
    rotate_left
    · intro w'
      go_simp
      with_reducible rfl
    rotate_left
    · simp only [Act.put, List.setIfInBounds_toArray, List.set_cons_zero, List.set_cons_succ, i64_w, i32_w]
      rfl
    refine pure_ (i := 15) (N := some 76) (v := ?_) (a' := ?_) #[true, true, true, true, true, true, true, true, true, true, true, true, true, true, true, true, false, false, false, false, false, false, false, false, false, false, false, false] rfl rfl (by kernel_rfl) (fun _ _ _ h => h) (Or.inl ⟨by rfl, ?_⟩) ?_ ?_
    rotate_left
    · intro w'
      go_simp
      with_reducible rfl
    rotate_left
    · simp only [Act.put, List.setIfInBounds_toArray, List.set_cons_zero, List.set_cons_succ, i64_w, i32_w]
      rfl
    refine pure_ (i := 16) (N := some 77) (v := undef) (a' := ?_) #[true, true, true, true, true, true, true, true, true, true, true, true, true, true, true, true, true, false, false, false, false, false, false, false, false, false, false, false] rfl rfl (by kernel_rfl) (fun _ _ _ h => h) (Or.inr ⟨by rfl, rfl⟩) ?_ ?_
    rotate_left
    · simp only [Act.put, List.setIfInBounds_toArray, List.set_cons_zero, List.set_cons_succ, i64_w, i32_w]
      rfl
    refine pure_ (i := 17) (N := some 78) (v := undef) (a' := ?_) #[true, true, true, true, true, true, true, true, true, true, true, true, true, true, true, true, true, true, false, false, false, false, false, false, false, false, false, false] rfl rfl (by kernel_rfl) (fun _ _ _ h => h) (Or.inr ⟨by rfl, rfl⟩) ?_ ?_
    rotate_left
    · simp only [Act.put, List.setIfInBounds_toArray, List.set_cons_zero, List.set_cons_succ, i64_w, i32_w]
      rfl
    refine pure_ (i := 18) (N := some 79) (v := undef) (a' := ?_) #[true, true, true, true, true, true, true, true, true, true, true, true, true, true, true, true, true, true, true, false, false, false, false, false, false, false, false, false] rfl rfl (by kernel_rfl) (fun _ _ _ h => h) (Or.inr ⟨by rfl, rfl⟩) ?_ ?_
    rotate_left
    · simp only [Act.put, List.setIfInBounds_toArray, List.set_cons_zero, List.set_cons_succ, i64_w, i32_w]
      rfl
    refine pure_ (i := 19) (N := some 80) (v := undef) (a' := ?_) #[true, true, true, true, true, true, true, true, true, true, true, true, true, true, true, true, true, true, true, true, false, false, false, false, false, false, false, false] rfl rfl (by kernel_rfl) (fun _ _ _ h => h) (Or.inr ⟨by rfl, rfl⟩) ?_ ?_
    rotate_left
    · simp only [Act.put, List.setIfInBounds_toArray, List.set_cons_zero, List.set_cons_succ, i64_w, i32_w]
      rfl
    refine pure_ (i := 20) (N := some 81) (v := undef) (a' := ?_) #[true, true, true, true, true, true, true, true, true, true, true, true, true, true, true, true, true, true, true, true, true, false, false, false, false, false, false, false] rfl rfl (by kernel_rfl) (fun _ _ _ h => h) (Or.inr ⟨by rfl, rfl⟩) ?_ ?_
    rotate_left
    · simp only [Act.put, List.setIfInBounds_toArray, List.set_cons_zero, List.set_cons_succ, i64_w, i32_w]
      rfl
    refine pure_ (i := 21) (N := some 82) (v := undef) (a' := ?_) #[true, true, true, true, true, true, true, true, true, true, true, true, true, true, true, true, true, true, true, true, true, true, false, false, false, false, false, false] rfl rfl (by kernel_rfl) (fun _ _ _ h => h) (Or.inr ⟨by rfl, rfl⟩) ?_ ?_
    rotate_left
    · simp only [Act.put, List.setIfInBounds_toArray, List.set_cons_zero, List.set_cons_succ, i64_w, i32_w]
      rfl
    refine pure_ (i := 22) (N := some 83) (v := undef) (a' := ?_) #[true, true, true, true, true, true, true, true, true, true, true, true, true, true, true, true, true, true, true, true, true, true, true, false, false, false, false, false] rfl rfl (by kernel_rfl) (fun _ _ _ h => h) (Or.inr ⟨by rfl, rfl⟩) ?_ ?_
    rotate_left
    · simp only [Act.put, List.setIfInBounds_toArray, List.set_cons_zero, List.set_cons_succ, i64_w, i32_w]
      rfl
    refine pure_ (i := 23) (N := some 84) (v := undef) (a' := ?_) #[true, true, true, true, true, true, true, true, true, true, true, true, true, true, true, true, true, true, true, true, true, true, true, true, false, false, false, false] rfl rfl (by kernel_rfl) (fun _ _ _ h => h) (Or.inr ⟨by rfl, rfl⟩) ?_ ?_
    rotate_left
    · simp only [Act.put, List.setIfInBounds_toArray, List.set_cons_zero, List.set_cons_succ, i64_w, i32_w]
      rfl
    refine pure_ (i := 24) (N := some 85) (v := undef) (a' := ?_) #[true, true, true, true, true, true, true, true, true, true, true, true, true, true, true, true, true, true, true, true, true, true, true, true, true, false, false, false] rfl rfl (by kernel_rfl) (fun _ _ _ h => h) (Or.inr ⟨by rfl, rfl⟩) ?_ ?_
    rotate_left
    · simp only [Act.put, List.setIfInBounds_toArray, List.set_cons_zero, List.set_cons_succ, i64_w, i32_w]
      rfl
    refine pure_ (i := 25) (N := some 86) (v := undef) (a' := ?_) #[true, true, true, true, true, true, true, true, true, true, true, true, true, true, true, true, true, true, true, true, true, true, true, true, true, true, false, false] rfl rfl (by kernel_rfl) (fun _ _ _ h => h) (Or.inr ⟨by rfl, rfl⟩) ?_ ?_
    rotate_left
    · simp only [Act.put, List.setIfInBounds_toArray, List.set_cons_zero, List.set_cons_succ, i64_w, i32_w]
      rfl
    refine pure_ (i := 26) (N := some 87) (v := ?_) (a' := ?_) #[true, true, true, true, true, true, true, true, true, true, true, true, true, true, true, true, true, true, true, true, true, true, true, true, true, true, true, false] rfl rfl (by kernel_rfl) (fun _ _ _ h => h) (Or.inl ⟨by rfl, ?_⟩) ?_ ?_
    rotate_left
    · intro w'
      go_simp
      with_reducible rfl
    rotate_left
    · simp only [Act.put, List.setIfInBounds_toArray, List.set_cons_zero, List.set_cons_succ, i64_w, i32_w]
      rfl
    refine pure_ (i := 27) (N := some 2) (v := ?_) (a' := ?_) #[true, true, true, true, true, true, true, true, true, true, true, true, true, true, true, true, true, true, true, true, true, true, true, true, true, true, true, true] rfl rfl (by kernel_rfl) (fun _ _ _ h => h) (Or.inl ⟨by rfl, ?_⟩) ?_ ?_
    rotate_left
    · intro w'
      go_simp
      with_reducible rfl
    rotate_left
    · simp only [Act.put, List.setIfInBounds_toArray, List.set_cons_zero, List.set_cons_succ, i64_w, i32_w]
      rfl
    refine done_ (by kernel_rfl) ?_
    go_wp2
    go_ret
    exact ⟨by rw [HDD.out]; rfl, hb.trans (hbR.mono hb.size)⟩
  | true =>
    have hmx : m = x.f3.length := by have := beq_iff_eq.1 b2; omega
    have hmx' := Lib.hid hmx
    have HDD : Hid (listV x = decide (rL x.f1 x.f2 x.f3 x.f3.length = x.f3)) := Lib.hid (by rw [HD1c.out, b1, hm.out, b2]; rfl)
    clear HD1c hmx
    have hA : A3 = none → x.f3.length = 0 := fun h => by
      rcases Nat.eq_zero_or_pos x.f3.length with h0 | h0
      · exact h0
      · obtain ⟨ad, e, _⟩ := H3.out.2.2 h0
        rw [h] at e
        cases e
    have hbnd : x.f3.length ≤ 140737488355328 := by have := bytesOf_le x.f1 x.f2 r0 (by omega); have := hm.out; have := hmx'.out; omega
    have hlst : Ls.trimL x.f1 x.f2 x.f3 = rL x.f1 x.f2 x.f3 x.f3.length := (rL_eq x.f1 x.f2 p0 p5 r0 x.f3 x.f3.length (by have := hm.out; have := hmx'.out; omega) (Nat.le_refl _)).symm
    obtain ⟨ys, hys⟩ : ∃ ys, rL x.f1 x.f2 x.f3 x.f3.length = ys := ⟨_, rfl⟩
    have hyl : ys.length = x.f3.length := by rw [← hys]; exact rL_length _ _ _ _
    have hyr : ∀ y ∈ ys, 0 ≤ y ∧ y ≤ 255 := by rw [← hys]; exact rL_range HX.out (Nat.le_refl _)
    have HLS := Lib.hid (hlst.trans hys)
    have HDY : Hid (listV x = decide (ys = x.f3)) := Lib.hid (by rw [HDD.out, hys])
    have HYL := Lib.hid hyl; have HYR := Lib.hid hyr
    clear HDD hlst hys hyl hyr
    go_enter Tryd.func22, Tryd.ntmps22
    go_upto_region 8 with fail
    refine wp_at (fun W1 hW => ?_)
    have hb : Below W.heap.size W W1 := by rw [hW]; exact (Below.refl _ _).alloc (Nat.le_refl _) _
    have hB : W1.heap[W.heap.size]? = some (.cells #[.int .i64 x.f0, .int .i64 x.f1, .int .i64 x.f2, .slice A3 x.f3.length c3, .slice A4 x.f4.length c4] 25 (0, 0)) := by rw [hW]; exact heap_alloc_new _ _
    clear hW
    have l_b := blk_lt hB
    have q0 : W1.cell? ⟨W.heap.size, 0, none⟩ = some (.int .i64 x.f0) := (blk_cell hB 0).trans rfl
    have q1 : W1.cell? ⟨W.heap.size, 1, none⟩ = some (.int .i64 x.f1) := (blk_cell hB 1).trans rfl
    have q2 : W1.cell? ⟨W.heap.size, 2, none⟩ = some (.int .i64 x.f2) := (blk_cell hB 2).trans rfl
    have q3 : W1.cell? ⟨W.heap.size, 3, none⟩ = some (.slice A3 x.f3.length c3) := (blk_cell hB 3).trans rfl
    have q4 : W1.cell? ⟨W.heap.size, 4, none⟩ = some (.slice A4 x.f4.length c4) := (blk_cell hB 4).trans rfl
    clear hB
    have HRd := Lib.hid (Rd_of_C H3.out HX.out)
    refine start_ (n := 28) (S := fun w' => w'.cell? ⟨W.heap.size, 0, none⟩ = some (.int .i64 x.f0) ∧ w'.cell? ⟨W.heap.size, 1, none⟩ = some (.int .i64 x.f1) ∧ w'.cell? ⟨W.heap.size, 2, none⟩ = some (.int .i64 x.f2) ∧ w'.cell? ⟨W.heap.size, 3, none⟩ = some (.slice A3 x.f3.length c3) ∧ w'.cell? ⟨W.heap.size, 4, none⟩ = some (.slice A4 x.f4.length c4)) (ds := []) #[false, false, false, false, false, false, false, false, false, false, false, false, false, false, false, false, false, false, false, false, false, false, false, false, false, false, false, false] (by kernel_rfl) rfl rfl ⟨q0, q1, q2, q3, q4⟩ (fun hHeld => ?_)
    obtain ⟨wd, hwd⟩ : ∃ W', W' = W1.drew := ⟨_, rfl⟩
    rw [← hwd] at hHeld ⊢
    have hbR : Below W1.heap.size W1 wd := by rw [hwd]; exact (Below.refl _ _).drew
    clear hwd
    refine pure_ (i := 0) (N := some 61) (v := ?_) (a' := ?_) #[true, false, false, false, false, false, false, false, false, false, false, false, false, false, false, false, false, false, false, false, false, false, false, false, false, false, false, false] rfl rfl (by kernel_rfl) (fun _ _ _ h => h) (Or.inl ⟨by rfl, ?_⟩) ?_ ?_
    rotate_left
    · intro w'
      go_simp
      with_reducible rfl
    rotate_left
    · simp only [Act.put, List.setIfInBounds_toArray, List.set_cons_zero, List.set_cons_succ, i64_w, i32_w]
      rfl
    refine take_ (i := 1) (N := some 62) (v := ?_) (a' := ?_) #[true, true, false, false, false, false, false, false, false, false, false, false, false, false, false, false, false, false, false, false, false, false, false, false, false, false, false, false] rfl rfl (by kernel_rfl) (fun _ _ _ h => h) (Or.inl ⟨by rfl, ?_⟩) hHeld ?_ ?_
    rotate_left
    · rintro w' ⟨s0, s1, s2, s3, s4⟩
      go_simp
      with_reducible rfl
    rotate_left
    · simp only [Act.put, List.setIfInBounds_toArray, List.set_cons_zero, List.set_cons_succ, i64_w, i32_w]
      rfl
    refine pure_ (i := 2) (N := some 63) (v := ?_) (a' := ?_) #[true, true, true, false, false, false, false, false, false, false, false, false, false, false, false, false, false, false, false, false, false, false, false, false, false, false, false, false] rfl rfl (by kernel_rfl) (fun _ _ _ h => h) (Or.inl ⟨by rfl, ?_⟩) ?_ ?_
    rotate_left
    · intro w'
      go_simp
      with_reducible rfl
    rotate_left
    · simp only [Act.put, List.setIfInBounds_toArray, List.set_cons_zero, List.set_cons_succ, i64_w, i32_w]
      rfl
    refine pure_ (i := 3) (N := some 64) (v := ?_) (a' := ?_) #[true, true, true, true, false, false, false, false, false, false, false, false, false, false, false, false, false, false, false, false, false, false, false, false, false, false, false, false] rfl rfl (by kernel_rfl) (fun _ _ _ h => h) (Or.inl ⟨by rfl, ?_⟩) ?_ ?_
    rotate_left
    · intro w'
      go_simp
      with_reducible rfl
    rotate_left
    · simp only [Act.put, List.setIfInBounds_toArray, List.set_cons_zero, List.set_cons_succ, i64_w, i32_w]
      rfl
    refine pure_ (i := 4) (N := some 65) (v := ?_) (a' := ?_) #[true, true, true, true, true, false, false, false, false, false, false, false, false, false, false, false, false, false, false, false, false, false, false, false, false, false, false, false] rfl rfl (by kernel_rfl) (fun _ _ _ h => h) (Or.inl ⟨by rfl, ?_⟩) ?_ ?_
    rotate_left
    · intro w'
      go_simp
      with_reducible rfl
    rotate_left
    · simp only [Act.put, List.setIfInBounds_toArray, List.set_cons_zero, List.set_cons_succ, i64_w, i32_w]
      rfl
    refine pure_ (i := 5) (N := some 66) (v := ?_) (a' := ?_) #[true, true, true, true, true, true, false, false, false, false, false, false, false, false, false, false, false, false, false, false, false, false, false, false, false, false, false, false] rfl rfl (by kernel_rfl) (fun _ _ _ h => h) (Or.inl ⟨by rfl, ?_⟩) ?_ ?_
    rotate_left
    · intro w'
      go_simp
      with_reducible rfl
    rotate_left
    · simp only [Act.put, List.setIfInBounds_toArray, List.set_cons_zero, List.set_cons_succ, i64_w, i32_w]
      rfl
    refine pure_ (i := 8) (N := some 69) (v := ?_) (a' := ?_) #[true, true, true, true, true, true, false, false, true, false, false, false, false, false, false, false, false, false, false, false, false, false, false, false, false, false, false, false] rfl rfl (by kernel_rfl) (fun _ _ _ h => h) (Or.inl ⟨by rfl, ?_⟩) ?_ ?_
    rotate_left
    · intro w'
      go_simp
      with_reducible rfl
    rotate_left
    · simp only [Act.put, List.setIfInBounds_toArray, List.set_cons_zero, List.set_cons_succ, i64_w, i32_w]
      rfl
    refine pure_ (i := 10) (N := some 71) (v := ?_) (a' := ?_) #[true, true, true, true, true, true, false, false, true, false, true, false, false, false, false, false, false, false, false, false, false, false, false, false, false, false, false, false] rfl rfl (by kernel_rfl) (fun _ _ _ h => h) (Or.inl ⟨by rfl, ?_⟩) ?_ ?_
    rotate_left
    · intro w'
      go_simp
      with_reducible rfl
    rotate_left
    · simp only [Act.put, List.setIfInBounds_toArray, List.set_cons_zero, List.set_cons_succ, i64_w, i32_w]
      rfl
    refine take_ (i := 6) (N := some 67) (v := ?_) (a' := ?_) #[true, true, true, true, true, true, true, false, true, false, true, false, false, false, false, false, false, false, false, false, false, false, false, false, false, false, false, false] rfl rfl (by kernel_rfl) (fun _ _ _ h => h) (Or.inl ⟨by rfl, ?_⟩) hHeld ?_ ?_
    rotate_left
    · rintro w' ⟨s0, s1, s2, s3, s4⟩
      go_simp
      with_reducible rfl
    rotate_left
    · simp only [Act.put, List.setIfInBounds_toArray, List.set_cons_zero, List.set_cons_succ, i64_w, i32_w]
      rfl
    refine pure_ (i := 7) (N := some 68) (v := ?_) (a' := ?_) #[true, true, true, true, true, true, true, true, true, false, true, false, false, false, false, false, false, false, false, false, false, false, false, false, false, false, false, false] rfl rfl (by kernel_rfl) (fun _ _ _ h => h) (Or.inl ⟨by rfl, ?_⟩) ?_ ?_
    rotate_left
    · intro w'
      go_simp
      with_reducible rfl
    rotate_left
    · simp only [Act.put, List.setIfInBounds_toArray, List.set_cons_zero, List.set_cons_succ, i64_w, i32_w]
      rfl
    refine take_ (i := 9) (N := some 70) (v := ?_) (a' := ?_) #[true, true, true, true, true, true, true, true, true, true, true, false, false, false, false, false, false, false, false, false, false, false, false, false, false, false, false, false] rfl rfl (by kernel_rfl) (fun _ _ _ h => h) (Or.inl ⟨by rfl, ?_⟩) hHeld ?_ ?_
    rotate_left
    · rintro w' ⟨s0, s1, s2, s3, s4⟩
      go_simp
      with_reducible rfl
    rotate_left
    · simp only [Act.put, List.setIfInBounds_toArray, List.set_cons_zero, List.set_cons_succ, i64_w, i32_w]
      rfl
    refine take_ (i := 11) (N := some 72) (v := ?_) (a' := ?_) #[true, true, true, true, true, true, true, true, true, true, true, true, false, false, false, false, false, false, false, false, false, false, false, false, false, false, false, false] rfl rfl (by kernel_rfl) (fun _ _ _ h => h) (Or.inl ⟨by rfl, ?_⟩) hHeld ?_ ?_
    rotate_left
    · rintro w' ⟨s0, s1, s2, s3, s4⟩
      go_simp
      with_reducible rfl
    rotate_left
    · simp only [Act.put, List.setIfInBounds_toArray, List.set_cons_zero, List.set_cons_succ, i64_w, i32_w]
      rfl
    refine one_ (i := 12) (N := some 73) #[true, true, true, true, true, true, true, true, true, true, true, true, true, false, false, false, false, false, false, false, false, false, false, false, false, false, false, false] rfl rfl (by kernel_rfl) (by decide) (fun K hK => ?_)
    refine goes_ Tryd.func32 (by kernel_rfl) rfl #[.int .i64 x.f1, .int .i64 x.f2] (by rfl) rfl rfl (by simp only [List.map_toArray, List.map_cons, List.map_nil]; rfl) ?_
    with_reducible refine (Ls.bytes_any x.f1 x.f2 p0 (by omega) r0 (by omega) _ (HT.out.below (hb.trans (hbR.mono hb.size)))).mono ?_
    rintro e r1_ ⟨rfl, rfl⟩
    rw [bytes_same, hm.out]
    refine ⟨_, rfl, ?_⟩
    refine hK.out _ _ ⟨(hbR.cell (p := ⟨W.heap.size, 0, none⟩) l_b).trans q0, (hbR.cell (p := ⟨W.heap.size, 1, none⟩) l_b).trans q1, (hbR.cell (p := ⟨W.heap.size, 2, none⟩) l_b).trans q2, (hbR.cell (p := ⟨W.heap.size, 3, none⟩) l_b).trans q3, (hbR.cell (p := ⟨W.heap.size, 4, none⟩) l_b).trans q4⟩ (fun hHeld => ?_)
    clear hK K
    refine norm_ (a' := ?_) ?_ ?_
    rotate_left
    · show Act.put _ (some 73) _ = _
      simp only [Act.put, List.setIfInBounds_toArray, List.set_cons_zero, List.set_cons_succ, i64_w, i32_w]
      rfl
    refine pure_ (i := 13) (N := some 74) (v := ?_) (a' := ?_) #[true, true, true, true, true, true, true, true, true, true, true, true, true, true, false, false, false, false, false, false, false, false, false, false, false, false, false, false] rfl rfl (by kernel_rfl) (fun _ _ _ h => h) (Or.inl ⟨by rfl, ?_⟩) ?_ ?_
    rotate_left
    · intro w'
      go_simp
      with_reducible rfl
    rotate_left
    · simp only [Act.put, List.setIfInBounds_toArray, List.set_cons_zero, List.set_cons_succ, i64_w, i32_w]
      rfl
    refine pure_ (i := 14) (N := some 75) (v := ?_) (a' := ?_) #[true, true, true, true, true, true, true, true, true, true, true, true, true, true, true, false, false, false, false, false, false, false, false, false, false, false, false, false] rfl rfl (by kernel_rfl) (fun _ _ _ h => h) (Or.inl ⟨by rfl, ?_⟩) ?_ ?_
    rotate_left
    · intro w'
      go_simp
      with_reducible rfl
    rotate_left
    · simp only [Act.put, List.setIfInBounds_toArray, List.set_cons_zero, List.set_cons_succ, i64_w, i32_w]
      rfl
    refine pure_ (i := 15) (N := some 76) (v := ?_) (a' := ?_) #[true, true, true, true, true, true, true, true, true, true, true, true, true, true, true, true, false, false, false, false, false, false, false, false, false, false, false, false] rfl rfl (by kernel_rfl) (fun _ _ _ h => h) (Or.inl ⟨by rfl, ?_⟩) ?_ ?_
    rotate_left
    · intro w'
      go_simp
      with_reducible rfl
    rotate_left
    · simp only [Act.put, List.setIfInBounds_toArray, List.set_cons_zero, List.set_cons_succ, i64_w, i32_w]
      rfl
    refine pure_ (i := 16) (N := some 77) (v := ?_) (a' := ?_) #[true, true, true, true, true, true, true, true, true, true, true, true, true, true, true, true, true, false, false, false, false, false, false, false, false, false, false, false] rfl rfl (by kernel_rfl) (fun _ _ _ h => h) (Or.inl ⟨by rfl, ?_⟩) ?_ ?_
    rotate_left
    · intro w'
      go_simp
      with_reducible rfl
    rotate_left
    · simp only [Act.put, List.setIfInBounds_toArray, List.set_cons_zero, List.set_cons_succ, i64_w, i32_w]
      rfl
    refine pure_ (i := 18) (N := some 79) (v := ?_) (a' := ?_) #[true, true, true, true, true, true, true, true, true, true, true, true, true, true, true, true, true, false, true, false, false, false, false, false, false, false, false, false] rfl rfl (by kernel_rfl) (fun _ _ _ h => h) (Or.inl ⟨by rfl, ?_⟩) ?_ ?_
    rotate_left
    · intro w'
      go_simp
      with_reducible rfl
    rotate_left
    · simp only [Act.put, List.setIfInBounds_toArray, List.set_cons_zero, List.set_cons_succ, i64_w, i32_w]
      rfl
    refine pure_ (i := 20) (N := some 81) (v := ?_) (a' := ?_) #[true, true, true, true, true, true, true, true, true, true, true, true, true, true, true, true, true, false, true, false, true, false, false, false, false, false, false, false] rfl rfl (by kernel_rfl) (fun _ _ _ h => h) (Or.inl ⟨by rfl, ?_⟩) ?_ ?_
    rotate_left
    · intro w'
      go_simp
      with_reducible rfl
    rotate_left
    · simp only [Act.put, List.setIfInBounds_toArray, List.set_cons_zero, List.set_cons_succ, i64_w, i32_w]
      rfl
    refine pure_ (i := 23) (N := some 84) (v := ?_) (a' := ?_) #[true, true, true, true, true, true, true, true, true, true, true, true, true, true, true, true, true, false, true, false, true, false, false, true, false, false, false, false] rfl rfl (by kernel_rfl) (fun _ _ _ h => h) (Or.inl ⟨by rfl, ?_⟩) ?_ ?_
    rotate_left
    · intro w'
      go_simp
      with_reducible rfl
    rotate_left
    · simp only [Act.put, List.setIfInBounds_toArray, List.set_cons_zero, List.set_cons_succ, i64_w, i32_w]
      rfl
    refine take_ (i := 17) (N := some 78) (v := ?_) (a' := ?_) #[true, true, true, true, true, true, true, true, true, true, true, true, true, true, true, true, true, true, true, false, true, false, false, true, false, false, false, false] rfl rfl (by kernel_rfl) (fun _ _ _ h => h) (Or.inl ⟨by rfl, ?_⟩) hHeld ?_ ?_
    rotate_left
    · rintro w' ⟨s0, s1, s2, s3, s4⟩
      go_simp
      with_reducible rfl
    rotate_left
    · simp only [Act.put, List.setIfInBounds_toArray, List.set_cons_zero, List.set_cons_succ, i64_w, i32_w]
      rfl
    refine take_ (i := 19) (N := some 80) (v := ?_) (a' := ?_) #[true, true, true, true, true, true, true, true, true, true, true, true, true, true, true, true, true, true, true, true, true, false, false, true, false, false, false, false] rfl rfl (by kernel_rfl) (fun _ _ _ h => h) (Or.inl ⟨by rfl, ?_⟩) hHeld ?_ ?_
    rotate_left
    · rintro w' ⟨s0, s1, s2, s3, s4⟩
      go_simp
      with_reducible rfl
    rotate_left
    · simp only [Act.put, List.setIfInBounds_toArray, List.set_cons_zero, List.set_cons_succ, i64_w, i32_w]
      rfl
    refine take_ (i := 21) (N := some 82) (v := ?_) (a' := ?_) #[true, true, true, true, true, true, true, true, true, true, true, true, true, true, true, true, true, true, true, true, true, true, false, true, false, false, false, false] rfl rfl (by kernel_rfl) (fun _ _ _ h => h) (Or.inl ⟨by rfl, ?_⟩) hHeld ?_ ?_
    rotate_left
    · rintro w' ⟨s0, s1, s2, s3, s4⟩
      go_simp
      with_reducible rfl
    rotate_left
    · simp only [Act.put, List.setIfInBounds_toArray, List.set_cons_zero, List.set_cons_succ, i64_w, i32_w]
      rfl
    refine take_ (i := 24) (N := some 85) (v := ?_) (a' := ?_) #[true, true, true, true, true, true, true, true, true, true, true, true, true, true, true, true, true, true, true, true, true, true, false, true, true, false, false, false] rfl rfl (by kernel_rfl) (fun _ _ _ h => h) (Or.inl ⟨by rfl, ?_⟩) hHeld ?_ ?_
    rotate_left
    · rintro w' ⟨s0, s1, s2, s3, s4⟩
      go_simp
      with_reducible rfl
    rotate_left
    · simp only [Act.put, List.setIfInBounds_toArray, List.set_cons_zero, List.set_cons_succ, i64_w, i32_w]
      rfl
    refine one_ (i := 22) (N := some 83) #[true, true, true, true, true, true, true, true, true, true, true, true, true, true, true, true, true, true, true, true, true, true, true, true, true, false, false, false] rfl rfl (by kernel_rfl) (by decide) (fun K hK => ?_)
    refine goes_ Tryd.func33 (by kernel_rfl) rfl #[.int .i64 x.f1, .int .i64 x.f2, .slice A3 x.f3.length c3] (by rfl) rfl rfl (by simp only [List.map_toArray, List.map_cons, List.map_nil]; rfl) ?_
    with_reducible refine (Ls.trim_any x.f1 x.f2 p0 p5 r0 (by omega) A3 x.f3.length c3 x.f3 _ (HT.out.below (hb.trans (hbR.mono hb.size))) hbnd hA l3 (HRd.out.below (hb.trans (hbR.mono hb.size))) x.f3.length (by rw [bytes_same, hm.out, hmx'.out]) (Nat.le_refl _)).mono ?_
    rintro e r2_ ⟨⟨v, rfl, hown⟩, hb2⟩
    rw [HLS.out] at hown
    obtain ⟨B3, d3, rfl, hd3, hC⟩ := own_reads hown HYL.out
    replace hbR := hbR.trans (hb2.mono hbR.size)
    have HC := Lib.hid hC
    clear hC hown hb2
    refine ⟨_, rfl, ?_⟩
    refine hK.out _ _ ⟨(hbR.cell (p := ⟨W.heap.size, 0, none⟩) l_b).trans q0, (hbR.cell (p := ⟨W.heap.size, 1, none⟩) l_b).trans q1, (hbR.cell (p := ⟨W.heap.size, 2, none⟩) l_b).trans q2, (hbR.cell (p := ⟨W.heap.size, 3, none⟩) l_b).trans q3, (hbR.cell (p := ⟨W.heap.size, 4, none⟩) l_b).trans q4⟩ (fun hHeld => ?_)
    clear hK K
    refine norm_ (a' := ?_) ?_ ?_
    rotate_left
    · show Act.put _ (some 83) _ = _
      simp only [Act.put, List.setIfInBounds_toArray, List.set_cons_zero, List.set_cons_succ, i64_w, i32_w]
      rfl
    refine one_ (i := 25) (N := some 86) #[true, true, true, true, true, true, true, true, true, true, true, true, true, true, true, true, true, true, true, true, true, true, true, true, true, true, false, false] rfl rfl (by kernel_rfl) (by decide) (fun K hK => ?_)
    refine goes_ Tryd.func26 (by kernel_rfl) rfl #[.slice B3 ys.length d3, .slice A3 x.f3.length c3] (by rfl) rfl rfl (by simp only [List.map_toArray, List.map_cons, List.map_nil]; rfl) ?_
    with_reducible refine (bytes_Equal.calls B3 d3 ys A3 c3 x.f3 (decide (ys = x.f3)) _ HC.out hd3 (Kd.C_below H3.out (hb.trans (hbR.mono hb.size))) l3 (by unfold bytes_Equal.f; rw [same_bytes HYR.out HX.out])).mono ?_
    rintro e r3_ ⟨rfl, hb3⟩
    replace hbR := hbR.trans (hb3.below.mono hbR.size)
    clear hb3
    refine ⟨_, rfl, ?_⟩
    refine hK.out _ _ ⟨(hbR.cell (p := ⟨W.heap.size, 0, none⟩) l_b).trans q0, (hbR.cell (p := ⟨W.heap.size, 1, none⟩) l_b).trans q1, (hbR.cell (p := ⟨W.heap.size, 2, none⟩) l_b).trans q2, (hbR.cell (p := ⟨W.heap.size, 3, none⟩) l_b).trans q3, (hbR.cell (p := ⟨W.heap.size, 4, none⟩) l_b).trans q4⟩ (fun hHeld => ?_)
    clear hK K
    refine norm_ (a' := ?_) ?_ ?_
    rotate_left
    · show Act.put _ (some 86) _ = _
      simp only [Act.put, List.setIfInBounds_toArray, List.set_cons_zero, List.set_cons_succ, i64_w, i32_w]
      rfl
    refine pure_ (i := 26) (N := some 87) (v := ?_) (a' := ?_) #[true, true, true, true, true, true, true, true, true, true, true, true, true, true, true, true, true, true, true, true, true, true, true, true, true, true, true, false] rfl rfl (by kernel_rfl) (fun _ _ _ h => h) (Or.inl ⟨by rfl, ?_⟩) ?_ ?_
    rotate_left
    · intro w'
      go_simp
      with_reducible rfl
    rotate_left
    · simp only [Act.put, List.setIfInBounds_toArray, List.set_cons_zero, List.set_cons_succ, i64_w, i32_w]
      rfl
    refine pure_ (i := 27) (N := some 2) (v := ?_) (a' := ?_) #[true, true, true, true, true, true, true, true, true, true, true, true, true, true, true, true, true, true, true, true, true, true, true, true, true, true, true, true] rfl rfl (by kernel_rfl) (fun _ _ _ h => h) (Or.inl ⟨by rfl, ?_⟩) ?_ ?_
    rotate_left
    · intro w'
      go_simp
      with_reducible rfl
    rotate_left
    · simp only [Act.put, List.setIfInBounds_toArray, List.set_cons_zero, List.set_cons_succ, i64_w, i32_w]
      rfl
    refine done_ (by kernel_rfl) ?_
    go_wp2
    go_ret
    exact ⟨by rw [HDY.out]; rfl, hb.trans (hbR.mono hb.size)⟩
end Go.Proofs.YtmbockhcmhghlaaDoor.Pr
end
section
namespace Go.Proofs.YtmbockhcmhghlaaDoor.Pr
open Go.RowKit Go.Proofs.YtmbockhcmhghlaaDoorW.PrintWords Go.Proofs.YtmbockhcmhghlaaDoorW.PrintLast Go.Proofs.YtmbockhcmhghlaaDoorW.PrintMore
set_option linter.unusedVariables false
set_option linter.unusedSimpArgs false
theorem tvalids_false : ∀ l : List S25, tvalids false l = l.all tvalid
  | [] => rfl
  | x :: l => by simp [tvalids, tvalids_false l]
theorem tvalids_true : ∀ l : List S25, tvalids true l = l.all (fun k => tvalid k && (k.f0 == 1))
  | [] => rfl
  | x :: l => by simp [tvalids, tvalids_true l, bne]
theorem tvalid_struct (x : S25) (h : x.f0 = 1) : tvalid x = structV x := by
  rw [tvalid_eq]
  unfold topV structV
  rw [h, if_neg (by decide), if_pos rfl]
  simp only [show ((1 : Int) == 2) = false from rfl, Bool.false_and, tvalids_false]
  cases x.f4.all tvalid <;> simp
theorem elem_same (k : S25) : elemV k = (tvalid k && (k.f0 == 1)) := by
  unfold elemV
  by_cases h : k.f0 = 1
  · rw [tvalid_struct k h, h]; cases structV k <;> rfl
  · have : (k.f0 == 1) = false := beq_eq_false_iff_ne.2 h
    rw [this]; simp
theorem all_elem (l : List S25) : l.all elemV = tvalids true l := by
  rw [tvalids_true]
  congr 1
  funext k
  exact elem_same k
theorem tvalid_list (x : S25) (h : x.f0 = 2) : tvalid x = listV x := by
  rw [tvalid_eq]
  unfold topV listV
  rw [h, if_neg (by decide), if_neg (by decide), if_pos rfl]
  by_cases hb : x.f2 < 0 ∨ 536870911 < x.f2 ∨ x.f1 < 0 ∨ 7 < x.f1
  · rw [if_pos hb, if_pos hb]; simp
  · rw [if_neg hb, if_neg hb]
    by_cases h6 : x.f1 = 6
    · rw [if_pos h6, if_pos (by omega), h6]
      rw [show ((2 : Int) == 2 && (6 : Int) == 7) = false from rfl, tvalids_false]
      cases x.f4.all tvalid <;> simp
    · rw [if_neg h6]
      by_cases h7 : x.f1 = 7
      · rw [if_pos h7, if_pos (by omega), h7]
        rw [show ((2 : Int) == 2 && (7 : Int) == 7) = true from rfl, ← all_elem]
        cases x.f4.all elemV <;> simp
      · have e7 : (x.f1 == 7) = false := beq_eq_false_iff_ne.2 h7
        rw [if_neg h7, if_neg (by omega), e7, Bool.and_false, tvalids_false]
        by_cases h4 : x.f4.length = 0
        · have e4 : ((x.f4.length : Int) == 0) = true := by rw [beq_iff_eq]; omega
          have e5 : x.f4.all tvalid = true := by rw [List.length_eq_zero_iff.1 h4]; rfl
          rw [e4, e5]
          by_cases h3 : (x.f3.length : Int) = bytesOf x.f1 x.f2
          · rw [if_neg (by rintro (h | h); exact h h4; exact h h3), beq_iff_eq.2 h3]; rfl
          · rw [if_pos (.inr h3), beq_eq_false_iff_ne.2 h3]; rfl
        · have e4 : ((x.f4.length : Int) == 0) = false := by rw [beq_eq_false_iff_ne]; omega
          rw [e4, if_pos (.inl h4)]; simp
theorem tvalid_null (x : S25) (h : x.f0 = 0) : tvalid x = ((x.f1 == 0) && ((x.f2 == 0) && (((x.f3.length : Int) == 0) && ((x.f4.length : Int) == 0)))) := by
  rw [tvalid_eq]
  unfold topV
  rw [h, if_pos rfl]
  simp only [show ((0 : Int) == 2) = false from rfl, Bool.false_and, tvalids_false]
  by_cases h4 : x.f4.length = 0
  · rw [List.length_eq_zero_iff.1 h4]; rfl
  · have e4 : ((x.f4.length : Int) == 0) = false := by rw [beq_eq_false_iff_ne]; omega
    rw [e4]; simp
theorem tvalid_other (x : S25) (h0 : ¬ x.f0 = 0) (h1 : ¬ x.f0 = 1) (h2 : ¬ x.f0 = 2) : tvalid x = false := by
  rw [tvalid_eq]
  unfold topV
  rw [if_neg h0, if_neg h1, if_neg h2]; simp
set_option maxHeartbeats 2000000 in
theorem valid_step (x : S25) (hS : NodeC 21 (structV x) x) (hL : NodeC 22 (listV x) x) : NodeC 10 (tvalid x) x := by
  intro A3 c3 A4 c4 W h3 l3 h4 l4 ht
  have H3 := Lib.hid h3; have H4 := Lib.hid h4; have HT := Lib.hid ht; have HS := Lib.hid hS; have HL := Lib.hid hL
  have hm3 : x.f3.length ≤ 9223372036854775807 := h3.2.1
  have hm4 : x.f4.length ≤ 9223372036854775807 := h4.2.1
  clear h3 h4 ht hS hL
  by_cases k0 : x.f0 = 0
  · have HD := Lib.hid (tvalid_null x k0)
    have g0 : (x.f0 == 0) = true := beq_iff_eq.2 k0
    clear k0
    cases b1 : (x.f1 == 0) with
    | false =>
      have HDD : Hid (tvalid x = false) := Lib.hid (by rw [HD.out, b1]; rfl)
      clear HD
      go_enter Tryd.func10, Tryd.ntmps10
      go_wp2
      go_ret
      exact ⟨by rw [HDD.out]; rfl, (Below.refl _ _).alloc (Nat.le_refl _) _⟩
    | true =>
    cases b2 : (x.f2 == 0) with
    | false =>
      have HDD : Hid (tvalid x = false) := Lib.hid (by rw [HD.out, b1, b2]; rfl)
      clear HD
      go_enter Tryd.func10, Tryd.ntmps10
      go_wp2
      go_ret
      exact ⟨by rw [HDD.out]; rfl, (Below.refl _ _).alloc (Nat.le_refl _) _⟩
    | true =>
    cases b3 : ((x.f3.length : Int) == 0) with
    | false =>
      have HDD : Hid (tvalid x = false) := Lib.hid (by rw [HD.out, b1, b2, b3]; rfl)
      clear HD
      go_enter Tryd.func10, Tryd.ntmps10
      go_wp2
      go_ret
      exact ⟨by rw [HDD.out]; rfl, (Below.refl _ _).alloc (Nat.le_refl _) _⟩
    | true =>
    cases b4 : ((x.f4.length : Int) == 0)
    all_goals
      have HDD : Hid (tvalid x = _) := Lib.hid (HD.out.trans (by rw [b1, b2, b3, b4]))
      clear HD
      go_enter Tryd.func10, Tryd.ntmps10
      go_wp2
      go_ret
      exact ⟨by rw [HDD.out]; rfl, (Below.refl _ _).alloc (Nat.le_refl _) _⟩
  · have g0 : (x.f0 == 0) = false := beq_eq_false_iff_ne.2 k0
    by_cases k1 : x.f0 = 1
    · have HD := Lib.hid (tvalid_struct x k1)
      have g1 : (x.f0 == 1) = true := beq_iff_eq.2 k1
      clear k1 k0
      go_enter Tryd.func10, Tryd.ntmps10
      go_wp2_with fail
      refine calls_at (fun W1 hW => ?_)
      have hb : Below W.heap.size W W1 := by rw [hW]; exact (Below.refl _ _).alloc (Nat.le_refl _) _
      clear hW
      refine (HS.out _ _ _ _ W1 (Kd.C_below H3.out hb) l3 (Kd.C_below H4.out hb) l4 (HT.out.below hb)).mono ?_
      rintro e w1 ⟨rfl, hb1⟩
      go_wp2
      go_ret
      exact ⟨by rw [HD.out]; rfl, hb.trans (hb1.mono hb.size)⟩
    · have g1 : (x.f0 == 1) = false := beq_eq_false_iff_ne.2 k1
      by_cases k2 : x.f0 = 2
      · have HD := Lib.hid (tvalid_list x k2)
        have g2 : (x.f0 == 2) = true := beq_iff_eq.2 k2
        clear k2 k1 k0
        go_enter Tryd.func10, Tryd.ntmps10
        go_wp2_with fail
        refine calls_at (fun W1 hW => ?_)
        have hb : Below W.heap.size W W1 := by rw [hW]; exact (Below.refl _ _).alloc (Nat.le_refl _) _
        clear hW
        refine (HL.out _ _ _ _ W1 (Kd.C_below H3.out hb) l3 (Kd.C_below H4.out hb) l4 (HT.out.below hb)).mono ?_
        rintro e w1 ⟨rfl, hb1⟩
        go_wp2
        go_ret
        exact ⟨by rw [HD.out]; rfl, hb.trans (hb1.mono hb.size)⟩
      · have HD := Lib.hid (tvalid_other x k0 k1 k2)
        have g2 : (x.f0 == 2) = false := beq_eq_false_iff_ne.2 k2
        clear k2 k1 k0
        go_enter Tryd.func10, Tryd.ntmps10
        go_wp2
        go_ret
        exact ⟨by rw [HD.out]; rfl, (Below.refl _ _).alloc (Nat.le_refl _) _⟩
theorem valid_both : ∀ (n : Nat) (x : S25), tsize x ≤ n → okT x → NodeC 10 (tvalid x) x ∧ NodeC 21 (structV x) x
  | 0, x, h, _ => by have := tsize_eq x; omega
  | n + 1, x, h, hok => by
    have hk : ∀ y ∈ x.f4, NodeC 10 (tvalid y) y ∧ NodeC 21 (structV y) y := fun y hy => valid_both n y (by have := tsize_kid hy; omega) (hok.kids y hy)
    have hS := structure_any x fun y hy => (hk y hy).1
    exact ⟨valid_step x hS (list_any x (fun y hy => (hk y hy).1) (fun y hy => element_any y (hk y hy).2) hok.here), hS⟩
end Go.Proofs.YtmbockhcmhghlaaDoor.Pr
end
section
namespace Go.Proofs.YtmbockhcmhghlaaDoor.Pr
open Go.RowKit Go.Shelf Go.Proofs.YtmbockhcmhghlaaDoorW.PrintWords Go.Proofs.YtmbockhcmhghlaaDoorW.PrintLast Go.Proofs.YtmbockhcmhghlaaDoorW.PrintMore
set_option linter.unusedVariables false
set_option linter.unusedSimpArgs false
attribute [local go_sem] Oper.semAt_some
def NodeI (f : FuncId) (b : Nat) (x : S25) : Prop := ∀ (A3 : Option Addr) (c3 : Nat) (A4 : Option Addr) (c4 : Nat) (W : World), Kd.C (Kd.int .u8) W A3 x.f3.length x.f3 → x.f3.length ≤ c3 → Kd.C k25 W A4 x.f4.length x.f4 → x.f4.length ≤ c4 →
  Calls Tryd.prog f #[.agg #[.int .i64 x.f0, .int .i64 x.f1, .int .i64 x.f2, .slice A3 x.f3.length c3, .slice A4 x.f4.length c4]] W fun e w' => e = .returned (.int .i64 (b : Int)) ∧ Below W.heap.size W w'
theorem targets_is (n : Nat) (v0 v1 v2 v3 v4 : Value) (w : World) :
    CallsIn Fence.wide n Tryd.prog 28 #[.agg #[v0, v1, v2, v3, v4]] w fun e w' => e = .returned (.func (.func 35) #[] #[.pointer (some ⟨w.heap.size, 0, none⟩)]) ∧ w' = w.alloc (.cells #[v0, v1, v2, v3, v4] 25) := by
  refine callsIn_of_wp Tryd.func28 rfl trivial ?_ rfl
  simp only [Tryd.ntmps28, List.size_toArray, List.length_cons, List.length_nil, Nat.reduceAdd, Nat.reduceSub, Array.replicate_succ, Array.replicate_zero, List.push_toArray, List.append_toArray, List.nil_append, List.cons_append]
  gi_wp2
  go_ret
  exact ⟨rfl, rfl⟩
def elX {w : World} {T : List S25} (l : List (Els w T)) : List S25 := l.map (fun y => y.1.x)
theorem elX_snoc {w : World} {T : List S25} (l : List (Els w T)) (y : Els w T) : elX (l ++ [y]) = elX l ++ [y.1.x] := by unfold elX; rw [List.map_append]; rfl
theorem targets_stops (n : Nat) (hn : 1 ≤ n) (Bn : Nat) (w w1 : World) (x : S25) (A3 : Option Addr) (c3 : Nat) (A4 : Option Addr) (c4 : Nat) (hv : x.f1 = 7 → x.f0 = 2) (hC : Kd.C k25 w A4 x.f4.length x.f4) (hb : Below w.heap.size w w1)
    (hB : w1.heap[Bn]? = some (.cells #[.int .i64 x.f0, .int .i64 x.f1, .int .i64 x.f2, .slice A3 x.f3.length c3, .slice A4 x.f4.length c4] 25 (0, 0))) :
    SeqStopsK Fence.wide n Tryd.prog 35 #[.pointer (some ⟨Bn, 0, none⟩)] (fun y : Els w (ttargets x) => #[y.1.enc]) (KpN w.heap.size Bn) (fun ys => elX ys = ttargets x) (fun _ => True) (ttargets x).length w1 := by
  by_cases h7 : x.f1 = 7
  · have hT : ttargets x = tkids x.f4 := by unfold ttargets; rw [if_pos ⟨hv h7, h7⟩]
    rw [hT]
    intro l J Jx W hW hJ hJx hY h0
    exact targets1_comp n hn l Bn w x A3 c3 A4 c4 (by simp [h7]) hC J Jx W hJ (hb.trans (hW.mono hb.size)) hY ((hW.block Bn (blk_lt hB)).trans hB) h0
  · have hT : ttargets x = x.f4 := by unfold ttargets; rw [if_neg (fun h => h7 h.2)]
    rw [hT]
    intro l J Jx W hW hJ hJx hY h0
    exact targets1_plain n hn l Bn w x A3 c3 A4 c4 (by simp [h7]) hC J Jx W hJ (hb.trans (hW.mono hb.size)) hY ((hW.block Bn (blk_lt hB)).trans hB) h0
theorem KpN.trans {n B : Nat} {X Y Z : World} (h : KpN n B X Y) (k : KpN n B Y Z) : KpN n B X Z := ⟨h.1.trans k.1, k.2.trans h.2⟩
theorem KpN.box {n B : Nat} {w1 : World} (hn : n ≤ w1.heap.size) (hB : B < w1.heap.size) (W : World) (l : Nat) (o o' : Obj) (hl : w1.heap.size ≤ l) (ho : W.heap[l]? = some o) (hc : o.isCells = false) (hw : o.isWalk = false) : KpN n B W (W.putObj l o') :=
  ⟨belowK_b hn W l o o' hl ho hc hw, World.putObj_heap_other (fun e => by omega)⟩
set_option maxHeartbeats 2000000 in
theorem depth_null (x : S25) (h : x.f0 = 0) : NodeI 14 (tdepth x) x := by
  intro A3 c3 A4 c4 W h3 l3 h4 l4
  have hD := Lib.hid (show tdepth x = 0 by rw [tdepth_eq, if_pos h])
  have g : (x.f0 == 0) = true := beq_iff_eq.2 h
  clear h h3 h4
  go_enter Tryd.func14, Tryd.ntmps14
  go_wp2
  go_ret
  exact ⟨by rw [hD.out]; rfl, (Below.refl _ _).alloc (Nat.le_refl _) _⟩
theorem blk_own {vs : Array Value} {t : TypeId} {B : Nat} {X Y : World} {row : Option Nat} (h : X.heap[B]? = some (.cells vs t (0, 0))) (hg : X.grownBy Y row) (hr : ∀ r, row = some r → ∃ o : Obj, X.heap[r]? = some o ∧ o.isCells = false) : Y.heap[B]? = some (.cells vs t (0, 0)) :=
  (hg.block B (blk_lt h) (fun e => by obtain ⟨o, ho, hc⟩ := hr B e.symm; rw [h] at ho; cases ho; cases hc)).trans h
def dW (l : List S25) : Int := l.foldl (fun d y => max d (tdepth y : Int)) 0
theorem dW_snoc (l : List S25) (y : S25) : dW (l ++ [y]) = max (dW l) (tdepth y : Int) := by simp [dW]
theorem dW_fold : ∀ (l : List S25) (d : Int), 0 ≤ d → l.foldl (fun d y => max d (tdepth y : Int)) d = max d (tdeeps l : Int)
  | [], d, h => by simp [tdeeps]; omega
  | y :: l, d, h => by
    rw [List.foldl_cons, dW_fold l _ (by omega)]
    simp only [tdeeps]
    omega
theorem dW_eq (l : List S25) : dW l = (tdeeps l : Int) := by unfold dW; rw [dW_fold l 0 (by omega)]; omega
set_option maxRecDepth 100000 in
set_option maxHeartbeats 4000000 in
theorem depth_step (x : S25) (hv : x.f1 = 7 → x.f0 = 2) (h0 : ¬ x.f0 = 0) (hs : tsize x ≤ 4611686018427387904) (ih : ∀ y ∈ ttargets x, NodeI 14 (tdepth y) y) : NodeI 14 (tdepth x) x := by
  intro A3 c3 A4 c4 w h3 l3 h4 l4
  have H3 := Lib.hid h3; have H4 := Lib.hid h4; have IH := Lib.hid ih
  have g : (x.f0 == 0) = false := beq_eq_false_iff_ne.2 h0
  clear h3 h4 ih h0
  refine (callsIn_wide (n := 6)).1 ?_
  refine callsIn_of_wp_marks Tryd.func14 rfl trivial ?_ rfl
  simp only [Tryd.ntmps14, List.size_toArray, List.length_cons, List.length_nil, Nat.reduceAdd, Nat.reduceSub, Array.replicate_succ, Array.replicate_zero, List.push_toArray, List.append_toArray, List.nil_append, List.cons_append]
  gi_wp2_with (refine ⟨trivial, ?_⟩; gi_at_call 28; refine (targets_is _ _ _ _ _ _ _).mono ?_; rintro e w' ⟨rfl, rfl⟩)
  have bD : Boxed (((w.alloc (.cells #[.int .i64 x.f0, .int .i64 x.f1, .int .i64 x.f2, .slice A3 x.f3.length c3, .slice A4 x.f4.length c4] 25)).alloc (.cells #[.int .i64 0] 3)).alloc (.cells #[.int .i64 x.f0, .int .i64 x.f1, .int .i64 x.f2, .slice A3 x.f3.length c3, .slice A4 x.f4.length c4] 25)) (w.heap.size + 1) 3 (.int .i64 0) := by
    have := (Boxed.new (w.alloc (.cells #[.int .i64 x.f0, .int .i64 x.f1, .int .i64 x.f2, .slice A3 x.f3.length c3, .slice A4 x.f4.length c4] 25)) 3 (.int .i64 0)).alloc (.cells #[.int .i64 x.f0, .int .i64 x.f1, .int .i64 x.f2, .slice A3 x.f3.length c3, .slice A4 x.f4.length c4] 25)
    simp only [World.size_alloc] at this
    exact this
  have hB0 : Below w.heap.size w (((w.alloc (.cells #[.int .i64 x.f0, .int .i64 x.f1, .int .i64 x.f2, .slice A3 x.f3.length c3, .slice A4 x.f4.length c4] 25)).alloc (.cells #[.int .i64 0] 3)).alloc (.cells #[.int .i64 x.f0, .int .i64 x.f1, .int .i64 x.f2, .slice A3 x.f3.length c3, .slice A4 x.f4.length c4] 25)) := (((Below.refl _ w).alloc (Nat.le_refl _) _).alloc (by simp) _).alloc (by simp; omega) _
  have hsz : (((w.alloc (.cells #[.int .i64 x.f0, .int .i64 x.f1, .int .i64 x.f2, .slice A3 x.f3.length c3, .slice A4 x.f4.length c4] 25)).alloc (.cells #[.int .i64 0] 3)).alloc (.cells #[.int .i64 x.f0, .int .i64 x.f1, .int .i64 x.f2, .slice A3 x.f3.length c3, .slice A4 x.f4.length c4] 25)).heap.size = w.heap.size + 3 := by simp
  have hBn : (((w.alloc (.cells #[.int .i64 x.f0, .int .i64 x.f1, .int .i64 x.f2, .slice A3 x.f3.length c3, .slice A4 x.f4.length c4] 25)).alloc (.cells #[.int .i64 0] 3)).alloc (.cells #[.int .i64 x.f0, .int .i64 x.f1, .int .i64 x.f2, .slice A3 x.f3.length c3, .slice A4 x.f4.length c4] 25)).heap[w.heap.size + 1 + 1]? = some (.cells #[.int .i64 x.f0, .int .i64 x.f1, .int .i64 x.f2, .slice A3 x.f3.length c3, .slice A4 x.f4.length c4] 25 (0, 0)) := blk_new _ _ _ (by simp)
  obtain ⟨W0, hW0⟩ : ∃ W0, ((w.alloc (.cells #[.int .i64 x.f0, .int .i64 x.f1, .int .i64 x.f2, .slice A3 x.f3.length c3, .slice A4 x.f4.length c4] 25)).alloc (.cells #[.int .i64 0] 3)).alloc (.cells #[.int .i64 x.f0, .int .i64 x.f1, .int .i64 x.f2, .slice A3 x.f3.length c3, .slice A4 x.f4.length c4] 25) = W0 := ⟨_, rfl⟩
  rw [hW0] at bD hB0 hsz hBn ⊢
  clear hW0
  have hst := targets_stops 5 (by omega) (w.heap.size + 1 + 1) w W0 x A3 c3 A4 c4 hv H4.out hB0 hBn
  refine wpIn_rangeFunc_ownH rfl (by omega) (gf := 35) (lb := #[.pointer (some ⟨w.heap.size + 1 + 1, 0, none⟩)]) rfl trivial (enters_of Tryd.func35 (by kernel_rfl) rfl)
    hst KpN.trans (KpN.box (by omega) (by omega)) (Below.refl _ _) (fun _ => rfl)
    (fun pre W => (Boxed W (w.heap.size + 1) 3 (.int .i64 (dW (elX pre))) ∧ Below w.heap.size w W) ∧ w.heap.size + 3 ≤ W.heap.size)
    (fun _ _ _ => False)
    (OwnFrom.and (OwnFrom.and (Own.from (boxed_own _ _ _) _) (ownFrom_below (Nat.le_refl _) (by omega))) (fun s X Y row hs hg hr => Nat.le_trans hs hg.size))
    (fun _ _ _ _ _ hs _ _ => hs)
    ⟨⟨bD, hB0⟩, by omega⟩
    (fun y a' W => ∃ Bx, w.heap.size + 2 < Bx ∧ W.heap[Bx]? = some (.cells #[.int .i64 y.1.x.f0, .int .i64 y.1.x.f1, .int .i64 y.1.x.f2, .slice y.1.A3 y.1.x.f3.length y.1.c3, .slice y.1.A4 y.1.x.f4.length y.1.c4] 25 (0, 0)) ∧
      a' = { tmps := #[.agg #[.int .i64 x.f0, .int .i64 x.f1, .int .i64 x.f2, .slice A3 x.f3.length c3, .slice A4 x.f4.length c4], .pointer (some ⟨w.heap.size, 0, none⟩), .int .i64 0, .pointer (some ⟨w.heap.size + 1, 0, none⟩), .pointer (some ⟨Bx, 0, none⟩), .pointer (some ⟨w.heap.size, 0, none⟩), .int .i64 x.f0, .bool false,
        .agg #[.int .i64 x.f0, .int .i64 x.f1, .int .i64 x.f2, .slice A3 x.f3.length c3, .slice A4 x.f4.length c4], .func (.func 35) #[] #[.pointer (some ⟨w.heap.size + 1 + 1, 0, none⟩)], y.1.enc, undef, undef, undef, undef, undef, undef], defers := [] })
    (fun y a' _ X Y row hs hg hr => by obtain ⟨Bx, q1, q2, q3⟩ := hs; exact ⟨Bx, q1, blk_own q2 hg (fun r e => (hr r e).2), q3⟩)
    ?assign ?body ?done ?stop
  case assign =>
    rintro l pre y W K ⟨⟨bD1, hB1⟩, hz⟩ hK
    obtain ⟨⟨z, C3, e3, C4, e4⟩, hok, hmem⟩ := y
    gi_wp2
    exact hK _ _ ((KeepsOthers.alloc _ _).from _) ⟨(Below.refl _ W).alloc hB1.size _, Below.heap_alloc W _ _ (by omega)⟩ ⟨⟨bD1.alloc _, hB1.alloc hB1.size _⟩, by simp; omega⟩ ⟨W.heap.size, by omega, heap_alloc_new _ _, rfl⟩
  case body =>
    rintro l pre y a' W hl ⟨r, hr⟩ ⟨⟨bD1, hB1⟩, hz⟩ ⟨Bx, hBx, bX, rfl⟩ hlt
    obtain ⟨⟨z, C3, e3, C4, e4⟩, hok, hmem⟩ := y
    dsimp only at bX
    have d1 : 1 ≤ 6 - 1 - 1 := by omega
    have hmx : Tryd.prog.follows .mixedOrders = true := by kernel_rfl
    obtain ⟨q, hq⟩ : ∃ q, Hid (dW (elX pre) = q) := ⟨_, Lib.hid rfl⟩
    rw [hq.out] at bD1
    have cD := bD1.cell
    have fD := bD1.frozen
    have x0 : W.cell? ⟨Bx, 0, none⟩ = some (.int .i64 z.f0) := (blk_cell bX 0).trans rfl
    have x1 : W.cell? ⟨Bx, 1, none⟩ = some (.int .i64 z.f1) := (blk_cell bX 1).trans rfl
    have x2 : W.cell? ⟨Bx, 2, none⟩ = some (.int .i64 z.f2) := (blk_cell bX 2).trans rfl
    have x3 : W.cell? ⟨Bx, 3, none⟩ = some (.slice C3 z.f3.length e3) := (blk_cell bX 3).trans rfl
    have x4 : W.cell? ⟨Bx, 4, none⟩ = some (.slice C4 z.f4.length e4) := (blk_cell bX 4).trans rfl
    have lD := bD1.lt
    have hbd : Below W.heap.size W W.drew := (Below.refl _ _).drew
    have hB2 : Below w.heap.size w W.drew := hB1.trans (hbd.mono hB1.size)
    have hokW := El.ok_below (n := 0) hok hB2
    have HZ := (IH.out z hmem C3 e3 C4 e4 W.drew hokW.1 hokW.2.1 hokW.2.2.1 hokW.2.2.2).mono (R' := fun e w1 => e = .returned (.int .i64 (tdepth z : Int)) ∧ Below W.heap.size W w1 ∧ Boxed w1 (w.heap.size + 1) 3 (.int .i64 q) ∧ w1.cell? ⟨w.heap.size + 1, 0, none⟩ = some (.int .i64 q) ∧ w1.frozen? ⟨w.heap.size + 1, 0, none⟩ = false)
      (fun e w1 h => by
        have hb : Below W.heap.size W w1 := hbd.trans h.2
        have hx : Boxed w1 (w.heap.size + 1) 3 (.int .i64 q) := (hb.block _ lD).trans bD1
        exact ⟨h.1, hb, hx, hx.cell, hx.frozen⟩)
    clear hokW hB2 hbd
    gi_wp2
    gi_region_with_o (refine ⟨trivial, ?_⟩; gi_at_call 14; refine (CallsIn.inRound l (callsIn_wide.2 HZ)).mono ?_; rintro e w1 ⟨rfl, hb1, bD2, cD2, fD2⟩)
    all_goals gi_wp2
    all_goals (try go_bits)
    all_goals
      refine ⟨(KeepsOthers.setCell _ _ _).from _ |> KeepsFrom.trans ⟨hb1.size, fun k o _ hk _ => (hb1.block k (Array.getElem?_eq_some_iff.1 hk).1).trans hk⟩, ⟨(hb1.mono hB1.size).setCell (p := ⟨w.heap.size + 1, 0, none⟩) (by simp) _, ?_⟩, ⟨?_, (hB1.trans (hb1.mono hB1.size)).setCell (p := ⟨w.heap.size + 1, 0, none⟩) (by simp) _⟩, ?_⟩
      · exact ((grownBy_setCell' w1 (w.heap.size + 1) _).block _ (by have := hb1.size; omega) (fun e => by injection e; omega)).trans (hb1.block _ (by omega))
      · rw [elX_snoc, dW_snoc, hq.out]
        dsimp only
        first
        | rw [show max q (tdepth z : Int) = (tdepth z : Int) by omega]; exact bD2.set _
        | rw [show max q (tdepth z : Int) = q by omega]; exact bD2.set _
      · have := hb1.size
        have h2 := (KeepsOthers.setCell w1 ⟨w.heap.size + 1, 0, none⟩ (.int .i64 q)).size
        simp
        omega
  case done =>
    rintro D ys W hD hys ⟨⟨bD1, hB1⟩, hz⟩ hK
    have cD := bD1.cell
    gi_wp2
    refine ⟨by simp, .inl ⟨_, _, rfl, run_takeDeferred hK, ?_⟩⟩
    refine ⟨_, results_tmp rfl _ _ _, ?_, hB1.trans (belowK_b (w := w) (Nat.le_refl _) W D _ _ (by omega) hK rfl rfl)⟩
    have h1 := tdepth_objs x
    have h2 := tobjs_size x
    have h3 := tdepth_eq x
    rw [if_neg (by intro h; rw [h] at g; cases g)] at h3
    show Ending.returned (.int .i64 (wrap64 (dW (ttargets x) + 1))) = _
    rw [h3, dW_eq, w64 (by omega) (by omega)]
    congr 2
    omega
  case stop =>
    rintro D c pre W _ _ h _
    exact h.elim
set_option maxHeartbeats 2000000 in
theorem objs_null (x : S25) (h : x.f0 = 0) : NodeI 16 (tobjs x) x := by
  intro A3 c3 A4 c4 W h3 l3 h4 l4
  have hD := Lib.hid (show tobjs x = 0 by rw [tobjs_eq, if_pos h])
  have g : (x.f0 == 0) = true := beq_iff_eq.2 h
  clear h h3 h4
  go_enter Tryd.func16, Tryd.ntmps16
  go_wp2
  go_ret
  exact ⟨by rw [hD.out]; rfl, (Below.refl _ _).alloc (Nat.le_refl _) _⟩
def sW (l : List S25) : Int := l.foldl (fun d y => wrap64 (d + (tobjs y : Int))) 1
theorem sW_snoc (l : List S25) (y : S25) : sW (l ++ [y]) = wrap64 (sW l + (tobjs y : Int)) := by simp [sW]
theorem sW_fold : ∀ (l : List S25) (d : Int), 0 ≤ d → d + (tobjss l : Int) ≤ 9223372036854775807 → l.foldl (fun d y => wrap64 (d + (tobjs y : Int))) d = d + (tobjss l : Int)
  | [], d, h, _ => by simp [tobjss]
  | y :: l, d, h, hb => by
    simp only [tobjss, Int.natCast_add] at hb ⊢
    rw [List.foldl_cons, w64 (by omega) (by omega), sW_fold l _ (by omega) (by omega)]
    omega
theorem sW_eq (l : List S25) (h : tobjss l ≤ 4611686018427387904) : sW l = 1 + (tobjss l : Int) := by unfold sW; rw [sW_fold l 1 (by omega) (by omega)]
set_option maxRecDepth 100000 in
set_option maxHeartbeats 4000000 in
theorem objs_step (x : S25) (hv : x.f1 = 7 → x.f0 = 2) (h0 : ¬ x.f0 = 0) (hs : tsize x ≤ 4611686018427387904) (ih : ∀ y ∈ ttargets x, NodeI 16 (tobjs y) y) : NodeI 16 (tobjs x) x := by
  intro A3 c3 A4 c4 w h3 l3 h4 l4
  have H3 := Lib.hid h3; have H4 := Lib.hid h4; have IH := Lib.hid ih
  have g : (x.f0 == 0) = false := beq_eq_false_iff_ne.2 h0
  clear h3 h4 ih h0
  refine (callsIn_wide (n := 6)).1 ?_
  refine callsIn_of_wp_marks Tryd.func16 rfl trivial ?_ rfl
  simp only [Tryd.ntmps16, List.size_toArray, List.length_cons, List.length_nil, Nat.reduceAdd, Nat.reduceSub, Array.replicate_succ, Array.replicate_zero, List.push_toArray, List.append_toArray, List.nil_append, List.cons_append]
  gi_wp2_with (refine ⟨trivial, ?_⟩; gi_at_call 28; refine (targets_is _ _ _ _ _ _ _).mono ?_; rintro e w' ⟨rfl, rfl⟩)
  have bD : Boxed (((w.alloc (.cells #[.int .i64 x.f0, .int .i64 x.f1, .int .i64 x.f2, .slice A3 x.f3.length c3, .slice A4 x.f4.length c4] 25)).alloc (.cells #[.int .i64 1] 3)).alloc (.cells #[.int .i64 x.f0, .int .i64 x.f1, .int .i64 x.f2, .slice A3 x.f3.length c3, .slice A4 x.f4.length c4] 25)) (w.heap.size + 1) 3 (.int .i64 1) := by
    have := (Boxed.new (w.alloc (.cells #[.int .i64 x.f0, .int .i64 x.f1, .int .i64 x.f2, .slice A3 x.f3.length c3, .slice A4 x.f4.length c4] 25)) 3 (.int .i64 1)).alloc (.cells #[.int .i64 x.f0, .int .i64 x.f1, .int .i64 x.f2, .slice A3 x.f3.length c3, .slice A4 x.f4.length c4] 25)
    simp only [World.size_alloc] at this
    exact this
  have hB0 : Below w.heap.size w (((w.alloc (.cells #[.int .i64 x.f0, .int .i64 x.f1, .int .i64 x.f2, .slice A3 x.f3.length c3, .slice A4 x.f4.length c4] 25)).alloc (.cells #[.int .i64 1] 3)).alloc (.cells #[.int .i64 x.f0, .int .i64 x.f1, .int .i64 x.f2, .slice A3 x.f3.length c3, .slice A4 x.f4.length c4] 25)) := (((Below.refl _ w).alloc (Nat.le_refl _) _).alloc (by simp) _).alloc (by simp; omega) _
  have hsz : (((w.alloc (.cells #[.int .i64 x.f0, .int .i64 x.f1, .int .i64 x.f2, .slice A3 x.f3.length c3, .slice A4 x.f4.length c4] 25)).alloc (.cells #[.int .i64 1] 3)).alloc (.cells #[.int .i64 x.f0, .int .i64 x.f1, .int .i64 x.f2, .slice A3 x.f3.length c3, .slice A4 x.f4.length c4] 25)).heap.size = w.heap.size + 3 := by simp
  have hBn : (((w.alloc (.cells #[.int .i64 x.f0, .int .i64 x.f1, .int .i64 x.f2, .slice A3 x.f3.length c3, .slice A4 x.f4.length c4] 25)).alloc (.cells #[.int .i64 1] 3)).alloc (.cells #[.int .i64 x.f0, .int .i64 x.f1, .int .i64 x.f2, .slice A3 x.f3.length c3, .slice A4 x.f4.length c4] 25)).heap[w.heap.size + 1 + 1]? = some (.cells #[.int .i64 x.f0, .int .i64 x.f1, .int .i64 x.f2, .slice A3 x.f3.length c3, .slice A4 x.f4.length c4] 25 (0, 0)) := blk_new _ _ _ (by simp)
  obtain ⟨W0, hW0⟩ : ∃ W0, ((w.alloc (.cells #[.int .i64 x.f0, .int .i64 x.f1, .int .i64 x.f2, .slice A3 x.f3.length c3, .slice A4 x.f4.length c4] 25)).alloc (.cells #[.int .i64 1] 3)).alloc (.cells #[.int .i64 x.f0, .int .i64 x.f1, .int .i64 x.f2, .slice A3 x.f3.length c3, .slice A4 x.f4.length c4] 25) = W0 := ⟨_, rfl⟩
  rw [hW0] at bD hB0 hsz hBn ⊢
  clear hW0
  have hst := targets_stops 5 (by omega) (w.heap.size + 1 + 1) w W0 x A3 c3 A4 c4 hv H4.out hB0 hBn
  refine wpIn_rangeFunc_ownH rfl (by omega) (gf := 35) (lb := #[.pointer (some ⟨w.heap.size + 1 + 1, 0, none⟩)]) rfl trivial (enters_of Tryd.func35 (by kernel_rfl) rfl)
    hst KpN.trans (KpN.box (by omega) (by omega)) (Below.refl _ _) (fun _ => rfl)
    (fun pre W => (Boxed W (w.heap.size + 1) 3 (.int .i64 (sW (elX pre))) ∧ Below w.heap.size w W) ∧ w.heap.size + 3 ≤ W.heap.size)
    (fun _ _ _ => False)
    (OwnFrom.and (OwnFrom.and (Own.from (boxed_own _ _ _) _) (ownFrom_below (Nat.le_refl _) (by omega))) (fun s X Y row hs hg hr => Nat.le_trans hs hg.size))
    (fun _ _ _ _ _ hs _ _ => hs)
    ⟨⟨bD, hB0⟩, by omega⟩
    (fun y a' W => ∃ Bx, w.heap.size + 2 < Bx ∧ W.heap[Bx]? = some (.cells #[.int .i64 y.1.x.f0, .int .i64 y.1.x.f1, .int .i64 y.1.x.f2, .slice y.1.A3 y.1.x.f3.length y.1.c3, .slice y.1.A4 y.1.x.f4.length y.1.c4] 25 (0, 0)) ∧
      a' = { tmps := #[.agg #[.int .i64 x.f0, .int .i64 x.f1, .int .i64 x.f2, .slice A3 x.f3.length c3, .slice A4 x.f4.length c4], .pointer (some ⟨w.heap.size, 0, none⟩), .int .i64 0, .pointer (some ⟨w.heap.size + 1, 0, none⟩), .pointer (some ⟨Bx, 0, none⟩), .pointer (some ⟨w.heap.size, 0, none⟩), .int .i64 x.f0, .bool false,
        .agg #[.int .i64 x.f0, .int .i64 x.f1, .int .i64 x.f2, .slice A3 x.f3.length c3, .slice A4 x.f4.length c4], .func (.func 35) #[] #[.pointer (some ⟨w.heap.size + 1 + 1, 0, none⟩)], y.1.enc, undef, undef, undef, undef, undef], defers := [] })
    (fun y a' _ X Y row hs hg hr => by obtain ⟨Bx, q1, q2, q3⟩ := hs; exact ⟨Bx, q1, blk_own q2 hg (fun r e => (hr r e).2), q3⟩)
    ?assign ?body ?done ?stop
  case assign =>
    rintro l pre y W K ⟨⟨bD1, hB1⟩, hz⟩ hK
    obtain ⟨⟨z, C3, e3, C4, e4⟩, hok, hmem⟩ := y
    gi_wp2
    exact hK _ _ ((KeepsOthers.alloc _ _).from _) ⟨(Below.refl _ W).alloc hB1.size _, Below.heap_alloc W _ _ (by omega)⟩ ⟨⟨bD1.alloc _, hB1.alloc hB1.size _⟩, by simp; omega⟩ ⟨W.heap.size, by omega, heap_alloc_new _ _, rfl⟩
  case body =>
    rintro l pre y a' W hl ⟨r, hr⟩ ⟨⟨bD1, hB1⟩, hz⟩ ⟨Bx, hBx, bX, rfl⟩ hlt
    obtain ⟨⟨z, C3, e3, C4, e4⟩, hok, hmem⟩ := y
    dsimp only at bX
    have d1 : 1 ≤ 6 - 1 - 1 := by omega
    have hmx : Tryd.prog.follows .mixedOrders = true := by kernel_rfl
    obtain ⟨q, hq⟩ : ∃ q, Hid (sW (elX pre) = q) := ⟨_, Lib.hid rfl⟩
    rw [hq.out] at bD1
    have cD := bD1.cell
    have fD := bD1.frozen
    have x0 : W.cell? ⟨Bx, 0, none⟩ = some (.int .i64 z.f0) := (blk_cell bX 0).trans rfl
    have x1 : W.cell? ⟨Bx, 1, none⟩ = some (.int .i64 z.f1) := (blk_cell bX 1).trans rfl
    have x2 : W.cell? ⟨Bx, 2, none⟩ = some (.int .i64 z.f2) := (blk_cell bX 2).trans rfl
    have x3 : W.cell? ⟨Bx, 3, none⟩ = some (.slice C3 z.f3.length e3) := (blk_cell bX 3).trans rfl
    have x4 : W.cell? ⟨Bx, 4, none⟩ = some (.slice C4 z.f4.length e4) := (blk_cell bX 4).trans rfl
    have lD := bD1.lt
    have hbd : Below W.heap.size W W.drew := (Below.refl _ _).drew
    have hB2 : Below w.heap.size w W.drew := hB1.trans (hbd.mono hB1.size)
    have hokW := El.ok_below (n := 0) hok hB2
    have HZ := (IH.out z hmem C3 e3 C4 e4 W.drew hokW.1 hokW.2.1 hokW.2.2.1 hokW.2.2.2).mono (R' := fun e w1 => e = .returned (.int .i64 (tobjs z : Int)) ∧ Below W.heap.size W w1 ∧ Boxed w1 (w.heap.size + 1) 3 (.int .i64 q) ∧ w1.cell? ⟨w.heap.size + 1, 0, none⟩ = some (.int .i64 q) ∧ w1.frozen? ⟨w.heap.size + 1, 0, none⟩ = false)
      (fun e w1 h => by
        have hb : Below W.heap.size W w1 := hbd.trans h.2
        have hx : Boxed w1 (w.heap.size + 1) 3 (.int .i64 q) := (hb.block _ lD).trans bD1
        exact ⟨h.1, hb, hx, hx.cell, hx.frozen⟩)
    clear hokW hB2 hbd
    gi_wp2
    gi_region_with_o (refine ⟨trivial, ?_⟩; gi_at_call 16; refine (CallsIn.inRound l (callsIn_wide.2 HZ)).mono ?_; rintro e w1 ⟨rfl, hb1, bD2, cD2, fD2⟩)
    all_goals gi_wp2
    all_goals (try go_bits)
    all_goals
      refine ⟨(KeepsOthers.setCell _ _ _).from _ |> KeepsFrom.trans ⟨hb1.size, fun k o _ hk _ => (hb1.block k (Array.getElem?_eq_some_iff.1 hk).1).trans hk⟩, ⟨(hb1.mono hB1.size).setCell (p := ⟨w.heap.size + 1, 0, none⟩) (by simp) _, ?_⟩, ⟨?_, (hB1.trans (hb1.mono hB1.size)).setCell (p := ⟨w.heap.size + 1, 0, none⟩) (by simp) _⟩, ?_⟩
      · exact ((grownBy_setCell' w1 (w.heap.size + 1) _).block _ (by have := hb1.size; omega) (fun e => by injection e; omega)).trans (hb1.block _ (by omega))
      · rw [elX_snoc, sW_snoc, hq.out]
        exact bD2.set _
      · have := hb1.size
        have h2 := (KeepsOthers.setCell w1 ⟨w.heap.size + 1, 0, none⟩ (.int .i64 q)).size
        simp
        omega
  case done =>
    rintro D ys W hD hys ⟨⟨bD1, hB1⟩, hz⟩ hK
    have cD := bD1.cell
    gi_wp2
    refine ⟨by simp, .inl ⟨_, _, rfl, run_takeDeferred hK, ?_⟩⟩
    refine ⟨_, results_tmp rfl _ _ _, ?_, hB1.trans (belowK_b (w := w) (Nat.le_refl _) W D _ _ (by omega) hK rfl rfl)⟩
    have h2 := tobjs_size x
    have h3 := tobjs_eq x
    rw [if_neg (by intro h; rw [h] at g; cases g)] at h3
    show Ending.returned (.int .i64 (sW (ttargets x))) = _
    rw [h3, sW_eq _ (by omega)]
    congr 2
  case stop =>
    rintro D c pre W _ _ h _
    exact h.elim
theorem valid_el (x : S25) (h : tvalid x = true) : x.f1 = 7 → x.f0 = 2 := by
  intro h7
  by_cases h2 : x.f0 = 2
  · exact h2
  · by_cases h0 : x.f0 = 0
    · rw [tvalid_null x h0, h7] at h; simp at h
    · by_cases h1 : x.f0 = 1
      · rw [tvalid_struct x h1] at h; unfold structV at h; rw [h7] at h; simp at h
      · rw [tvalid_other x h0 h1 h2] at h; cases h
theorem valid_kids (x : S25) (h : tvalid x = true) : ∀ y ∈ x.f4, tvalid y = true := by
  rw [tvalid_eq, Bool.and_eq_true] at h
  exact fun y hy => (((tvalids_all _ _).1 h.1) y hy).1
theorem valid_targets (x : S25) (h : tvalid x = true) : ∀ y ∈ ttargets x, tvalid y = true := by
  unfold ttargets
  split
  · intro y hy
    obtain ⟨z, hz, hy⟩ := mem_tkids.1 hy
    exact valid_kids z (valid_kids x h z hz) y hy
  · exact valid_kids x h
theorem depth_all : ∀ (n : Nat) (x : S25), tsize x ≤ n → tvalid x = true → tsize x ≤ 4611686018427387904 → NodeI 14 (tdepth x) x
  | 0, x, h, _, _ => by have := tsize_eq x; omega
  | n + 1, x, h, hv, hs => by
    by_cases h0 : x.f0 = 0
    · exact depth_null x h0
    · exact depth_step x (valid_el x hv) h0 hs fun y hy => depth_all n y (by have := ttargets_size hy; omega) (valid_targets x hv y hy) (by have := ttargets_size hy; omega)
theorem objs_all : ∀ (n : Nat) (x : S25), tsize x ≤ n → tvalid x = true → tsize x ≤ 4611686018427387904 → NodeI 16 (tobjs x) x
  | 0, x, h, _, _ => by have := tsize_eq x; omega
  | n + 1, x, h, hv, hs => by
    by_cases h0 : x.f0 = 0
    · exact objs_null x h0
    · exact objs_step x (valid_el x hv) h0 hs fun y hy => objs_all n y (by have := ttargets_size hy; omega) (valid_targets x hv y hy) (by have := ttargets_size hy; omega)
end Go.Proofs.YtmbockhcmhghlaaDoor.Pr
end
section
namespace Go.Proofs.YtmbockhcmhghlaaDoor.Pr
open Go.RowKit Go.Proofs.YtmbockhcmhghlaaDoorW.PrintWords Go.Proofs.YtmbockhcmhghlaaDoorW.PrintLast Go.Proofs.YtmbockhcmhghlaaDoorW.PrintMore
set_option linter.unusedVariables false
set_option linter.unusedSimpArgs false
noncomputable section
open Classical
end
end Go.Proofs.YtmbockhcmhghlaaDoor.Pr
end
