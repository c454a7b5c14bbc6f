/- A part of the proof of YtmbockhcmhghlaaDoorMatchesCard (the texts that it stands on, gathered; declarations that nothing uses are left out). -/
import Derived.Test.YtmbockhcmhghlaaDoorBNMA
import Derived.Below
import Derived.Deep.Draws
import Derived.Deep.AppendLies
import Derived.Maps.AppendAt
import Derived.OwnWalk
import Derived.Laws.BytesArg
import Derived.Laws.MakeOwn
import Derived.Laws.OwnMore
import Derived.Deep.OwnRows
import Derived.Tactics
import Derived.Lib.ConvBytes
import Derived.Laws.Slices
import Derived.WalkKit
import Derived.KernelRfl
import Derived.RowKit3
import Derived.Deep.LoopGhost
import Derived.Deep.QuietTactic
import Derived.BigQuiet
import Derived.WideLaws
import Derived.Deep.DeepCutAuto
import Derived.Deep.CutBlock
import Derived.Deep.RegionHeld3
import Derived.Laws.Rows
import Derived.Lib.AppendStr
import Derived.ArgAppend
import Derived.Laws.IdiomCopy
import Derived.RowKit
import Derived.OrdersHeld
import Derived.Laws.BitsLemmas
import Derived.Laws.StructEq
import Derived.SizedLaws
import Derived.ChangeSlices
import Derived.Test.YtmbockhcmhghlaaDoorProg
import Derived.Laws.AppendOwn
import Derived.WalkSpells
import Derived.Lib.Hide
import Derived.RangeFuncBox
import Derived.IntWalk
import Derived.OpenShut
section
namespace Go.Proofs.YtmbockhcmhghlaaDoor.Pr
open Go.RowKit Go.Proofs.YtmbockhcmhghlaaDoorW.PrintWords Go.Proofs.YtmbockhcmhghlaaDoorW.PrintLast Go.Proofs.YtmbockhcmhghlaaDoorW.PrintMore
attribute [local go_sem] max2_int min2_int max_two min_two max_three min_three max_four min_four
set_option linter.unusedVariables false
set_option linter.unusedSimpArgs false
set_option maxHeartbeats 8000000 in
set_option maxRecDepth 100000 in
theorem capnpref10_Valid.calls (k : Nat) : ∀ (a0_0 : Int) (a0_1 : Int) (a0_2 : Int) (A0_3 : Option Addr) (c0_3 : Nat) (l0_3 : List Int) (A0_4 : Option Addr) (c0_4 : Nat) (l0_4 : List (S25)) (r : Bool) (w : World) (hr0_3 : Kd.C (Kd.int .u8) w A0_3 l0_3.length l0_3) (hc0_3 : l0_3.length ≤ c0_3) (hr0_4 : Kd.C k25 w A0_4 l0_4.length l0_4) (hc0_4 : l0_4.length ≤ c0_4) (h : capnpref10_Valid.f k a0_0 a0_1 a0_2 l0_3 l0_4 = some r),
  Calls Tryd.prog 11 #[.agg #[.int .i64 a0_0, .int .i64 a0_1, .int .i64 a0_2, .slice A0_3 l0_3.length c0_3, .slice A0_4 l0_4.length c0_4]] w fun e w' => e = .returned (.bool r) ∧ Below w.heap.size w w' := by
 induction k using Nat.strongRecOn with
 | _ k ih =>
 intro a0_0 a0_1 a0_2 A0_3 c0_3 l0_3 A0_4 c0_4 l0_4 r w hr0_3 hc0_3 hr0_4 hc0_4 h
 cases k with
 | zero => exact absurd h (by simp [capnpref10_Valid.f])
 | succ k =>
 simp only [capnpref10_Valid.f] at h
 have hu25 := Tryd.underlying25
 have HR0_3 := Aside0.mk hr0_3
 have HC0_3 := Aside0.mk hc0_3
 clear hr0_3 hc0_3
 have HR0_4 := Aside0.mk hr0_4
 have HC0_4 := Aside0.mk hc0_4
 clear hr0_4 hc0_4
 have HB := Aside0.mk (Below.refl w.heap.size w)
 have H : (capnpref10_Valid.l0 k 0 a0_0 a0_1 a0_2 l0_3 l0_4) = some r := h
 clear h
 have H' := Aside0.mk H
 clear H
 go_enter Tryd.func11, Tryd.ntmps11
 go_wp2_with (first | ((with_reducible refine gate_dst (N := 1) rfl ?_); (try (refine gate_guard (by rfl) ?_; dsimp only)); refine box_event ?hg (N := 1) ?hd (cs := #[.int .i64 a0_0, .int .i64 a0_1, .int .i64 a0_2, .slice A0_3 l0_3.length c0_3, .slice A0_4 l0_4.length c0_4]) (t := 25) ?hr ?_; (case hd => rfl); (case hg => rfl); (case hr => first | (go_simp; done) | (go_simp; rfl)); intro gb124 hg w2 hbox hb; have n0_ := Aside0.mk (below_step (by repeat (first | (with_reducible first | exact HB.out | apply below_alloc | apply pw_below_drewN | apply below_drew1) | exact HB.out)) hb); have n1_ := Aside0.mk (hbox); have n2_ := Aside0.mk ((by rw [hg]; exact (below_size (by repeat (first | (with_reducible first | exact HB.out | apply below_alloc | apply pw_below_drewN | apply below_drew1) | exact HB.out))) : w.heap.size ≤ gb124)); have n3_ := Aside0.mk ((by rw [hg]; exact (below_size (by repeat (first | (with_reducible first | exact HB.out | apply below_alloc | apply pw_below_drewN | apply below_drew1) | exact HB.out))) : w.heap.size ≤ gb124)); clear HB; have HB := n0_; have BK124 := n1_; have GW124 := n2_; have GE124 := n3_; clear n0_ n1_ n2_ n3_; clear hb hbox hg))
 go_loopg [3] k (fun kq v3 w' => ∃ (x3_1 : Int), v3 = .int .i64 x3_1 ∧ Aside0 (capnpref10_Valid.l0 kq x3_1 a0_0 a0_1 a0_2 l0_3 l0_4 = some r) ∧ Aside0 (kq ≤ k) ∧ Aside0 (w'.heap[gb124]? = some (.cells #[.int .i64 a0_0, .int .i64 a0_1, .int .i64 a0_2, (.slice A0_3 l0_3.length c0_3), (.slice A0_4 l0_4.length c0_4)] 25 (0, 0))) ∧ Aside0 (Below w.heap.size w w'))
 case atStart => exact ⟨(0), (by first | rfl | (simp; done) | (simp [*]; done)), H', ⟨Nat.le_refl _⟩, ⟨by (with_reducible repeat (first | refine blk_drewN ?_ _ | refine blk_drew ?_ | refine blk_alloc ?_ _)); exact BK124.out⟩, ⟨by repeat (first | (with_reducible first | exact HB.out | apply below_alloc | apply pw_below_drewN | apply below_drew1 | refine below_set ?_ GE124.out) | exact HB.out)⟩⟩
 case round =>
  clear H'
  try clear c1
  try clear p2
  try clear BK124
  obtain ⟨x3_1, rfl, HA, HK1, BK124, HB⟩ := hrel
  cases gk with
  | zero => exact absurd HA.out (by simp [capnpref10_Valid.l0])
  | succ k1 =>
   have H := HA.out
   clear HA
   simp only [capnpref10_Valid.l0] at H
   by_cases c3 : x3_1 < (l0_4.length : Int)
   ·rw [if_pos c3] at H
    have c3b0 : decide (x3_1 < (l0_4.length : Int)) = true := decide_eq_true c3
    clear c3
    by_cases c4 : 0 ≤ x3_1
    ·rw [if_pos c4] at H
     have c4b0 : decide (0 ≤ x3_1) = true := decide_eq_true c4
     clear c4
     replace H := Option.bind_eq_some_iff.mp H
     obtain ⟨t126, A50, H⟩ := H
     replace H : (if t126 = true then (if a0_0 = 2 then (if a0_1 = 7 then (if ((rd_T25 l0_4 x3_1).f0) = 1 then (capnpref10_Valid.l0 k1 (wrap64 (x3_1 + 1)) a0_0 a0_1 a0_2 l0_3 l0_4) else (some false)) else (capnpref10_Valid.l0 k1 (wrap64 (x3_1 + 1)) a0_0 a0_1 a0_2 l0_3 l0_4)) else (capnpref10_Valid.l0 k1 (wrap64 (x3_1 + 1)) a0_0 a0_1 a0_2 l0_3 l0_4)) else (some false)) = some r := H
     have A5 := Aside0.mk A50
     clear A50
     by_cases c6 : t126 = true
     ·subst c6
      have H1 : (if a0_0 = 2 then (if a0_1 = 7 then (if ((rd_T25 l0_4 x3_1).f0) = 1 then (capnpref10_Valid.l0 k1 (wrap64 (x3_1 + 1)) a0_0 a0_1 a0_2 l0_3 l0_4) else (some false)) else (capnpref10_Valid.l0 k1 (wrap64 (x3_1 + 1)) a0_0 a0_1 a0_2 l0_3 l0_4)) else (capnpref10_Valid.l0 k1 (wrap64 (x3_1 + 1)) a0_0 a0_1 a0_2 l0_3 l0_4)) = some r := by rw [if_pos rfl] at H; exact H
      clear H
      have H := H1
      clear H1
      by_cases c7 : a0_0 = 2
      ·rw [if_pos c7] at H
       have c7b0 : (a0_0 == 2) = true := beq_iff_eq.mpr c7
       have c7b1 : (a0_0 != 2) = false := bne_eq_false_iff_eq.mpr c7
       clear c7
       by_cases c8 : a0_1 = 7
       ·rw [if_pos c8] at H
        have c8b0 : (a0_1 == 7) = true := beq_iff_eq.mpr c8
        have c8b1 : (a0_1 != 7) = false := bne_eq_false_iff_eq.mpr c8
        clear c8
        by_cases c9 : ((rd_T25 l0_4 x3_1).f0) = 1
        ·rw [if_pos c9] at H
         have c9b0 : (((rd_T25 l0_4 x3_1).f0) == 1) = true := beq_iff_eq.mpr c9
         have c9b1 : (((rd_T25 l0_4 x3_1).f0) != 1) = false := bne_eq_false_iff_eq.mpr c9
         clear c9
         have H' := Aside0.mk H
         clear H
         have hcz10_0 : wr.cell? ⟨gb124, 0, none⟩ = some (.int .i64 a0_0) := (blk_cell BK124.out 0).trans rfl
         have hcz10_1 : wr.cell? ⟨gb124, 1, none⟩ = some (.int .i64 a0_1) := (blk_cell BK124.out 1).trans rfl
         have hcz10_2 : wr.cell? ⟨gb124, 2, none⟩ = some (.int .i64 a0_2) := (blk_cell BK124.out 2).trans rfl
         have hcz10_3 : wr.cell? ⟨gb124, 3, none⟩ = some (.slice A0_3 l0_3.length c0_3) := (blk_cell BK124.out 3).trans rfl
         have hcz10_4 : wr.cell? ⟨gb124, 4, none⟩ = some (.slice A0_4 l0_4.length c0_4) := (blk_cell BK124.out 4).trans rfl
         have hfz10_0 := blk_frozen BK124.out 0
         have hfz10_1 := blk_frozen BK124.out 1
         have hfz10_2 := blk_frozen BK124.out 2
         have hfz10_3 := blk_frozen BK124.out 3
         have hfz10_4 := blk_frozen BK124.out 4
         have p125 : 0 ≤ (x3_1 : Int) := of_decide_eq_true (by first | (with_reducible assumption) | assumption)
         have q125 : x3_1 < (l0_4.length : Int) := of_decide_eq_true (by first | (with_reducible assumption) | assumption)
         obtain ⟨ad125, A125_3, c125_3, A125_4, c125_4, e125, hx125_0, hx125_1, hx125_2, hx125_3, hx125_4, hl125_3, hi125_3, hl125_4, hi125_4⟩ := at_T25 HR0_4.out x3_1 p125 q125
         cases e125
         replace hx125_0 := (HB.out.cell (World.block_lt_of_cell? w _ hx125_0)).trans hx125_0
         replace hx125_1 := (HB.out.cell (World.block_lt_of_cell? w _ hx125_1)).trans hx125_1
         replace hx125_2 := (HB.out.cell (World.block_lt_of_cell? w _ hx125_2)).trans hx125_2
         replace hx125_3 := (HB.out.cell (World.block_lt_of_cell? w _ hx125_3)).trans hx125_3
         replace hx125_4 := (HB.out.cell (World.block_lt_of_cell? w _ hx125_4)).trans hx125_4
         have HR125_3 := Aside0.mk hi125_3
         have HC125_3 := Aside0.mk hl125_3
         clear hi125_3 hl125_3
         have HR125_4 := Aside0.mk hi125_4
         have HC125_4 := Aside0.mk hl125_4
         clear hi125_4 hl125_4
         replace p125 := eq_true p125
         replace q125 := eq_true q125
         go_wp2_with (first | ((with_reducible refine gate_callee (f := 11) rfl ?_); refine goesL_ (some 16) rfl rfl Tryd.func11 (by kernel_rfl) rfl #[.agg #[.int .i64 ((rd_T25 l0_4 x3_1).f0), .int .i64 ((rd_T25 l0_4 x3_1).f1), .int .i64 ((rd_T25 l0_4 x3_1).f2), .slice A125_3 ((rd_T25 l0_4 x3_1).f3).length c125_3, .slice A125_4 ((rd_T25 l0_4 x3_1).f4).length c125_4]] rfl (by (try simp only [List.map_toArray, List.map_cons, List.map_nil]); first | done | rfl | (simp only [List.length_drop, List.length_take]; rfl)) ?_; (with_reducible refine (ih k1 (by have := HK1.out; omega) ((rd_T25 l0_4 x3_1).f0) ((rd_T25 l0_4 x3_1).f1) ((rd_T25 l0_4 x3_1).f2) _ _ ((rd_T25 l0_4 x3_1).f3) _ _ ((rd_T25 l0_4 x3_1).f4) true _ ?side1 ?side2 ?side3 ?side4 A5.out).mono ?_); (case side1 => repeat (first | exact (Kd.C_below HR125_3.out HB.out) | (with_reducible refine Kd.C_alloc ?_ _) | (with_reducible refine Kd.C_drewN ?_ _) | (with_reducible refine Kd.C_drew ?_))); (case side2 => exact HC125_3.out); (case side3 => repeat (first | exact (Kd.C_below HR125_4.out HB.out) | (with_reducible refine Kd.C_alloc ?_ _) | (with_reducible refine Kd.C_drewN ?_ _) | (with_reducible refine Kd.C_drew ?_))); (case side4 => exact HC125_4.out); rintro e w11 ⟨rfl, hb⟩; refine ⟨_, rfl, ?_⟩; have n0_ := Aside0.mk (blk_below (g := gb124) (o := .cells #[.int .i64 a0_0, .int .i64 a0_1, .int .i64 a0_2, .slice A0_3 l0_3.length c0_3, .slice (some ad125) l0_4.length c0_4] 25 (0, 0)) (by (with_reducible repeat (first | refine blk_drewN ?_ _ | refine blk_drew ?_ | refine blk_alloc ?_ _)); exact BK124.out) hb); have n1_ := Aside0.mk (below_step (by repeat (first | (with_reducible first | exact HB.out | apply below_alloc | apply pw_below_drewN | apply below_drew1 | refine below_set ?_ GE124.out) | exact HB.out)) hb); clear BK124; clear HB; have BK124 := n0_; have HB := n1_; clear n0_ n1_; (try clear hb); (try clear hb2); (try clear hk); (try clear hi); have hcz12_0 : w11.cell? ⟨gb124, 0, none⟩ = some (.int .i64 a0_0) := (blk_cell BK124.out 0).trans rfl; have hcz12_1 : w11.cell? ⟨gb124, 1, none⟩ = some (.int .i64 a0_1) := (blk_cell BK124.out 1).trans rfl; have hcz12_2 : w11.cell? ⟨gb124, 2, none⟩ = some (.int .i64 a0_2) := (blk_cell BK124.out 2).trans rfl; have hcz12_3 : w11.cell? ⟨gb124, 3, none⟩ = some (.slice A0_3 l0_3.length c0_3) := (blk_cell BK124.out 3).trans rfl; have hcz12_4 : w11.cell? ⟨gb124, 4, none⟩ = some (.slice (some ad125) l0_4.length c0_4) := (blk_cell BK124.out 4).trans rfl; have hfz12_0 := blk_frozen BK124.out 0; have hfz12_1 := blk_frozen BK124.out 1; have hfz12_2 := blk_frozen BK124.out 2; have hfz12_3 := blk_frozen BK124.out 3; have hfz12_4 := blk_frozen BK124.out 4; have p127 : 0 ≤ (x3_1 : Int) := of_decide_eq_true (by first | (with_reducible assumption) | assumption); have q127 : x3_1 < (l0_4.length : Int) := of_decide_eq_true (by first | (with_reducible assumption) | assumption); obtain ⟨ad127, A127_3, c127_3, A127_4, c127_4, e127, hx127_0, hx127_1, hx127_2, hx127_3, hx127_4, hl127_3, hi127_3, hl127_4, hi127_4⟩ := at_T25 HR0_4.out x3_1 p127 q127; obtain rfl : ad125 = ad127 := (by injection e127); replace hx127_0 := (HB.out.cell (World.block_lt_of_cell? w _ hx127_0)).trans hx127_0; replace hx127_1 := (HB.out.cell (World.block_lt_of_cell? w _ hx127_1)).trans hx127_1; replace hx127_2 := (HB.out.cell (World.block_lt_of_cell? w _ hx127_2)).trans hx127_2; replace hx127_3 := (HB.out.cell (World.block_lt_of_cell? w _ hx127_3)).trans hx127_3; replace hx127_4 := (HB.out.cell (World.block_lt_of_cell? w _ hx127_4)).trans hx127_4; have HR127_3 := Aside0.mk hi127_3; have HC127_3 := Aside0.mk hl127_3; clear hi127_3 hl127_3; have HR127_4 := Aside0.mk hi127_4; have HC127_4 := Aside0.mk hl127_4; clear hi127_4 hl127_4; replace p127 := eq_true p127; replace q127 := eq_true q127))
         go_roundg k1
         case measure => have := HK1.out; omega
         case rel => exact ⟨(wrap64 (x3_1 + 1)), (by first | rfl | (simp; done) | (simp [*]; done)), H', ⟨by have := HK1.out; omega⟩, ⟨by (with_reducible repeat (first | refine blk_drewN ?_ _ | refine blk_drew ?_ | refine blk_alloc ?_ _)); exact BK124.out⟩, ⟨by repeat (first | (with_reducible first | exact HB.out | apply below_alloc | apply pw_below_drewN | apply below_drew1 | refine below_set ?_ GE124.out) | exact HB.out)⟩⟩
        ·rw [if_neg c9] at H
         have c9b0 : (((rd_T25 l0_4 x3_1).f0) == 1) = false := beq_eq_false_iff_ne.mpr c9
         have c9b1 : (((rd_T25 l0_4 x3_1).f0) != 1) = true := bne_iff_ne.mpr c9
         obtain rfl := Option.some.inj H
         have hcz13_0 : wr.cell? ⟨gb124, 0, none⟩ = some (.int .i64 a0_0) := (blk_cell BK124.out 0).trans rfl
         have hcz13_1 : wr.cell? ⟨gb124, 1, none⟩ = some (.int .i64 a0_1) := (blk_cell BK124.out 1).trans rfl
         have hcz13_2 : wr.cell? ⟨gb124, 2, none⟩ = some (.int .i64 a0_2) := (blk_cell BK124.out 2).trans rfl
         have hcz13_3 : wr.cell? ⟨gb124, 3, none⟩ = some (.slice A0_3 l0_3.length c0_3) := (blk_cell BK124.out 3).trans rfl
         have hcz13_4 : wr.cell? ⟨gb124, 4, none⟩ = some (.slice A0_4 l0_4.length c0_4) := (blk_cell BK124.out 4).trans rfl
         have hfz13_0 := blk_frozen BK124.out 0
         have hfz13_1 := blk_frozen BK124.out 1
         have hfz13_2 := blk_frozen BK124.out 2
         have hfz13_3 := blk_frozen BK124.out 3
         have hfz13_4 := blk_frozen BK124.out 4
         have p125 : 0 ≤ (x3_1 : Int) := of_decide_eq_true (by first | (with_reducible assumption) | assumption)
         have q125 : x3_1 < (l0_4.length : Int) := of_decide_eq_true (by first | (with_reducible assumption) | assumption)
         obtain ⟨ad125, A125_3, c125_3, A125_4, c125_4, e125, hx125_0, hx125_1, hx125_2, hx125_3, hx125_4, hl125_3, hi125_3, hl125_4, hi125_4⟩ := at_T25 HR0_4.out x3_1 p125 q125
         cases e125
         replace hx125_0 := (HB.out.cell (World.block_lt_of_cell? w _ hx125_0)).trans hx125_0
         replace hx125_1 := (HB.out.cell (World.block_lt_of_cell? w _ hx125_1)).trans hx125_1
         replace hx125_2 := (HB.out.cell (World.block_lt_of_cell? w _ hx125_2)).trans hx125_2
         replace hx125_3 := (HB.out.cell (World.block_lt_of_cell? w _ hx125_3)).trans hx125_3
         replace hx125_4 := (HB.out.cell (World.block_lt_of_cell? w _ hx125_4)).trans hx125_4
         have HR125_3 := Aside0.mk hi125_3
         have HC125_3 := Aside0.mk hl125_3
         clear hi125_3 hl125_3
         have HR125_4 := Aside0.mk hi125_4
         have HC125_4 := Aside0.mk hl125_4
         clear hi125_4 hl125_4
         replace p125 := eq_true p125
         replace q125 := eq_true q125
         go_wp2_with (first | ((with_reducible refine gate_callee (f := 11) rfl ?_); refine goesL_ (some 16) rfl rfl Tryd.func11 (by kernel_rfl) rfl #[.agg #[.int .i64 ((rd_T25 l0_4 x3_1).f0), .int .i64 ((rd_T25 l0_4 x3_1).f1), .int .i64 ((rd_T25 l0_4 x3_1).f2), .slice A125_3 ((rd_T25 l0_4 x3_1).f3).length c125_3, .slice A125_4 ((rd_T25 l0_4 x3_1).f4).length c125_4]] rfl (by (try simp only [List.map_toArray, List.map_cons, List.map_nil]); first | done | rfl | (simp only [List.length_drop, List.length_take]; rfl)) ?_; (with_reducible refine (ih k1 (by have := HK1.out; omega) ((rd_T25 l0_4 x3_1).f0) ((rd_T25 l0_4 x3_1).f1) ((rd_T25 l0_4 x3_1).f2) _ _ ((rd_T25 l0_4 x3_1).f3) _ _ ((rd_T25 l0_4 x3_1).f4) true _ ?side1 ?side2 ?side3 ?side4 A5.out).mono ?_); (case side1 => repeat (first | exact (Kd.C_below HR125_3.out HB.out) | (with_reducible refine Kd.C_alloc ?_ _) | (with_reducible refine Kd.C_drewN ?_ _) | (with_reducible refine Kd.C_drew ?_))); (case side2 => exact HC125_3.out); (case side3 => repeat (first | exact (Kd.C_below HR125_4.out HB.out) | (with_reducible refine Kd.C_alloc ?_ _) | (with_reducible refine Kd.C_drewN ?_ _) | (with_reducible refine Kd.C_drew ?_))); (case side4 => exact HC125_4.out); rintro e w14 ⟨rfl, hb⟩; refine ⟨_, rfl, ?_⟩; have n0_ := Aside0.mk (blk_below (g := gb124) (o := .cells #[.int .i64 a0_0, .int .i64 a0_1, .int .i64 a0_2, .slice A0_3 l0_3.length c0_3, .slice (some ad125) l0_4.length c0_4] 25 (0, 0)) (by (with_reducible repeat (first | refine blk_drewN ?_ _ | refine blk_drew ?_ | refine blk_alloc ?_ _)); exact BK124.out) hb); have n1_ := Aside0.mk (below_step (by repeat (first | (with_reducible first | exact HB.out | apply below_alloc | apply pw_below_drewN | apply below_drew1 | refine below_set ?_ GE124.out) | exact HB.out)) hb); clear BK124; clear HB; have BK124 := n0_; have HB := n1_; clear n0_ n1_; (try clear hb); (try clear hb2); (try clear hk); (try clear hi); have hcz15_0 : w14.cell? ⟨gb124, 0, none⟩ = some (.int .i64 a0_0) := (blk_cell BK124.out 0).trans rfl; have hcz15_1 : w14.cell? ⟨gb124, 1, none⟩ = some (.int .i64 a0_1) := (blk_cell BK124.out 1).trans rfl; have hcz15_2 : w14.cell? ⟨gb124, 2, none⟩ = some (.int .i64 a0_2) := (blk_cell BK124.out 2).trans rfl; have hcz15_3 : w14.cell? ⟨gb124, 3, none⟩ = some (.slice A0_3 l0_3.length c0_3) := (blk_cell BK124.out 3).trans rfl; have hcz15_4 : w14.cell? ⟨gb124, 4, none⟩ = some (.slice (some ad125) l0_4.length c0_4) := (blk_cell BK124.out 4).trans rfl; have hfz15_0 := blk_frozen BK124.out 0; have hfz15_1 := blk_frozen BK124.out 1; have hfz15_2 := blk_frozen BK124.out 2; have hfz15_3 := blk_frozen BK124.out 3; have hfz15_4 := blk_frozen BK124.out 4; have p127 : 0 ≤ (x3_1 : Int) := of_decide_eq_true (by first | (with_reducible assumption) | assumption); have q127 : x3_1 < (l0_4.length : Int) := of_decide_eq_true (by first | (with_reducible assumption) | assumption); obtain ⟨ad127, A127_3, c127_3, A127_4, c127_4, e127, hx127_0, hx127_1, hx127_2, hx127_3, hx127_4, hl127_3, hi127_3, hl127_4, hi127_4⟩ := at_T25 HR0_4.out x3_1 p127 q127; obtain rfl : ad125 = ad127 := (by injection e127); replace hx127_0 := (HB.out.cell (World.block_lt_of_cell? w _ hx127_0)).trans hx127_0; replace hx127_1 := (HB.out.cell (World.block_lt_of_cell? w _ hx127_1)).trans hx127_1; replace hx127_2 := (HB.out.cell (World.block_lt_of_cell? w _ hx127_2)).trans hx127_2; replace hx127_3 := (HB.out.cell (World.block_lt_of_cell? w _ hx127_3)).trans hx127_3; replace hx127_4 := (HB.out.cell (World.block_lt_of_cell? w _ hx127_4)).trans hx127_4; have HR127_3 := Aside0.mk hi127_3; have HC127_3 := Aside0.mk hl127_3; clear hi127_3 hl127_3; have HR127_4 := Aside0.mk hi127_4; have HC127_4 := Aside0.mk hl127_4; clear hi127_4 hl127_4; replace p127 := eq_true p127; replace q127 := eq_true q127))
         go_ret
         exact ⟨by first | rfl | (simp [errW_none, errW_some] <;> rfl) | (simp [*, errW_none, errW_some] <;> rfl), by repeat (first | (with_reducible first | exact HB.out | apply below_alloc | apply pw_below_drewN | apply below_drew1 | refine below_set ?_ GE124.out) | exact HB.out)⟩
       ·rw [if_neg c8] at H
        have c8b0 : (a0_1 == 7) = false := beq_eq_false_iff_ne.mpr c8
        have c8b1 : (a0_1 != 7) = true := bne_iff_ne.mpr c8
        have H' := Aside0.mk H
        clear H
        have hcz16_0 : wr.cell? ⟨gb124, 0, none⟩ = some (.int .i64 a0_0) := (blk_cell BK124.out 0).trans rfl
        have hcz16_1 : wr.cell? ⟨gb124, 1, none⟩ = some (.int .i64 a0_1) := (blk_cell BK124.out 1).trans rfl
        have hcz16_2 : wr.cell? ⟨gb124, 2, none⟩ = some (.int .i64 a0_2) := (blk_cell BK124.out 2).trans rfl
        have hcz16_3 : wr.cell? ⟨gb124, 3, none⟩ = some (.slice A0_3 l0_3.length c0_3) := (blk_cell BK124.out 3).trans rfl
        have hcz16_4 : wr.cell? ⟨gb124, 4, none⟩ = some (.slice A0_4 l0_4.length c0_4) := (blk_cell BK124.out 4).trans rfl
        have hfz16_0 := blk_frozen BK124.out 0
        have hfz16_1 := blk_frozen BK124.out 1
        have hfz16_2 := blk_frozen BK124.out 2
        have hfz16_3 := blk_frozen BK124.out 3
        have hfz16_4 := blk_frozen BK124.out 4
        have p125 : 0 ≤ (x3_1 : Int) := of_decide_eq_true (by first | (with_reducible assumption) | assumption)
        have q125 : x3_1 < (l0_4.length : Int) := of_decide_eq_true (by first | (with_reducible assumption) | assumption)
        obtain ⟨ad125, A125_3, c125_3, A125_4, c125_4, e125, hx125_0, hx125_1, hx125_2, hx125_3, hx125_4, hl125_3, hi125_3, hl125_4, hi125_4⟩ := at_T25 HR0_4.out x3_1 p125 q125
        cases e125
        replace hx125_0 := (HB.out.cell (World.block_lt_of_cell? w _ hx125_0)).trans hx125_0
        replace hx125_1 := (HB.out.cell (World.block_lt_of_cell? w _ hx125_1)).trans hx125_1
        replace hx125_2 := (HB.out.cell (World.block_lt_of_cell? w _ hx125_2)).trans hx125_2
        replace hx125_3 := (HB.out.cell (World.block_lt_of_cell? w _ hx125_3)).trans hx125_3
        replace hx125_4 := (HB.out.cell (World.block_lt_of_cell? w _ hx125_4)).trans hx125_4
        have HR125_3 := Aside0.mk hi125_3
        have HC125_3 := Aside0.mk hl125_3
        clear hi125_3 hl125_3
        have HR125_4 := Aside0.mk hi125_4
        have HC125_4 := Aside0.mk hl125_4
        clear hi125_4 hl125_4
        replace p125 := eq_true p125
        replace q125 := eq_true q125
        go_wp2_with (first | ((with_reducible refine gate_callee (f := 11) rfl ?_); refine goesL_ (some 16) rfl rfl Tryd.func11 (by kernel_rfl) rfl #[.agg #[.int .i64 ((rd_T25 l0_4 x3_1).f0), .int .i64 ((rd_T25 l0_4 x3_1).f1), .int .i64 ((rd_T25 l0_4 x3_1).f2), .slice A125_3 ((rd_T25 l0_4 x3_1).f3).length c125_3, .slice A125_4 ((rd_T25 l0_4 x3_1).f4).length c125_4]] rfl (by (try simp only [List.map_toArray, List.map_cons, List.map_nil]); first | done | rfl | (simp only [List.length_drop, List.length_take]; rfl)) ?_; (with_reducible refine (ih k1 (by have := HK1.out; omega) ((rd_T25 l0_4 x3_1).f0) ((rd_T25 l0_4 x3_1).f1) ((rd_T25 l0_4 x3_1).f2) _ _ ((rd_T25 l0_4 x3_1).f3) _ _ ((rd_T25 l0_4 x3_1).f4) true _ ?side1 ?side2 ?side3 ?side4 A5.out).mono ?_); (case side1 => repeat (first | exact (Kd.C_below HR125_3.out HB.out) | (with_reducible refine Kd.C_alloc ?_ _) | (with_reducible refine Kd.C_drewN ?_ _) | (with_reducible refine Kd.C_drew ?_))); (case side2 => exact HC125_3.out); (case side3 => repeat (first | exact (Kd.C_below HR125_4.out HB.out) | (with_reducible refine Kd.C_alloc ?_ _) | (with_reducible refine Kd.C_drewN ?_ _) | (with_reducible refine Kd.C_drew ?_))); (case side4 => exact HC125_4.out); rintro e w17 ⟨rfl, hb⟩; refine ⟨_, rfl, ?_⟩; have n0_ := Aside0.mk (blk_below (g := gb124) (o := .cells #[.int .i64 a0_0, .int .i64 a0_1, .int .i64 a0_2, .slice A0_3 l0_3.length c0_3, .slice (some ad125) l0_4.length c0_4] 25 (0, 0)) (by (with_reducible repeat (first | refine blk_drewN ?_ _ | refine blk_drew ?_ | refine blk_alloc ?_ _)); exact BK124.out) hb); have n1_ := Aside0.mk (below_step (by repeat (first | (with_reducible first | exact HB.out | apply below_alloc | apply pw_below_drewN | apply below_drew1 | refine below_set ?_ GE124.out) | exact HB.out)) hb); clear BK124; clear HB; have BK124 := n0_; have HB := n1_; clear n0_ n1_; (try clear hb); (try clear hb2); (try clear hk); (try clear hi); have hcz18_0 : w17.cell? ⟨gb124, 0, none⟩ = some (.int .i64 a0_0) := (blk_cell BK124.out 0).trans rfl; have hcz18_1 : w17.cell? ⟨gb124, 1, none⟩ = some (.int .i64 a0_1) := (blk_cell BK124.out 1).trans rfl; have hcz18_2 : w17.cell? ⟨gb124, 2, none⟩ = some (.int .i64 a0_2) := (blk_cell BK124.out 2).trans rfl; have hcz18_3 : w17.cell? ⟨gb124, 3, none⟩ = some (.slice A0_3 l0_3.length c0_3) := (blk_cell BK124.out 3).trans rfl; have hcz18_4 : w17.cell? ⟨gb124, 4, none⟩ = some (.slice (some ad125) l0_4.length c0_4) := (blk_cell BK124.out 4).trans rfl; have hfz18_0 := blk_frozen BK124.out 0; have hfz18_1 := blk_frozen BK124.out 1; have hfz18_2 := blk_frozen BK124.out 2; have hfz18_3 := blk_frozen BK124.out 3; have hfz18_4 := blk_frozen BK124.out 4))
        go_roundg k1
        case measure => have := HK1.out; omega
        case rel => exact ⟨(wrap64 (x3_1 + 1)), (by first | rfl | (simp; done) | (simp [*]; done)), H', ⟨by have := HK1.out; omega⟩, ⟨by (with_reducible repeat (first | refine blk_drewN ?_ _ | refine blk_drew ?_ | refine blk_alloc ?_ _)); exact BK124.out⟩, ⟨by repeat (first | (with_reducible first | exact HB.out | apply below_alloc | apply pw_below_drewN | apply below_drew1 | refine below_set ?_ GE124.out) | exact HB.out)⟩⟩
      ·rw [if_neg c7] at H
       have c7b0 : (a0_0 == 2) = false := beq_eq_false_iff_ne.mpr c7
       have c7b1 : (a0_0 != 2) = true := bne_iff_ne.mpr c7
       have H' := Aside0.mk H
       clear H
       have hcz19_0 : wr.cell? ⟨gb124, 0, none⟩ = some (.int .i64 a0_0) := (blk_cell BK124.out 0).trans rfl
       have hcz19_1 : wr.cell? ⟨gb124, 1, none⟩ = some (.int .i64 a0_1) := (blk_cell BK124.out 1).trans rfl
       have hcz19_2 : wr.cell? ⟨gb124, 2, none⟩ = some (.int .i64 a0_2) := (blk_cell BK124.out 2).trans rfl
       have hcz19_3 : wr.cell? ⟨gb124, 3, none⟩ = some (.slice A0_3 l0_3.length c0_3) := (blk_cell BK124.out 3).trans rfl
       have hcz19_4 : wr.cell? ⟨gb124, 4, none⟩ = some (.slice A0_4 l0_4.length c0_4) := (blk_cell BK124.out 4).trans rfl
       have hfz19_0 := blk_frozen BK124.out 0
       have hfz19_1 := blk_frozen BK124.out 1
       have hfz19_2 := blk_frozen BK124.out 2
       have hfz19_3 := blk_frozen BK124.out 3
       have hfz19_4 := blk_frozen BK124.out 4
       have p125 : 0 ≤ (x3_1 : Int) := of_decide_eq_true (by first | (with_reducible assumption) | assumption)
       have q125 : x3_1 < (l0_4.length : Int) := of_decide_eq_true (by first | (with_reducible assumption) | assumption)
       obtain ⟨ad125, A125_3, c125_3, A125_4, c125_4, e125, hx125_0, hx125_1, hx125_2, hx125_3, hx125_4, hl125_3, hi125_3, hl125_4, hi125_4⟩ := at_T25 HR0_4.out x3_1 p125 q125
       cases e125
       replace hx125_0 := (HB.out.cell (World.block_lt_of_cell? w _ hx125_0)).trans hx125_0
       replace hx125_1 := (HB.out.cell (World.block_lt_of_cell? w _ hx125_1)).trans hx125_1
       replace hx125_2 := (HB.out.cell (World.block_lt_of_cell? w _ hx125_2)).trans hx125_2
       replace hx125_3 := (HB.out.cell (World.block_lt_of_cell? w _ hx125_3)).trans hx125_3
       replace hx125_4 := (HB.out.cell (World.block_lt_of_cell? w _ hx125_4)).trans hx125_4
       have HR125_3 := Aside0.mk hi125_3
       have HC125_3 := Aside0.mk hl125_3
       clear hi125_3 hl125_3
       have HR125_4 := Aside0.mk hi125_4
       have HC125_4 := Aside0.mk hl125_4
       clear hi125_4 hl125_4
       replace p125 := eq_true p125
       replace q125 := eq_true q125
       go_wp2_with (first | ((with_reducible refine gate_callee (f := 11) rfl ?_); refine goesL_ (some 16) rfl rfl Tryd.func11 (by kernel_rfl) rfl #[.agg #[.int .i64 ((rd_T25 l0_4 x3_1).f0), .int .i64 ((rd_T25 l0_4 x3_1).f1), .int .i64 ((rd_T25 l0_4 x3_1).f2), .slice A125_3 ((rd_T25 l0_4 x3_1).f3).length c125_3, .slice A125_4 ((rd_T25 l0_4 x3_1).f4).length c125_4]] rfl (by (try simp only [List.map_toArray, List.map_cons, List.map_nil]); first | done | rfl | (simp only [List.length_drop, List.length_take]; rfl)) ?_; (with_reducible refine (ih k1 (by have := HK1.out; omega) ((rd_T25 l0_4 x3_1).f0) ((rd_T25 l0_4 x3_1).f1) ((rd_T25 l0_4 x3_1).f2) _ _ ((rd_T25 l0_4 x3_1).f3) _ _ ((rd_T25 l0_4 x3_1).f4) true _ ?side1 ?side2 ?side3 ?side4 A5.out).mono ?_); (case side1 => repeat (first | exact (Kd.C_below HR125_3.out HB.out) | (with_reducible refine Kd.C_alloc ?_ _) | (with_reducible refine Kd.C_drewN ?_ _) | (with_reducible refine Kd.C_drew ?_))); (case side2 => exact HC125_3.out); (case side3 => repeat (first | exact (Kd.C_below HR125_4.out HB.out) | (with_reducible refine Kd.C_alloc ?_ _) | (with_reducible refine Kd.C_drewN ?_ _) | (with_reducible refine Kd.C_drew ?_))); (case side4 => exact HC125_4.out); rintro e w20 ⟨rfl, hb⟩; refine ⟨_, rfl, ?_⟩; have n0_ := Aside0.mk (blk_below (g := gb124) (o := .cells #[.int .i64 a0_0, .int .i64 a0_1, .int .i64 a0_2, .slice A0_3 l0_3.length c0_3, .slice (some ad125) l0_4.length c0_4] 25 (0, 0)) (by (with_reducible repeat (first | refine blk_drewN ?_ _ | refine blk_drew ?_ | refine blk_alloc ?_ _)); exact BK124.out) hb); have n1_ := Aside0.mk (below_step (by repeat (first | (with_reducible first | exact HB.out | apply below_alloc | apply pw_below_drewN | apply below_drew1 | refine below_set ?_ GE124.out) | exact HB.out)) hb); clear BK124; clear HB; have BK124 := n0_; have HB := n1_; clear n0_ n1_; (try clear hb); (try clear hb2); (try clear hk); (try clear hi); have hcz21_0 : w20.cell? ⟨gb124, 0, none⟩ = some (.int .i64 a0_0) := (blk_cell BK124.out 0).trans rfl; have hcz21_1 : w20.cell? ⟨gb124, 1, none⟩ = some (.int .i64 a0_1) := (blk_cell BK124.out 1).trans rfl; have hcz21_2 : w20.cell? ⟨gb124, 2, none⟩ = some (.int .i64 a0_2) := (blk_cell BK124.out 2).trans rfl; have hcz21_3 : w20.cell? ⟨gb124, 3, none⟩ = some (.slice A0_3 l0_3.length c0_3) := (blk_cell BK124.out 3).trans rfl; have hcz21_4 : w20.cell? ⟨gb124, 4, none⟩ = some (.slice (some ad125) l0_4.length c0_4) := (blk_cell BK124.out 4).trans rfl; have hfz21_0 := blk_frozen BK124.out 0; have hfz21_1 := blk_frozen BK124.out 1; have hfz21_2 := blk_frozen BK124.out 2; have hfz21_3 := blk_frozen BK124.out 3; have hfz21_4 := blk_frozen BK124.out 4))
       go_roundg k1
       case measure => have := HK1.out; omega
       case rel => exact ⟨(wrap64 (x3_1 + 1)), (by first | rfl | (simp; done) | (simp [*]; done)), H', ⟨by have := HK1.out; omega⟩, ⟨by (with_reducible repeat (first | refine blk_drewN ?_ _ | refine blk_drew ?_ | refine blk_alloc ?_ _)); exact BK124.out⟩, ⟨by repeat (first | (with_reducible first | exact HB.out | apply below_alloc | apply pw_below_drewN | apply below_drew1 | refine below_set ?_ GE124.out) | exact HB.out)⟩⟩
     ·replace c6 := Bool.eq_false_iff.mpr c6
      subst c6
      have H1 : (some false) = some r := by rw [if_neg (show ¬ (false = true) by decide)] at H; exact H
      clear H
      have H := H1
      clear H1
      obtain rfl := Option.some.inj H
      have hcz22_0 : wr.cell? ⟨gb124, 0, none⟩ = some (.int .i64 a0_0) := (blk_cell BK124.out 0).trans rfl
      have hcz22_1 : wr.cell? ⟨gb124, 1, none⟩ = some (.int .i64 a0_1) := (blk_cell BK124.out 1).trans rfl
      have hcz22_2 : wr.cell? ⟨gb124, 2, none⟩ = some (.int .i64 a0_2) := (blk_cell BK124.out 2).trans rfl
      have hcz22_3 : wr.cell? ⟨gb124, 3, none⟩ = some (.slice A0_3 l0_3.length c0_3) := (blk_cell BK124.out 3).trans rfl
      have hcz22_4 : wr.cell? ⟨gb124, 4, none⟩ = some (.slice A0_4 l0_4.length c0_4) := (blk_cell BK124.out 4).trans rfl
      have hfz22_0 := blk_frozen BK124.out 0
      have hfz22_1 := blk_frozen BK124.out 1
      have hfz22_2 := blk_frozen BK124.out 2
      have hfz22_3 := blk_frozen BK124.out 3
      have hfz22_4 := blk_frozen BK124.out 4
      have p125 : 0 ≤ (x3_1 : Int) := of_decide_eq_true (by first | (with_reducible assumption) | assumption)
      have q125 : x3_1 < (l0_4.length : Int) := of_decide_eq_true (by first | (with_reducible assumption) | assumption)
      obtain ⟨ad125, A125_3, c125_3, A125_4, c125_4, e125, hx125_0, hx125_1, hx125_2, hx125_3, hx125_4, hl125_3, hi125_3, hl125_4, hi125_4⟩ := at_T25 HR0_4.out x3_1 p125 q125
      cases e125
      replace hx125_0 := (HB.out.cell (World.block_lt_of_cell? w _ hx125_0)).trans hx125_0
      replace hx125_1 := (HB.out.cell (World.block_lt_of_cell? w _ hx125_1)).trans hx125_1
      replace hx125_2 := (HB.out.cell (World.block_lt_of_cell? w _ hx125_2)).trans hx125_2
      replace hx125_3 := (HB.out.cell (World.block_lt_of_cell? w _ hx125_3)).trans hx125_3
      replace hx125_4 := (HB.out.cell (World.block_lt_of_cell? w _ hx125_4)).trans hx125_4
      have HR125_3 := Aside0.mk hi125_3
      have HC125_3 := Aside0.mk hl125_3
      clear hi125_3 hl125_3
      have HR125_4 := Aside0.mk hi125_4
      have HC125_4 := Aside0.mk hl125_4
      clear hi125_4 hl125_4
      replace p125 := eq_true p125
      replace q125 := eq_true q125
      go_wp2_with (first | ((with_reducible refine gate_callee (f := 11) rfl ?_); refine goesL_ (some 16) rfl rfl Tryd.func11 (by kernel_rfl) rfl #[.agg #[.int .i64 ((rd_T25 l0_4 x3_1).f0), .int .i64 ((rd_T25 l0_4 x3_1).f1), .int .i64 ((rd_T25 l0_4 x3_1).f2), .slice A125_3 ((rd_T25 l0_4 x3_1).f3).length c125_3, .slice A125_4 ((rd_T25 l0_4 x3_1).f4).length c125_4]] rfl (by (try simp only [List.map_toArray, List.map_cons, List.map_nil]); first | done | rfl | (simp only [List.length_drop, List.length_take]; rfl)) ?_; (with_reducible refine (ih k1 (by have := HK1.out; omega) ((rd_T25 l0_4 x3_1).f0) ((rd_T25 l0_4 x3_1).f1) ((rd_T25 l0_4 x3_1).f2) _ _ ((rd_T25 l0_4 x3_1).f3) _ _ ((rd_T25 l0_4 x3_1).f4) false _ ?side1 ?side2 ?side3 ?side4 A5.out).mono ?_); (case side1 => repeat (first | exact (Kd.C_below HR125_3.out HB.out) | (with_reducible refine Kd.C_alloc ?_ _) | (with_reducible refine Kd.C_drewN ?_ _) | (with_reducible refine Kd.C_drew ?_))); (case side2 => exact HC125_3.out); (case side3 => repeat (first | exact (Kd.C_below HR125_4.out HB.out) | (with_reducible refine Kd.C_alloc ?_ _) | (with_reducible refine Kd.C_drewN ?_ _) | (with_reducible refine Kd.C_drew ?_))); (case side4 => exact HC125_4.out); rintro e w23 ⟨rfl, hb⟩; refine ⟨_, rfl, ?_⟩; have n0_ := Aside0.mk (blk_below (g := gb124) (o := .cells #[.int .i64 a0_0, .int .i64 a0_1, .int .i64 a0_2, .slice A0_3 l0_3.length c0_3, .slice (some ad125) l0_4.length c0_4] 25 (0, 0)) (by (with_reducible repeat (first | refine blk_drewN ?_ _ | refine blk_drew ?_ | refine blk_alloc ?_ _)); exact BK124.out) hb); have n1_ := Aside0.mk (below_step (by repeat (first | (with_reducible first | exact HB.out | apply below_alloc | apply pw_below_drewN | apply below_drew1 | refine below_set ?_ GE124.out) | exact HB.out)) hb); clear BK124; clear HB; have BK124 := n0_; have HB := n1_; clear n0_ n1_; (try clear hb); (try clear hb2); (try clear hk); (try clear hi)))
      go_ret
      exact ⟨by first | rfl | (simp [errW_none, errW_some] <;> rfl) | (simp [*, errW_none, errW_some] <;> rfl), by repeat (first | (with_reducible first | exact HB.out | apply below_alloc | apply pw_below_drewN | apply below_drew1 | refine below_set ?_ GE124.out) | exact HB.out)⟩
    ·rw [if_neg c4] at H
     exact absurd H (by simp)
   ·rw [if_neg c3] at H
    have c3b0 : decide (x3_1 < (l0_4.length : Int)) = false := decide_eq_false c3
    clear c3
    by_cases c24 : a0_0 = 0
    ·rw [if_pos c24] at H
     have c24b0 : (a0_0 == 0) = true := beq_iff_eq.mpr c24
     have c24b1 : (a0_0 != 0) = false := bne_eq_false_iff_eq.mpr c24
     clear c24
     by_cases c25 : a0_1 = 0
     ·rw [if_pos c25] at H
      have c25b0 : (a0_1 == 0) = true := beq_iff_eq.mpr c25
      have c25b1 : (a0_1 != 0) = false := bne_eq_false_iff_eq.mpr c25
      clear c25
      by_cases c26 : a0_2 = 0
      ·rw [if_pos c26] at H
       have c26b0 : (a0_2 == 0) = true := beq_iff_eq.mpr c26
       have c26b1 : (a0_2 != 0) = false := bne_eq_false_iff_eq.mpr c26
       clear c26
       by_cases c27 : (l0_3.length : Int) = 0
       ·rw [if_pos c27] at H
        have c27b0 : ((l0_3.length : Int) == 0) = true := beq_iff_eq.mpr c27
        have c27b1 : ((l0_3.length : Int) != 0) = false := bne_eq_false_iff_eq.mpr c27
        clear c27
        obtain rfl := Option.some.inj H
        have hcz28_0 : wr.cell? ⟨gb124, 0, none⟩ = some (.int .i64 a0_0) := (blk_cell BK124.out 0).trans rfl
        have hcz28_1 : wr.cell? ⟨gb124, 1, none⟩ = some (.int .i64 a0_1) := (blk_cell BK124.out 1).trans rfl
        have hcz28_2 : wr.cell? ⟨gb124, 2, none⟩ = some (.int .i64 a0_2) := (blk_cell BK124.out 2).trans rfl
        have hcz28_3 : wr.cell? ⟨gb124, 3, none⟩ = some (.slice A0_3 l0_3.length c0_3) := (blk_cell BK124.out 3).trans rfl
        have hcz28_4 : wr.cell? ⟨gb124, 4, none⟩ = some (.slice A0_4 l0_4.length c0_4) := (blk_cell BK124.out 4).trans rfl
        have hfz28_0 := blk_frozen BK124.out 0
        have hfz28_1 := blk_frozen BK124.out 1
        have hfz28_2 := blk_frozen BK124.out 2
        have hfz28_3 := blk_frozen BK124.out 3
        have hfz28_4 := blk_frozen BK124.out 4
        go_wp2
        go_ret
        exact ⟨by first | rfl | (simp [errW_none, errW_some] <;> rfl) | (simp [*, errW_none, errW_some] <;> rfl), by repeat (first | (with_reducible first | exact HB.out | apply below_alloc | apply pw_below_drewN | apply below_drew1 | refine below_set ?_ GE124.out) | exact HB.out)⟩
       ·rw [if_neg c27] at H
        have c27b0 : ((l0_3.length : Int) == 0) = false := beq_eq_false_iff_ne.mpr c27
        have c27b1 : ((l0_3.length : Int) != 0) = true := bne_iff_ne.mpr c27
        have c27b2 : ¬ (l0_3 = []) := fun h_ => c27 (by rw [h_]; rfl)
        obtain rfl := Option.some.inj H
        have hcz29_0 : wr.cell? ⟨gb124, 0, none⟩ = some (.int .i64 a0_0) := (blk_cell BK124.out 0).trans rfl
        have hcz29_1 : wr.cell? ⟨gb124, 1, none⟩ = some (.int .i64 a0_1) := (blk_cell BK124.out 1).trans rfl
        have hcz29_2 : wr.cell? ⟨gb124, 2, none⟩ = some (.int .i64 a0_2) := (blk_cell BK124.out 2).trans rfl
        have hcz29_3 : wr.cell? ⟨gb124, 3, none⟩ = some (.slice A0_3 l0_3.length c0_3) := (blk_cell BK124.out 3).trans rfl
        have hcz29_4 : wr.cell? ⟨gb124, 4, none⟩ = some (.slice A0_4 l0_4.length c0_4) := (blk_cell BK124.out 4).trans rfl
        have hfz29_0 := blk_frozen BK124.out 0
        have hfz29_1 := blk_frozen BK124.out 1
        have hfz29_2 := blk_frozen BK124.out 2
        have hfz29_3 := blk_frozen BK124.out 3
        have hfz29_4 := blk_frozen BK124.out 4
        go_wp2
        go_ret
        exact ⟨by first | rfl | (simp [errW_none, errW_some] <;> rfl) | (simp [*, errW_none, errW_some] <;> rfl), by repeat (first | (with_reducible first | exact HB.out | apply below_alloc | apply pw_below_drewN | apply below_drew1 | refine below_set ?_ GE124.out) | exact HB.out)⟩
      ·rw [if_neg c26] at H
       have c26b0 : (a0_2 == 0) = false := beq_eq_false_iff_ne.mpr c26
       have c26b1 : (a0_2 != 0) = true := bne_iff_ne.mpr c26
       obtain rfl := Option.some.inj H
       have hcz30_0 : wr.cell? ⟨gb124, 0, none⟩ = some (.int .i64 a0_0) := (blk_cell BK124.out 0).trans rfl
       have hcz30_1 : wr.cell? ⟨gb124, 1, none⟩ = some (.int .i64 a0_1) := (blk_cell BK124.out 1).trans rfl
       have hcz30_2 : wr.cell? ⟨gb124, 2, none⟩ = some (.int .i64 a0_2) := (blk_cell BK124.out 2).trans rfl
       have hcz30_3 : wr.cell? ⟨gb124, 3, none⟩ = some (.slice A0_3 l0_3.length c0_3) := (blk_cell BK124.out 3).trans rfl
       have hcz30_4 : wr.cell? ⟨gb124, 4, none⟩ = some (.slice A0_4 l0_4.length c0_4) := (blk_cell BK124.out 4).trans rfl
       have hfz30_0 := blk_frozen BK124.out 0
       have hfz30_1 := blk_frozen BK124.out 1
       have hfz30_2 := blk_frozen BK124.out 2
       have hfz30_3 := blk_frozen BK124.out 3
       have hfz30_4 := blk_frozen BK124.out 4
       go_wp2
       go_ret
       exact ⟨by first | rfl | (simp [errW_none, errW_some] <;> rfl) | (simp [*, errW_none, errW_some] <;> rfl), by repeat (first | (with_reducible first | exact HB.out | apply below_alloc | apply pw_below_drewN | apply below_drew1 | refine below_set ?_ GE124.out) | exact HB.out)⟩
     ·rw [if_neg c25] at H
      have c25b0 : (a0_1 == 0) = false := beq_eq_false_iff_ne.mpr c25
      have c25b1 : (a0_1 != 0) = true := bne_iff_ne.mpr c25
      obtain rfl := Option.some.inj H
      have hcz31_0 : wr.cell? ⟨gb124, 0, none⟩ = some (.int .i64 a0_0) := (blk_cell BK124.out 0).trans rfl
      have hcz31_1 : wr.cell? ⟨gb124, 1, none⟩ = some (.int .i64 a0_1) := (blk_cell BK124.out 1).trans rfl
      have hcz31_2 : wr.cell? ⟨gb124, 2, none⟩ = some (.int .i64 a0_2) := (blk_cell BK124.out 2).trans rfl
      have hcz31_3 : wr.cell? ⟨gb124, 3, none⟩ = some (.slice A0_3 l0_3.length c0_3) := (blk_cell BK124.out 3).trans rfl
      have hcz31_4 : wr.cell? ⟨gb124, 4, none⟩ = some (.slice A0_4 l0_4.length c0_4) := (blk_cell BK124.out 4).trans rfl
      have hfz31_0 := blk_frozen BK124.out 0
      have hfz31_1 := blk_frozen BK124.out 1
      have hfz31_2 := blk_frozen BK124.out 2
      have hfz31_3 := blk_frozen BK124.out 3
      have hfz31_4 := blk_frozen BK124.out 4
      go_wp2
      go_ret
      exact ⟨by first | rfl | (simp [errW_none, errW_some] <;> rfl) | (simp [*, errW_none, errW_some] <;> rfl), by repeat (first | (with_reducible first | exact HB.out | apply below_alloc | apply pw_below_drewN | apply below_drew1 | refine below_set ?_ GE124.out) | exact HB.out)⟩
    ·rw [if_neg c24] at H
     have c24b0 : (a0_0 == 0) = false := beq_eq_false_iff_ne.mpr c24
     have c24b1 : (a0_0 != 0) = true := bne_iff_ne.mpr c24
     by_cases c32 : a0_0 = 1
     ·rw [if_pos c32] at H
      have c32b0 : (a0_0 == 1) = true := beq_iff_eq.mpr c32
      have c32b1 : (a0_0 != 1) = false := bne_eq_false_iff_eq.mpr c32
      clear c32
      by_cases c33 : a0_1 = 0
      ·rw [if_pos c33] at H
       have c33b0 : (a0_1 == 0) = true := beq_iff_eq.mpr c33
       have c33b1 : (a0_1 != 0) = false := bne_eq_false_iff_eq.mpr c33
       clear c33
       by_cases c34 : a0_2 = 0
       ·rw [if_pos c34] at H
        have c34b0 : (a0_2 == 0) = true := beq_iff_eq.mpr c34
        have c34b1 : (a0_2 != 0) = false := bne_eq_false_iff_eq.mpr c34
        clear c34
        by_cases c35 : ((l0_3.length : Int) % 8) = 0
        ·rw [if_pos c35] at H
         have c35b0 : (((l0_3.length : Int) % 8) == 0) = true := beq_iff_eq.mpr c35
         have c35b1 : (((l0_3.length : Int) % 8) != 0) = false := bne_eq_false_iff_eq.mpr c35
         clear c35
         by_cases c36 : (l0_3.length : Int) ≤ 524280
         ·rw [if_pos c36] at H
          have c36b0 : decide ((l0_3.length : Int) ≤ 524280) = true := decide_eq_true c36
          have c36b1 : decide (l0_3.length ≤ 524280) = true := decide_eq_true (by omega)
          clear c36
          obtain rfl := Option.some.inj H
          have hcz37_0 : wr.cell? ⟨gb124, 0, none⟩ = some (.int .i64 a0_0) := (blk_cell BK124.out 0).trans rfl
          have hcz37_1 : wr.cell? ⟨gb124, 1, none⟩ = some (.int .i64 a0_1) := (blk_cell BK124.out 1).trans rfl
          have hcz37_2 : wr.cell? ⟨gb124, 2, none⟩ = some (.int .i64 a0_2) := (blk_cell BK124.out 2).trans rfl
          have hcz37_3 : wr.cell? ⟨gb124, 3, none⟩ = some (.slice A0_3 l0_3.length c0_3) := (blk_cell BK124.out 3).trans rfl
          have hcz37_4 : wr.cell? ⟨gb124, 4, none⟩ = some (.slice A0_4 l0_4.length c0_4) := (blk_cell BK124.out 4).trans rfl
          have hfz37_0 := blk_frozen BK124.out 0
          have hfz37_1 := blk_frozen BK124.out 1
          have hfz37_2 := blk_frozen BK124.out 2
          have hfz37_3 := blk_frozen BK124.out 3
          have hfz37_4 := blk_frozen BK124.out 4
          go_wp2
          go_ret
          exact ⟨by first | rfl | (simp [errW_none, errW_some] <;> rfl) | (simp [*, errW_none, errW_some] <;> rfl), by repeat (first | (with_reducible first | exact HB.out | apply below_alloc | apply pw_below_drewN | apply below_drew1 | refine below_set ?_ GE124.out) | exact HB.out)⟩
         ·rw [if_neg c36] at H
          have c36b0 : decide ((l0_3.length : Int) ≤ 524280) = false := decide_eq_false c36
          have c36b1 : decide (l0_3.length ≤ 524280) = false := decide_eq_false (by omega)
          clear c36
          obtain rfl := Option.some.inj H
          have hcz38_0 : wr.cell? ⟨gb124, 0, none⟩ = some (.int .i64 a0_0) := (blk_cell BK124.out 0).trans rfl
          have hcz38_1 : wr.cell? ⟨gb124, 1, none⟩ = some (.int .i64 a0_1) := (blk_cell BK124.out 1).trans rfl
          have hcz38_2 : wr.cell? ⟨gb124, 2, none⟩ = some (.int .i64 a0_2) := (blk_cell BK124.out 2).trans rfl
          have hcz38_3 : wr.cell? ⟨gb124, 3, none⟩ = some (.slice A0_3 l0_3.length c0_3) := (blk_cell BK124.out 3).trans rfl
          have hcz38_4 : wr.cell? ⟨gb124, 4, none⟩ = some (.slice A0_4 l0_4.length c0_4) := (blk_cell BK124.out 4).trans rfl
          have hfz38_0 := blk_frozen BK124.out 0
          have hfz38_1 := blk_frozen BK124.out 1
          have hfz38_2 := blk_frozen BK124.out 2
          have hfz38_3 := blk_frozen BK124.out 3
          have hfz38_4 := blk_frozen BK124.out 4
          go_wp2
          go_ret
          exact ⟨by first | rfl | (simp [errW_none, errW_some] <;> rfl) | (simp [*, errW_none, errW_some] <;> rfl), by repeat (first | (with_reducible first | exact HB.out | apply below_alloc | apply pw_below_drewN | apply below_drew1 | refine below_set ?_ GE124.out) | exact HB.out)⟩
        ·rw [if_neg c35] at H
         have c35b0 : (((l0_3.length : Int) % 8) == 0) = false := beq_eq_false_iff_ne.mpr c35
         have c35b1 : (((l0_3.length : Int) % 8) != 0) = true := bne_iff_ne.mpr c35
         obtain rfl := Option.some.inj H
         have hcz39_0 : wr.cell? ⟨gb124, 0, none⟩ = some (.int .i64 a0_0) := (blk_cell BK124.out 0).trans rfl
         have hcz39_1 : wr.cell? ⟨gb124, 1, none⟩ = some (.int .i64 a0_1) := (blk_cell BK124.out 1).trans rfl
         have hcz39_2 : wr.cell? ⟨gb124, 2, none⟩ = some (.int .i64 a0_2) := (blk_cell BK124.out 2).trans rfl
         have hcz39_3 : wr.cell? ⟨gb124, 3, none⟩ = some (.slice A0_3 l0_3.length c0_3) := (blk_cell BK124.out 3).trans rfl
         have hcz39_4 : wr.cell? ⟨gb124, 4, none⟩ = some (.slice A0_4 l0_4.length c0_4) := (blk_cell BK124.out 4).trans rfl
         have hfz39_0 := blk_frozen BK124.out 0
         have hfz39_1 := blk_frozen BK124.out 1
         have hfz39_2 := blk_frozen BK124.out 2
         have hfz39_3 := blk_frozen BK124.out 3
         have hfz39_4 := blk_frozen BK124.out 4
         go_wp2
         go_ret
         exact ⟨by first | rfl | (simp [errW_none, errW_some] <;> rfl) | (simp [*, errW_none, errW_some] <;> rfl), by repeat (first | (with_reducible first | exact HB.out | apply below_alloc | apply pw_below_drewN | apply below_drew1 | refine below_set ?_ GE124.out) | exact HB.out)⟩
       ·rw [if_neg c34] at H
        have c34b0 : (a0_2 == 0) = false := beq_eq_false_iff_ne.mpr c34
        have c34b1 : (a0_2 != 0) = true := bne_iff_ne.mpr c34
        obtain rfl := Option.some.inj H
        have hcz40_0 : wr.cell? ⟨gb124, 0, none⟩ = some (.int .i64 a0_0) := (blk_cell BK124.out 0).trans rfl
        have hcz40_1 : wr.cell? ⟨gb124, 1, none⟩ = some (.int .i64 a0_1) := (blk_cell BK124.out 1).trans rfl
        have hcz40_2 : wr.cell? ⟨gb124, 2, none⟩ = some (.int .i64 a0_2) := (blk_cell BK124.out 2).trans rfl
        have hcz40_3 : wr.cell? ⟨gb124, 3, none⟩ = some (.slice A0_3 l0_3.length c0_3) := (blk_cell BK124.out 3).trans rfl
        have hcz40_4 : wr.cell? ⟨gb124, 4, none⟩ = some (.slice A0_4 l0_4.length c0_4) := (blk_cell BK124.out 4).trans rfl
        have hfz40_0 := blk_frozen BK124.out 0
        have hfz40_1 := blk_frozen BK124.out 1
        have hfz40_2 := blk_frozen BK124.out 2
        have hfz40_3 := blk_frozen BK124.out 3
        have hfz40_4 := blk_frozen BK124.out 4
        go_wp2
        go_ret
        exact ⟨by first | rfl | (simp [errW_none, errW_some] <;> rfl) | (simp [*, errW_none, errW_some] <;> rfl), by repeat (first | (with_reducible first | exact HB.out | apply below_alloc | apply pw_below_drewN | apply below_drew1 | refine below_set ?_ GE124.out) | exact HB.out)⟩
      ·rw [if_neg c33] at H
       have c33b0 : (a0_1 == 0) = false := beq_eq_false_iff_ne.mpr c33
       have c33b1 : (a0_1 != 0) = true := bne_iff_ne.mpr c33
       obtain rfl := Option.some.inj H
       have hcz41_0 : wr.cell? ⟨gb124, 0, none⟩ = some (.int .i64 a0_0) := (blk_cell BK124.out 0).trans rfl
       have hcz41_1 : wr.cell? ⟨gb124, 1, none⟩ = some (.int .i64 a0_1) := (blk_cell BK124.out 1).trans rfl
       have hcz41_2 : wr.cell? ⟨gb124, 2, none⟩ = some (.int .i64 a0_2) := (blk_cell BK124.out 2).trans rfl
       have hcz41_3 : wr.cell? ⟨gb124, 3, none⟩ = some (.slice A0_3 l0_3.length c0_3) := (blk_cell BK124.out 3).trans rfl
       have hcz41_4 : wr.cell? ⟨gb124, 4, none⟩ = some (.slice A0_4 l0_4.length c0_4) := (blk_cell BK124.out 4).trans rfl
       have hfz41_0 := blk_frozen BK124.out 0
       have hfz41_1 := blk_frozen BK124.out 1
       have hfz41_2 := blk_frozen BK124.out 2
       have hfz41_3 := blk_frozen BK124.out 3
       have hfz41_4 := blk_frozen BK124.out 4
       go_wp2
       go_ret
       exact ⟨by first | rfl | (simp [errW_none, errW_some] <;> rfl) | (simp [*, errW_none, errW_some] <;> rfl), by repeat (first | (with_reducible first | exact HB.out | apply below_alloc | apply pw_below_drewN | apply below_drew1 | refine below_set ?_ GE124.out) | exact HB.out)⟩
     ·rw [if_neg c32] at H
      have c32b0 : (a0_0 == 1) = false := beq_eq_false_iff_ne.mpr c32
      have c32b1 : (a0_0 != 1) = true := bne_iff_ne.mpr c32
      by_cases c42 : a0_0 = 2
      ·rw [if_pos c42] at H
       have c42b0 : (a0_0 == 2) = true := beq_iff_eq.mpr c42
       have c42b1 : (a0_0 != 2) = false := bne_eq_false_iff_eq.mpr c42
       clear c42
       have HC43 := Aside0.mk H
       clear H
       have hcz44_0 : wr.cell? ⟨gb124, 0, none⟩ = some (.int .i64 a0_0) := (blk_cell BK124.out 0).trans rfl
       have hcz44_1 : wr.cell? ⟨gb124, 1, none⟩ = some (.int .i64 a0_1) := (blk_cell BK124.out 1).trans rfl
       have hcz44_2 : wr.cell? ⟨gb124, 2, none⟩ = some (.int .i64 a0_2) := (blk_cell BK124.out 2).trans rfl
       have hcz44_3 : wr.cell? ⟨gb124, 3, none⟩ = some (.slice A0_3 l0_3.length c0_3) := (blk_cell BK124.out 3).trans rfl
       have hcz44_4 : wr.cell? ⟨gb124, 4, none⟩ = some (.slice A0_4 l0_4.length c0_4) := (blk_cell BK124.out 4).trans rfl
       have hfz44_0 := blk_frozen BK124.out 0
       have hfz44_1 := blk_frozen BK124.out 1
       have hfz44_2 := blk_frozen BK124.out 2
       have hfz44_3 := blk_frozen BK124.out 3
       have hfz44_4 := blk_frozen BK124.out 4
       go_upto_region 12 with (fail)
       go_cut [109] (fun v109 wc => ∃ (kq : Nat) (x109_42 : Bool), v109 = .bool x109_42 ∧ Aside0 (capnpref10_Valid.j1 kq x109_42 a0_0 a0_1 a0_2 l0_3 l0_4 = some r) ∧ Aside0 (kq ≤ k1) ∧ Aside0 (wc.heap[gb124]? = some (.cells #[.int .i64 a0_0, .int .i64 a0_1, .int .i64 a0_2, (.slice A0_3 l0_3.length c0_3), (.slice A0_4 l0_4.length c0_4)] 25 (0, 0))) ∧ Aside0 (Below w.heap.size w wc))
       case first =>
        have H := HC43.out
        clear HC43
        by_cases c45 : a0_2 < 0
        ·rw [if_pos c45] at H
         have c45b0 : decide (a0_2 < 0) = true := decide_eq_true c45
         clear c45
         (first | rw [c45b0] | (simp only [i64_w, i32_w]; rw [c45b0]) | skip)
         have H' := Aside0.mk H
         clear H
         have hcz46_0 : wr.cell? ⟨gb124, 0, none⟩ = some (.int .i64 a0_0) := (blk_cell BK124.out 0).trans rfl
         have hcz46_1 : wr.cell? ⟨gb124, 1, none⟩ = some (.int .i64 a0_1) := (blk_cell BK124.out 1).trans rfl
         have hcz46_2 : wr.cell? ⟨gb124, 2, none⟩ = some (.int .i64 a0_2) := (blk_cell BK124.out 2).trans rfl
         have hcz46_3 : wr.cell? ⟨gb124, 3, none⟩ = some (.slice A0_3 l0_3.length c0_3) := (blk_cell BK124.out 3).trans rfl
         have hcz46_4 : wr.cell? ⟨gb124, 4, none⟩ = some (.slice A0_4 l0_4.length c0_4) := (blk_cell BK124.out 4).trans rfl
         have hfz46_0 := blk_frozen BK124.out 0
         have hfz46_1 := blk_frozen BK124.out 1
         have hfz46_2 := blk_frozen BK124.out 2
         have hfz46_3 := blk_frozen BK124.out 3
         have hfz46_4 := blk_frozen BK124.out 4
         go_wp2
         go_meet
         case rel => exact ⟨_, (true), (by first | rfl | (simp; done) | (simp [*]; done)), H', ⟨by have := HK1.out; first | omega | exact Nat.le_refl _⟩, ⟨by (with_reducible repeat (first | refine blk_drewN ?_ _ | refine blk_drew ?_ | refine blk_alloc ?_ _)); exact BK124.out⟩, ⟨by repeat (first | (with_reducible first | exact HB.out | apply below_alloc | apply pw_below_drewN | apply below_drew1 | refine below_set ?_ GE124.out) | exact HB.out)⟩⟩
        ·rw [if_neg c45] at H
         have c45b0 : decide (a0_2 < 0) = false := decide_eq_false c45
         clear c45
         (first | rw [c45b0] | (simp only [i64_w, i32_w]; rw [c45b0]) | skip)
         by_cases c47 : a0_2 > 536870911
         ·rw [if_pos c47] at H
          have c47b0 : decide (536870911 < a0_2) = true := decide_eq_true c47
          clear c47
          have H' := Aside0.mk H
          clear H
          have hcz48_0 : wr.cell? ⟨gb124, 0, none⟩ = some (.int .i64 a0_0) := (blk_cell BK124.out 0).trans rfl
          have hcz48_1 : wr.cell? ⟨gb124, 1, none⟩ = some (.int .i64 a0_1) := (blk_cell BK124.out 1).trans rfl
          have hcz48_2 : wr.cell? ⟨gb124, 2, none⟩ = some (.int .i64 a0_2) := (blk_cell BK124.out 2).trans rfl
          have hcz48_3 : wr.cell? ⟨gb124, 3, none⟩ = some (.slice A0_3 l0_3.length c0_3) := (blk_cell BK124.out 3).trans rfl
          have hcz48_4 : wr.cell? ⟨gb124, 4, none⟩ = some (.slice A0_4 l0_4.length c0_4) := (blk_cell BK124.out 4).trans rfl
          have hfz48_0 := blk_frozen BK124.out 0
          have hfz48_1 := blk_frozen BK124.out 1
          have hfz48_2 := blk_frozen BK124.out 2
          have hfz48_3 := blk_frozen BK124.out 3
          have hfz48_4 := blk_frozen BK124.out 4
          go_wp2
          go_meet
          case rel => exact ⟨_, (true), (by first | rfl | (simp; done) | (simp [*]; done)), H', ⟨by have := HK1.out; first | omega | exact Nat.le_refl _⟩, ⟨by (with_reducible repeat (first | refine blk_drewN ?_ _ | refine blk_drew ?_ | refine blk_alloc ?_ _)); exact BK124.out⟩, ⟨by repeat (first | (with_reducible first | exact HB.out | apply below_alloc | apply pw_below_drewN | apply below_drew1 | refine below_set ?_ GE124.out) | exact HB.out)⟩⟩
         ·rw [if_neg c47] at H
          have c47b0 : decide (536870911 < a0_2) = false := decide_eq_false c47
          clear c47
          by_cases c49 : a0_1 < 0
          ·rw [if_pos c49] at H
           have c49b0 : decide (a0_1 < 0) = true := decide_eq_true c49
           clear c49
           have H' := Aside0.mk H
           clear H
           have hcz50_0 : wr.cell? ⟨gb124, 0, none⟩ = some (.int .i64 a0_0) := (blk_cell BK124.out 0).trans rfl
           have hcz50_1 : wr.cell? ⟨gb124, 1, none⟩ = some (.int .i64 a0_1) := (blk_cell BK124.out 1).trans rfl
           have hcz50_2 : wr.cell? ⟨gb124, 2, none⟩ = some (.int .i64 a0_2) := (blk_cell BK124.out 2).trans rfl
           have hcz50_3 : wr.cell? ⟨gb124, 3, none⟩ = some (.slice A0_3 l0_3.length c0_3) := (blk_cell BK124.out 3).trans rfl
           have hcz50_4 : wr.cell? ⟨gb124, 4, none⟩ = some (.slice A0_4 l0_4.length c0_4) := (blk_cell BK124.out 4).trans rfl
           have hfz50_0 := blk_frozen BK124.out 0
           have hfz50_1 := blk_frozen BK124.out 1
           have hfz50_2 := blk_frozen BK124.out 2
           have hfz50_3 := blk_frozen BK124.out 3
           have hfz50_4 := blk_frozen BK124.out 4
           go_wp2
           go_meet
           case rel => exact ⟨_, (true), (by first | rfl | (simp; done) | (simp [*]; done)), H', ⟨by have := HK1.out; first | omega | exact Nat.le_refl _⟩, ⟨by (with_reducible repeat (first | refine blk_drewN ?_ _ | refine blk_drew ?_ | refine blk_alloc ?_ _)); exact BK124.out⟩, ⟨by repeat (first | (with_reducible first | exact HB.out | apply below_alloc | apply pw_below_drewN | apply below_drew1 | refine below_set ?_ GE124.out) | exact HB.out)⟩⟩
          ·rw [if_neg c49] at H
           have c49b0 : decide (a0_1 < 0) = false := decide_eq_false c49
           clear c49
           have H' := Aside0.mk H
           clear H
           have hcz51_0 : wr.cell? ⟨gb124, 0, none⟩ = some (.int .i64 a0_0) := (blk_cell BK124.out 0).trans rfl
           have hcz51_1 : wr.cell? ⟨gb124, 1, none⟩ = some (.int .i64 a0_1) := (blk_cell BK124.out 1).trans rfl
           have hcz51_2 : wr.cell? ⟨gb124, 2, none⟩ = some (.int .i64 a0_2) := (blk_cell BK124.out 2).trans rfl
           have hcz51_3 : wr.cell? ⟨gb124, 3, none⟩ = some (.slice A0_3 l0_3.length c0_3) := (blk_cell BK124.out 3).trans rfl
           have hcz51_4 : wr.cell? ⟨gb124, 4, none⟩ = some (.slice A0_4 l0_4.length c0_4) := (blk_cell BK124.out 4).trans rfl
           have hfz51_0 := blk_frozen BK124.out 0
           have hfz51_1 := blk_frozen BK124.out 1
           have hfz51_2 := blk_frozen BK124.out 2
           have hfz51_3 := blk_frozen BK124.out 3
           have hfz51_4 := blk_frozen BK124.out 4
           go_wp2
           go_meet
           case rel => exact ⟨_, (decide (a0_1 > 7)), (by first | rfl | (simp; done) | (simp [*]; done)), H', ⟨by have := HK1.out; first | omega | exact Nat.le_refl _⟩, ⟨by (with_reducible repeat (first | refine blk_drewN ?_ _ | refine blk_drew ?_ | refine blk_alloc ?_ _)); exact BK124.out⟩, ⟨by repeat (first | (with_reducible first | exact HB.out | apply below_alloc | apply pw_below_drewN | apply below_drew1 | refine below_set ?_ GE124.out) | exact HB.out)⟩⟩
       case rest =>
        clear HC43
        try clear c1
        try clear p1
        try clear q1
        try clear hx1
        try clear c2
        try clear p2
        try clear c3
        try clear c3b0
        try clear c4
        try clear c4b0
        try clear c6
        try clear p6
        try clear c7
        try clear c7b0
        try clear c7b1
        try clear c8
        try clear c8b0
        try clear c8b1
        try clear c9
        try clear c9b0
        try clear c9b1
        try clear c11
        try clear c12
        try clear p12
        try clear q12
        try clear hx12
        try clear c24
        try clear c24b0
        try clear c24b1
        try clear c25
        try clear c25b0
        try clear c25b1
        try clear c26
        try clear c26b0
        try clear c26b1
        try clear c27
        try clear c27b0
        try clear c27b1
        try clear c27b2
        try clear c32
        try clear c32b0
        try clear c32b1
        try clear c33
        try clear c33b0
        try clear c33b1
        try clear c34
        try clear c34b0
        try clear c34b1
        try clear c35
        try clear c35b0
        try clear c35b1
        try clear c36
        try clear c36b0
        try clear c36b1
        try clear c42
        try clear c42b0
        try clear c42b1
        try clear c45
        try clear c45b0
        try clear c47
        try clear c47b0
        try clear c49
        try clear c49b0
        try clear hcz10_0
        try clear hcz10_1
        try clear hcz10_2
        try clear hcz10_3
        try clear hcz10_4
        try clear hcz12_0
        try clear hcz12_1
        try clear hcz12_2
        try clear hcz12_3
        try clear hcz12_4
        try clear hcz13_0
        try clear hcz13_1
        try clear hcz13_2
        try clear hcz13_3
        try clear hcz13_4
        try clear hcz15_0
        try clear hcz15_1
        try clear hcz15_2
        try clear hcz15_3
        try clear hcz15_4
        try clear hcz16_0
        try clear hcz16_1
        try clear hcz16_2
        try clear hcz16_3
        try clear hcz16_4
        try clear hcz18_0
        try clear hcz18_1
        try clear hcz18_2
        try clear hcz18_3
        try clear hcz18_4
        try clear hcz19_0
        try clear hcz19_1
        try clear hcz19_2
        try clear hcz19_3
        try clear hcz19_4
        try clear hcz21_0
        try clear hcz21_1
        try clear hcz21_2
        try clear hcz21_3
        try clear hcz21_4
        try clear hcz22_0
        try clear hcz22_1
        try clear hcz22_2
        try clear hcz22_3
        try clear hcz22_4
        try clear hcz28_0
        try clear hcz28_1
        try clear hcz28_2
        try clear hcz28_3
        try clear hcz28_4
        try clear hcz29_0
        try clear hcz29_1
        try clear hcz29_2
        try clear hcz29_3
        try clear hcz29_4
        try clear hcz30_0
        try clear hcz30_1
        try clear hcz30_2
        try clear hcz30_3
        try clear hcz30_4
        try clear hcz31_0
        try clear hcz31_1
        try clear hcz31_2
        try clear hcz31_3
        try clear hcz31_4
        try clear hcz37_0
        try clear hcz37_1
        try clear hcz37_2
        try clear hcz37_3
        try clear hcz37_4
        try clear hcz38_0
        try clear hcz38_1
        try clear hcz38_2
        try clear hcz38_3
        try clear hcz38_4
        try clear hcz39_0
        try clear hcz39_1
        try clear hcz39_2
        try clear hcz39_3
        try clear hcz39_4
        try clear hcz40_0
        try clear hcz40_1
        try clear hcz40_2
        try clear hcz40_3
        try clear hcz40_4
        try clear hcz41_0
        try clear hcz41_1
        try clear hcz41_2
        try clear hcz41_3
        try clear hcz41_4
        try clear hcz44_0
        try clear hcz44_1
        try clear hcz44_2
        try clear hcz44_3
        try clear hcz44_4
        try clear hcz46_0
        try clear hcz46_1
        try clear hcz46_2
        try clear hcz46_3
        try clear hcz46_4
        try clear hcz48_0
        try clear hcz48_1
        try clear hcz48_2
        try clear hcz48_3
        try clear hcz48_4
        try clear hcz50_0
        try clear hcz50_1
        try clear hcz50_2
        try clear hcz50_3
        try clear hcz50_4
        try clear hcz51_0
        try clear hcz51_1
        try clear hcz51_2
        try clear hcz51_3
        try clear hcz51_4
        try clear hfz10_0
        try clear hfz10_1
        try clear hfz10_2
        try clear hfz10_3
        try clear hfz10_4
        try clear hfz12_0
        try clear hfz12_1
        try clear hfz12_2
        try clear hfz12_3
        try clear hfz12_4
        try clear hfz13_0
        try clear hfz13_1
        try clear hfz13_2
        try clear hfz13_3
        try clear hfz13_4
        try clear hfz15_0
        try clear hfz15_1
        try clear hfz15_2
        try clear hfz15_3
        try clear hfz15_4
        try clear hfz16_0
        try clear hfz16_1
        try clear hfz16_2
        try clear hfz16_3
        try clear hfz16_4
        try clear hfz18_0
        try clear hfz18_1
        try clear hfz18_2
        try clear hfz18_3
        try clear hfz18_4
        try clear hfz19_0
        try clear hfz19_1
        try clear hfz19_2
        try clear hfz19_3
        try clear hfz19_4
        try clear hfz21_0
        try clear hfz21_1
        try clear hfz21_2
        try clear hfz21_3
        try clear hfz21_4
        try clear hfz22_0
        try clear hfz22_1
        try clear hfz22_2
        try clear hfz22_3
        try clear hfz22_4
        try clear hfz28_0
        try clear hfz28_1
        try clear hfz28_2
        try clear hfz28_3
        try clear hfz28_4
        try clear hfz29_0
        try clear hfz29_1
        try clear hfz29_2
        try clear hfz29_3
        try clear hfz29_4
        try clear hfz30_0
        try clear hfz30_1
        try clear hfz30_2
        try clear hfz30_3
        try clear hfz30_4
        try clear hfz31_0
        try clear hfz31_1
        try clear hfz31_2
        try clear hfz31_3
        try clear hfz31_4
        try clear hfz37_0
        try clear hfz37_1
        try clear hfz37_2
        try clear hfz37_3
        try clear hfz37_4
        try clear hfz38_0
        try clear hfz38_1
        try clear hfz38_2
        try clear hfz38_3
        try clear hfz38_4
        try clear hfz39_0
        try clear hfz39_1
        try clear hfz39_2
        try clear hfz39_3
        try clear hfz39_4
        try clear hfz40_0
        try clear hfz40_1
        try clear hfz40_2
        try clear hfz40_3
        try clear hfz40_4
        try clear hfz41_0
        try clear hfz41_1
        try clear hfz41_2
        try clear hfz41_3
        try clear hfz41_4
        try clear hfz44_0
        try clear hfz44_1
        try clear hfz44_2
        try clear hfz44_3
        try clear hfz44_4
        try clear hfz46_0
        try clear hfz46_1
        try clear hfz46_2
        try clear hfz46_3
        try clear hfz46_4
        try clear hfz48_0
        try clear hfz48_1
        try clear hfz48_2
        try clear hfz48_3
        try clear hfz48_4
        try clear hfz50_0
        try clear hfz50_1
        try clear hfz50_2
        try clear hfz50_3
        try clear hfz50_4
        try clear hfz51_0
        try clear hfz51_1
        try clear hfz51_2
        try clear hfz51_3
        try clear hfz51_4
        try clear hx125_0
        try clear hx125_1
        try clear hx125_2
        try clear hx125_3
        try clear hx125_4
        try clear hx127_0
        try clear hx127_1
        try clear hx127_2
        try clear hx127_3
        try clear hx127_4
        try clear p125
        try clear p127
        try clear p2
        try clear q125
        try clear q127
        obtain ⟨kq, x109_42, rfl, HA, HJ42, BK124, HB⟩ := hcut
        cases kq with
        | zero => exact absurd HA.out (by simp [capnpref10_Valid.j1])
        | succ kj42 =>
         have H := HA.out
         clear HA
         simp only [capnpref10_Valid.j1] at H
         by_cases c52 : x109_42 = true
         ·subst c52
          have H1 : (some false) = some r := by rw [if_pos rfl] at H; exact H
          clear H
          have H := H1
          clear H1
          obtain rfl := Option.some.inj H
          go_wp2
          go_ret
          exact ⟨by first | rfl | (simp [errW_none, errW_some] <;> rfl) | (simp [*, errW_none, errW_some] <;> rfl), by repeat (first | (with_reducible first | exact HB.out | apply below_alloc | apply pw_below_drewN | apply below_drew1 | refine below_set ?_ GE124.out) | exact HB.out)⟩
         ·replace c52 := Bool.eq_false_iff.mpr c52
          subst c52
          have H1 : (if a0_1 ≥ 6 then (if (l0_3.length : Int) = 0 then (some ((l0_4.length : Int) == a0_2)) else (some false)) else (if (l0_4.length : Int) = 0 then ((capnpref06_Bytes.f a0_1 a0_2).bind fun t128 => (capnpref10_Valid.j2 kj42 ((l0_3.length : Int) != t128) a0_0 a0_1 a0_2 l0_3 l0_4)) else (capnpref10_Valid.j2 kj42 true a0_0 a0_1 a0_2 l0_3 l0_4))) = some r := by rw [if_neg (show ¬ (false = true) by decide)] at H; exact H
          clear H
          have H := H1
          clear H1
          by_cases c53 : a0_1 ≥ 6
          ·rw [if_pos c53] at H
           have c53b0 : decide (6 ≤ a0_1) = true := decide_eq_true c53
           clear c53
           by_cases c54 : (l0_3.length : Int) = 0
           ·rw [if_pos c54] at H
            have c54b0 : ((l0_3.length : Int) == 0) = true := beq_iff_eq.mpr c54
            have c54b1 : ((l0_3.length : Int) != 0) = false := bne_eq_false_iff_eq.mpr c54
            clear c54
            obtain rfl := Option.some.inj H
            have hcz55_0 : wc.cell? ⟨gb124, 0, none⟩ = some (.int .i64 a0_0) := (blk_cell BK124.out 0).trans rfl
            have hcz55_1 : wc.cell? ⟨gb124, 1, none⟩ = some (.int .i64 a0_1) := (blk_cell BK124.out 1).trans rfl
            have hcz55_2 : wc.cell? ⟨gb124, 2, none⟩ = some (.int .i64 a0_2) := (blk_cell BK124.out 2).trans rfl
            have hcz55_3 : wc.cell? ⟨gb124, 3, none⟩ = some (.slice A0_3 l0_3.length c0_3) := (blk_cell BK124.out 3).trans rfl
            have hcz55_4 : wc.cell? ⟨gb124, 4, none⟩ = some (.slice A0_4 l0_4.length c0_4) := (blk_cell BK124.out 4).trans rfl
            have hfz55_0 := blk_frozen BK124.out 0
            have hfz55_1 := blk_frozen BK124.out 1
            have hfz55_2 := blk_frozen BK124.out 2
            have hfz55_3 := blk_frozen BK124.out 3
            have hfz55_4 := blk_frozen BK124.out 4
            go_wp2
            go_ret
            exact ⟨by first | rfl | (simp [errW_none, errW_some] <;> rfl) | (simp [*, errW_none, errW_some] <;> rfl), by repeat (first | (with_reducible first | exact HB.out | apply below_alloc | apply pw_below_drewN | apply below_drew1 | refine below_set ?_ GE124.out) | exact HB.out)⟩
           ·rw [if_neg c54] at H
            have c54b0 : ((l0_3.length : Int) == 0) = false := beq_eq_false_iff_ne.mpr c54
            have c54b1 : ((l0_3.length : Int) != 0) = true := bne_iff_ne.mpr c54
            have c54b2 : ¬ (l0_3 = []) := fun h_ => c54 (by rw [h_]; rfl)
            obtain rfl := Option.some.inj H
            have hcz56_0 : wc.cell? ⟨gb124, 0, none⟩ = some (.int .i64 a0_0) := (blk_cell BK124.out 0).trans rfl
            have hcz56_1 : wc.cell? ⟨gb124, 1, none⟩ = some (.int .i64 a0_1) := (blk_cell BK124.out 1).trans rfl
            have hcz56_2 : wc.cell? ⟨gb124, 2, none⟩ = some (.int .i64 a0_2) := (blk_cell BK124.out 2).trans rfl
            have hcz56_3 : wc.cell? ⟨gb124, 3, none⟩ = some (.slice A0_3 l0_3.length c0_3) := (blk_cell BK124.out 3).trans rfl
            have hcz56_4 : wc.cell? ⟨gb124, 4, none⟩ = some (.slice A0_4 l0_4.length c0_4) := (blk_cell BK124.out 4).trans rfl
            have hfz56_0 := blk_frozen BK124.out 0
            have hfz56_1 := blk_frozen BK124.out 1
            have hfz56_2 := blk_frozen BK124.out 2
            have hfz56_3 := blk_frozen BK124.out 3
            have hfz56_4 := blk_frozen BK124.out 4
            go_wp2
            go_ret
            exact ⟨by first | rfl | (simp [errW_none, errW_some] <;> rfl) | (simp [*, errW_none, errW_some] <;> rfl), by repeat (first | (with_reducible first | exact HB.out | apply below_alloc | apply pw_below_drewN | apply below_drew1 | refine below_set ?_ GE124.out) | exact HB.out)⟩
          ·rw [if_neg c53] at H
           have c53b0 : decide (6 ≤ a0_1) = false := decide_eq_false c53
           clear c53
           have HC57 := Aside0.mk H
           clear H
           have hcz58_0 : wc.cell? ⟨gb124, 0, none⟩ = some (.int .i64 a0_0) := (blk_cell BK124.out 0).trans rfl
           have hcz58_1 : wc.cell? ⟨gb124, 1, none⟩ = some (.int .i64 a0_1) := (blk_cell BK124.out 1).trans rfl
           have hcz58_2 : wc.cell? ⟨gb124, 2, none⟩ = some (.int .i64 a0_2) := (blk_cell BK124.out 2).trans rfl
           have hcz58_3 : wc.cell? ⟨gb124, 3, none⟩ = some (.slice A0_3 l0_3.length c0_3) := (blk_cell BK124.out 3).trans rfl
           have hcz58_4 : wc.cell? ⟨gb124, 4, none⟩ = some (.slice A0_4 l0_4.length c0_4) := (blk_cell BK124.out 4).trans rfl
           have hfz58_0 := blk_frozen BK124.out 0
           have hfz58_1 := blk_frozen BK124.out 1
           have hfz58_2 := blk_frozen BK124.out 2
           have hfz58_3 := blk_frozen BK124.out 3
           have hfz58_4 := blk_frozen BK124.out 4
           go_upto_region 16 with (fail)
           go_cut [139] (fun v139 wc => ∃ (kq : Nat) (x139_56 : Bool), v139 = .bool x139_56 ∧ Aside0 (capnpref10_Valid.j2 kq x139_56 a0_0 a0_1 a0_2 l0_3 l0_4 = some r) ∧ Aside0 (kq ≤ kj42) ∧ Aside0 (wc.heap[gb124]? = some (.cells #[.int .i64 a0_0, .int .i64 a0_1, .int .i64 a0_2, (.slice A0_3 l0_3.length c0_3), (.slice A0_4 l0_4.length c0_4)] 25 (0, 0))) ∧ Aside0 (Below w.heap.size w wc))
           case first =>
            have H := HC57.out
            clear HC57
            by_cases c59 : (l0_4.length : Int) = 0
            ·rw [if_pos c59] at H
             have c59b0 : ((l0_4.length : Int) == 0) = true := beq_iff_eq.mpr c59
             have c59b1 : ((l0_4.length : Int) != 0) = false := bne_eq_false_iff_eq.mpr c59
             clear c59
             (first | rw [c59b0] | (simp only [i64_w, i32_w]; rw [c59b0]) | skip)
             replace H := Option.bind_eq_some_iff.mp H
             obtain ⟨t128, A600, H⟩ := H
             replace H : (capnpref10_Valid.j2 kj42 ((l0_3.length : Int) != t128) a0_0 a0_1 a0_2 l0_3 l0_4) = some r := H
             have A60 := Aside0.mk A600
             clear A600
             have H' := Aside0.mk H
             clear H
             try go_wp2
             have n0_ := Aside0.mk (blk_drew BK124.out)
             have n1_ := Aside0.mk (below_drew1 HB.out)
             clear BK124
             clear HB
             have BK124 := n0_
             have HB := n1_
             clear n0_ n1_
             refine start_ (n := 15) (S := fun w' => w'.cell? ⟨gb124, 0, none⟩ = some (.int .i64 a0_0) ∧ w'.cell? ⟨gb124, 1, none⟩ = some (.int .i64 a0_1) ∧ w'.cell? ⟨gb124, 2, none⟩ = some (.int .i64 a0_2) ∧ w'.cell? ⟨gb124, 3, none⟩ = some (.slice A0_3 l0_3.length c0_3) ∧ w'.cell? ⟨gb124, 4, none⟩ = some (.slice A0_4 l0_4.length c0_4)) (ds := []) #[false, false, false, false, false, false, false, false, false, false, false, false, false, false, false] (by kernel_rfl) rfl rfl ⟨(blk_cell BK124.out 0).trans rfl, (blk_cell BK124.out 1).trans rfl, (blk_cell BK124.out 2).trans rfl, (blk_cell BK124.out 3).trans rfl, (blk_cell BK124.out 4).trans rfl⟩ (fun hHeld => ?_); refine with_tabW capnpref10_Valid.tab16 capnpref10_Valid.bits16 (fun HT_ HW_ => ?_)
             generalize wc.drew = w61 at BK124 HB hHeld ⊢
             refine pure_ (i := 0) (N := some 125) (v := ?_) (a' := ?_) #[true, false, false, false, false, false, false, false, false, false, false, false, false, false, false] rfl rfl (any_of HT_.out (by kernel_rfl)) (fun _ _ _ h => h) (Or.inl ⟨by rfl, ?_⟩) ?_ ?_
             rotate_left
             ·intro w'
              go_simp
              with_reducible rfl
             rotate_left
             ·simp only [Act.put, List.setIfInBounds_toArray, List.set_cons_zero, List.set_cons_succ, i64_w, i32_w]
              rfl
             refine take_ (i := 1) (N := some 126) (v := ?_) (a' := ?_) #[true, true, false, false, false, false, false, false, false, false, false, false, false, false, false] rfl rfl (take_ofW HT_.out HW_.out (by kernel_rfl)) (fun _ _ _ h => h) (Or.inl ⟨by rfl, ?_⟩) hHeld ?_ ?_
             rotate_left
             ·rintro w' ⟨s0, s1, s2, s3, s4⟩
              go_simp
              with_reducible rfl
             rotate_left
             ·simp only [Act.put, List.setIfInBounds_toArray, List.set_cons_zero, List.set_cons_succ, i64_w, i32_w]
              rfl
             refine pure_ (i := 2) (N := some 127) (v := ?_) (a' := ?_) #[true, true, true, false, false, false, false, false, false, false, false, false, false, false, false] rfl rfl (any_of HT_.out (by kernel_rfl)) (fun _ _ _ h => h) (Or.inl ⟨by rfl, ?_⟩) ?_ ?_
             rotate_left
             ·intro w'
              go_simp
              with_reducible rfl
             rotate_left
             ·simp only [Act.put, List.setIfInBounds_toArray, List.set_cons_zero, List.set_cons_succ, i64_w, i32_w]
              rfl
             refine pure_ (i := 3) (N := some 128) (v := ?_) (a' := ?_) #[true, true, true, true, false, false, false, false, false, false, false, false, false, false, false] rfl rfl (any_of HT_.out (by kernel_rfl)) (fun _ _ _ h => h) (Or.inl ⟨by rfl, ?_⟩) ?_ ?_
             rotate_left
             ·intro w'
              go_simp
              with_reducible rfl
             rotate_left
             ·simp only [Act.put, List.setIfInBounds_toArray, List.set_cons_zero, List.set_cons_succ, i64_w, i32_w]
              rfl
             refine pure_ (i := 4) (N := some 129) (v := ?_) (a' := ?_) #[true, true, true, true, true, false, false, false, false, false, false, false, false, false, false] rfl rfl (any_of HT_.out (by kernel_rfl)) (fun _ _ _ h => h) (Or.inl ⟨by rfl, ?_⟩) ?_ ?_
             rotate_left
             ·intro w'
              go_simp
              with_reducible rfl
             rotate_left
             ·simp only [Act.put, List.setIfInBounds_toArray, List.set_cons_zero, List.set_cons_succ, i64_w, i32_w]
              rfl
             refine pure_ (i := 5) (N := some 130) (v := ?_) (a' := ?_) #[true, true, true, true, true, true, false, false, false, false, false, false, false, false, false] rfl rfl (any_of HT_.out (by kernel_rfl)) (fun _ _ _ h => h) (Or.inl ⟨by rfl, ?_⟩) ?_ ?_
             rotate_left
             ·intro w'
              go_simp
              with_reducible rfl
             rotate_left
             ·simp only [Act.put, List.setIfInBounds_toArray, List.set_cons_zero, List.set_cons_succ, i64_w, i32_w]
              rfl
             refine pure_ (i := 8) (N := some 133) (v := ?_) (a' := ?_) #[true, true, true, true, true, true, false, false, true, false, false, false, false, false, false] rfl rfl (any_of HT_.out (by kernel_rfl)) (fun _ _ _ h => h) (Or.inl ⟨by rfl, ?_⟩) ?_ ?_
             rotate_left
             ·intro w'
              go_simp
              with_reducible rfl
             rotate_left
             ·simp only [Act.put, List.setIfInBounds_toArray, List.set_cons_zero, List.set_cons_succ, i64_w, i32_w]
              rfl
             refine pure_ (i := 10) (N := some 135) (v := ?_) (a' := ?_) #[true, true, true, true, true, true, false, false, true, false, true, false, false, false, false] rfl rfl (any_of HT_.out (by kernel_rfl)) (fun _ _ _ h => h) (Or.inl ⟨by rfl, ?_⟩) ?_ ?_
             rotate_left
             ·intro w'
              go_simp
              with_reducible rfl
             rotate_left
             ·simp only [Act.put, List.setIfInBounds_toArray, List.set_cons_zero, List.set_cons_succ, i64_w, i32_w]
              rfl
             refine take_ (i := 6) (N := some 131) (v := ?_) (a' := ?_) #[true, true, true, true, true, true, true, false, true, false, true, false, false, false, false] rfl rfl (take_ofW HT_.out HW_.out (by kernel_rfl)) (fun _ _ _ h => h) (Or.inl ⟨by rfl, ?_⟩) hHeld ?_ ?_
             rotate_left
             ·rintro w' ⟨s0, s1, s2, s3, s4⟩
              go_simp
              with_reducible rfl
             rotate_left
             ·simp only [Act.put, List.setIfInBounds_toArray, List.set_cons_zero, List.set_cons_succ, i64_w, i32_w]
              rfl
             refine pure_ (i := 7) (N := some 132) (v := ?_) (a' := ?_) #[true, true, true, true, true, true, true, true, true, false, true, false, false, false, false] rfl rfl (any_of HT_.out (by kernel_rfl)) (fun _ _ _ h => h) (Or.inl ⟨by rfl, ?_⟩) ?_ ?_
             rotate_left
             ·intro w'
              go_simp
              with_reducible rfl
             rotate_left
             ·simp only [Act.put, List.setIfInBounds_toArray, List.set_cons_zero, List.set_cons_succ, i64_w, i32_w]
              rfl
             refine take_ (i := 9) (N := some 134) (v := ?_) (a' := ?_) #[true, true, true, true, true, true, true, true, true, true, true, false, false, false, false] rfl rfl (take_ofW HT_.out HW_.out (by kernel_rfl)) (fun _ _ _ h => h) (Or.inl ⟨by rfl, ?_⟩) hHeld ?_ ?_
             rotate_left
             ·rintro w' ⟨s0, s1, s2, s3, s4⟩
              go_simp
              with_reducible rfl
             rotate_left
             ·simp only [Act.put, List.setIfInBounds_toArray, List.set_cons_zero, List.set_cons_succ, i64_w, i32_w]
              rfl
             refine take_ (i := 11) (N := some 136) (v := ?_) (a' := ?_) #[true, true, true, true, true, true, true, true, true, true, true, true, false, false, false] rfl rfl (take_ofW HT_.out HW_.out (by kernel_rfl)) (fun _ _ _ h => h) (Or.inl ⟨by rfl, ?_⟩) hHeld ?_ ?_
             rotate_left
             ·rintro w' ⟨s0, s1, s2, s3, s4⟩
              go_simp
              with_reducible rfl
             rotate_left
             ·simp only [Act.put, List.setIfInBounds_toArray, List.set_cons_zero, List.set_cons_succ, i64_w, i32_w]
              rfl
             refine one_ (i := 12) (N := some 137) #[true, true, true, true, true, true, true, true, true, true, true, true, true, false, false] rfl rfl (one_of HT_.out (by kernel_rfl)) (by decide) (fun K hK => ?_)
             refine goes_ Tryd.func23 (by kernel_rfl) rfl #[.int .i64 a0_1, .int .i64 a0_2] (by rfl) rfl rfl (by (try simp only [List.map_toArray, List.map_cons, List.map_nil]); first | done | rfl | (simp only [List.length_drop, List.length_take]; rfl)) ?_
             with_reducible refine (capnpref06_Bytes.calls a0_1 a0_2 t128 _ A60.out).mono ?_
             rintro e w' ⟨rfl, ⟨nd, rfl⟩⟩
             refine ⟨_, rfl, ?_⟩
             refine hK.out _ _ ⟨(blk_cell BK124.out 0).trans rfl, (blk_cell BK124.out 1).trans rfl, (blk_cell BK124.out 2).trans rfl, (blk_cell BK124.out 3).trans rfl, (blk_cell BK124.out 4).trans rfl⟩ (fun hHeld => ?_)
             clear hK K
             refine norm_ (a' := ?_) ?_ ?_
             rotate_left
             ·show Act.put _ (some 137) _ = _
              simp only [Act.put, List.setIfInBounds_toArray, List.set_cons_zero, List.set_cons_succ, i64_w, i32_w]
              rfl
             refine pure_ (i := 13) (N := some 138) (v := ?_) (a' := ?_) #[true, true, true, true, true, true, true, true, true, true, true, true, true, true, false] rfl rfl (any_of HT_.out (by kernel_rfl)) (fun _ _ _ h => h) (Or.inl ⟨by rfl, ?_⟩) ?_ ?_
             rotate_left
             ·intro w'
              go_simp
              with_reducible rfl
             rotate_left
             ·simp only [Act.put, List.setIfInBounds_toArray, List.set_cons_zero, List.set_cons_succ, i64_w, i32_w]
              rfl
             refine pure_ (i := 14) (N := some 139) (v := ?_) (a' := ?_) #[true, true, true, true, true, true, true, true, true, true, true, true, true, true, true] rfl rfl (any_of HT_.out (by kernel_rfl)) (fun _ _ _ h => h) (Or.inl ⟨by rfl, ?_⟩) ?_ ?_
             rotate_left
             ·intro w'
              go_simp
              with_reducible rfl
             rotate_left
             ·simp only [Act.put, List.setIfInBounds_toArray, List.set_cons_zero, List.set_cons_succ, i64_w, i32_w]
              rfl
             refine done_ (done_of HT_.out (by kernel_rfl)) ?_
             try go_wp2
             go_meet
             case rel => exact ⟨_, (((l0_3.length : Int) != t128)), (by first | rfl | (simp; done) | (simp [*]; done)), H', ⟨by have := HK1.out; have := HJ42.out; first | omega | exact Nat.le_refl _⟩, ⟨by (with_reducible repeat (first | refine blk_drewN ?_ _ | refine blk_drew ?_ | refine blk_alloc ?_ _)); exact BK124.out⟩, ⟨by repeat (first | (with_reducible first | exact HB.out | apply below_alloc | apply pw_below_drewN | apply below_drew1 | refine below_set ?_ GE124.out) | exact HB.out)⟩⟩
            ·rw [if_neg c59] at H
             have c59b0 : ((l0_4.length : Int) == 0) = false := beq_eq_false_iff_ne.mpr c59
             have c59b1 : ((l0_4.length : Int) != 0) = true := bne_iff_ne.mpr c59
             have c59b2 : ¬ (l0_4 = []) := fun h_ => c59 (by rw [h_]; rfl)
             (first | rw [c59b0] | (simp only [i64_w, i32_w]; rw [c59b0]) | skip)
             have H' := Aside0.mk H
             clear H
             try go_wp2
             have n0_ := Aside0.mk (blk_drew BK124.out)
             have n1_ := Aside0.mk (below_drew1 HB.out)
             clear BK124
             clear HB
             have BK124 := n0_
             have HB := n1_
             clear n0_ n1_
             refine start_ (n := 15) (S := fun w' => w'.cell? ⟨gb124, 0, none⟩ = some (.int .i64 a0_0) ∧ w'.cell? ⟨gb124, 1, none⟩ = some (.int .i64 a0_1) ∧ w'.cell? ⟨gb124, 2, none⟩ = some (.int .i64 a0_2) ∧ w'.cell? ⟨gb124, 3, none⟩ = some (.slice A0_3 l0_3.length c0_3) ∧ w'.cell? ⟨gb124, 4, none⟩ = some (.slice A0_4 l0_4.length c0_4)) (ds := []) #[false, false, false, false, false, false, false, false, false, false, false, false, false, false, false] (by kernel_rfl) rfl rfl ⟨(blk_cell BK124.out 0).trans rfl, (blk_cell BK124.out 1).trans rfl, (blk_cell BK124.out 2).trans rfl, (blk_cell BK124.out 3).trans rfl, (blk_cell BK124.out 4).trans rfl⟩ (fun hHeld => ?_); refine with_tabW capnpref10_Valid.tab16 capnpref10_Valid.bits16 (fun HT_ HW_ => ?_)
             generalize wc.drew = w62 at BK124 HB hHeld ⊢
             refine pure_ (i := 0) (N := some 125) (v := ?_) (a' := ?_) #[true, false, false, false, false, false, false, false, false, false, false, false, false, false, false] rfl rfl (any_of HT_.out (by kernel_rfl)) (fun _ _ _ h => h) (Or.inl ⟨by rfl, ?_⟩) ?_ ?_
             rotate_left
             ·intro w'
              go_simp
              with_reducible rfl
             rotate_left
             ·simp only [Act.put, List.setIfInBounds_toArray, List.set_cons_zero, List.set_cons_succ, i64_w, i32_w]
              rfl
             refine take_ (i := 1) (N := some 126) (v := ?_) (a' := ?_) #[true, true, false, false, false, false, false, false, false, false, false, false, false, false, false] rfl rfl (take_ofW HT_.out HW_.out (by kernel_rfl)) (fun _ _ _ h => h) (Or.inl ⟨by rfl, ?_⟩) hHeld ?_ ?_
             rotate_left
             ·rintro w' ⟨s0, s1, s2, s3, s4⟩
              go_simp
              with_reducible rfl
             rotate_left
             ·simp only [Act.put, List.setIfInBounds_toArray, List.set_cons_zero, List.set_cons_succ, i64_w, i32_w]
              rfl
             refine pure_ (i := 2) (N := some 127) (v := ?_) (a' := ?_) #[true, true, true, false, false, false, false, false, false, false, false, false, false, false, false] rfl rfl (any_of HT_.out (by kernel_rfl)) (fun _ _ _ h => h) (Or.inl ⟨by rfl, ?_⟩) ?_ ?_
             rotate_left
             ·intro w'
              go_simp
              with_reducible rfl
             rotate_left
             ·simp only [Act.put, List.setIfInBounds_toArray, List.set_cons_zero, List.set_cons_succ, i64_w, i32_w]
              rfl
             refine pure_ (i := 3) (N := some 128) (v := ?_) (a' := ?_) #[true, true, true, true, false, false, false, false, false, false, false, false, false, false, false] rfl rfl (any_of HT_.out (by kernel_rfl)) (fun _ _ _ h => h) (Or.inl ⟨by rfl, ?_⟩) ?_ ?_
             rotate_left
             ·intro w'
              go_simp
              with_reducible rfl
             rotate_left
             ·simp only [Act.put, List.setIfInBounds_toArray, List.set_cons_zero, List.set_cons_succ, i64_w, i32_w]
              rfl
             refine pure_ (i := 4) (N := some 129) (v := ?_) (a' := ?_) #[true, true, true, true, true, false, false, false, false, false, false, false, false, false, false] rfl rfl (any_of HT_.out (by kernel_rfl)) (fun _ _ _ h => h) (Or.inl ⟨by rfl, ?_⟩) ?_ ?_
             rotate_left
             ·intro w'
              go_simp
              with_reducible rfl
             rotate_left
             ·simp only [Act.put, List.setIfInBounds_toArray, List.set_cons_zero, List.set_cons_succ, i64_w, i32_w]
              rfl
             refine pure_ (i := 5) (N := some 130) (v := undef) (a' := ?_) #[true, true, true, true, true, true, false, false, false, false, false, false, false, false, false] rfl rfl (any_of HT_.out (by kernel_rfl)) (fun _ _ _ h => h) (Or.inr ⟨by rfl, rfl⟩) ?_ ?_
             rotate_left
             ·simp only [Act.put, List.setIfInBounds_toArray, List.set_cons_zero, List.set_cons_succ, i64_w, i32_w]
              rfl
             refine pure_ (i := 6) (N := some 131) (v := undef) (a' := ?_) #[true, true, true, true, true, true, true, false, false, false, false, false, false, false, false] rfl rfl (any_of HT_.out (by kernel_rfl)) (fun _ _ _ h => h) (Or.inr ⟨by rfl, rfl⟩) ?_ ?_
             rotate_left
             ·simp only [Act.put, List.setIfInBounds_toArray, List.set_cons_zero, List.set_cons_succ, i64_w, i32_w]
              rfl
             refine pure_ (i := 7) (N := some 132) (v := undef) (a' := ?_) #[true, true, true, true, true, true, true, true, false, false, false, false, false, false, false] rfl rfl (any_of HT_.out (by kernel_rfl)) (fun _ _ _ h => h) (Or.inr ⟨by rfl, rfl⟩) ?_ ?_
             rotate_left
             ·simp only [Act.put, List.setIfInBounds_toArray, List.set_cons_zero, List.set_cons_succ, i64_w, i32_w]
              rfl
             refine pure_ (i := 8) (N := some 133) (v := undef) (a' := ?_) #[true, true, true, true, true, true, true, true, true, false, false, false, false, false, false] rfl rfl (any_of HT_.out (by kernel_rfl)) (fun _ _ _ h => h) (Or.inr ⟨by rfl, rfl⟩) ?_ ?_
             rotate_left
             ·simp only [Act.put, List.setIfInBounds_toArray, List.set_cons_zero, List.set_cons_succ, i64_w, i32_w]
              rfl
             refine pure_ (i := 9) (N := some 134) (v := undef) (a' := ?_) #[true, true, true, true, true, true, true, true, true, true, false, false, false, false, false] rfl rfl (any_of HT_.out (by kernel_rfl)) (fun _ _ _ h => h) (Or.inr ⟨by rfl, rfl⟩) ?_ ?_
             rotate_left
             ·simp only [Act.put, List.setIfInBounds_toArray, List.set_cons_zero, List.set_cons_succ, i64_w, i32_w]
              rfl
             refine pure_ (i := 10) (N := some 135) (v := undef) (a' := ?_) #[true, true, true, true, true, true, true, true, true, true, true, false, false, false, false] rfl rfl (any_of HT_.out (by kernel_rfl)) (fun _ _ _ h => h) (Or.inr ⟨by rfl, rfl⟩) ?_ ?_
             rotate_left
             ·simp only [Act.put, List.setIfInBounds_toArray, List.set_cons_zero, List.set_cons_succ, i64_w, i32_w]
              rfl
             refine pure_ (i := 11) (N := some 136) (v := undef) (a' := ?_) #[true, true, true, true, true, true, true, true, true, true, true, true, false, false, false] rfl rfl (any_of HT_.out (by kernel_rfl)) (fun _ _ _ h => h) (Or.inr ⟨by rfl, rfl⟩) ?_ ?_
             rotate_left
             ·simp only [Act.put, List.setIfInBounds_toArray, List.set_cons_zero, List.set_cons_succ, i64_w, i32_w]
              rfl
             refine pure_ (i := 12) (N := some 137) (v := undef) (a' := ?_) #[true, true, true, true, true, true, true, true, true, true, true, true, true, false, false] rfl rfl (any_of HT_.out (by kernel_rfl)) (fun _ _ _ h => h) (Or.inr ⟨by rfl, rfl⟩) ?_ ?_
             rotate_left
             ·simp only [Act.put, List.setIfInBounds_toArray, List.set_cons_zero, List.set_cons_succ, i64_w, i32_w]
              rfl
             refine pure_ (i := 13) (N := some 138) (v := undef) (a' := ?_) #[true, true, true, true, true, true, true, true, true, true, true, true, true, true, false] rfl rfl (any_of HT_.out (by kernel_rfl)) (fun _ _ _ h => h) (Or.inr ⟨by rfl, rfl⟩) ?_ ?_
             rotate_left
             ·simp only [Act.put, List.setIfInBounds_toArray, List.set_cons_zero, List.set_cons_succ, i64_w, i32_w]
              rfl
             refine pure_ (i := 14) (N := some 139) (v := ?_) (a' := ?_) #[true, true, true, true, true, true, true, true, true, true, true, true, true, true, true] rfl rfl (any_of HT_.out (by kernel_rfl)) (fun _ _ _ h => h) (Or.inl ⟨by rfl, ?_⟩) ?_ ?_
             rotate_left
             ·intro w'
              go_simp
              with_reducible rfl
             rotate_left
             ·simp only [Act.put, List.setIfInBounds_toArray, List.set_cons_zero, List.set_cons_succ, i64_w, i32_w]
              rfl
             refine done_ (done_of HT_.out (by kernel_rfl)) ?_
             try go_wp2
             go_meet
             case rel => exact ⟨_, (true), (by first | rfl | (simp; done) | (simp [*]; done)), H', ⟨by have := HK1.out; have := HJ42.out; first | omega | exact Nat.le_refl _⟩, ⟨by (with_reducible repeat (first | refine blk_drewN ?_ _ | refine blk_drew ?_ | refine blk_alloc ?_ _)); exact BK124.out⟩, ⟨by repeat (first | (with_reducible first | exact HB.out | apply below_alloc | apply pw_below_drewN | apply below_drew1 | refine below_set ?_ GE124.out) | exact HB.out)⟩⟩
           case rest =>
            clear HC57
            try clear p1
            try clear q1
            try clear hx1
            try clear c2
            try clear p2
            try clear c3
            try clear c4
            try clear c5
            try clear p12
            try clear q12
            try clear hx12
            try clear c23
            try clear c35
            try clear c35b1
            try clear c36
            try clear c36b0
            try clear c36b1
            try clear c42
            try clear c42b0
            try clear c42b1
            try clear c45
            try clear c45b0
            try clear c47
            try clear c47b0
            try clear c49
            try clear c49b0
            try clear c52
            try clear c53
            try clear c53b0
            try clear c54
            try clear c54b0
            try clear c54b1
            try clear c54b2
            try clear c59
            try clear c59b0
            try clear c59b1
            try clear c59b2
            try clear hcz10_0
            try clear hcz10_1
            try clear hcz10_2
            try clear hcz10_3
            try clear hcz10_4
            try clear hcz12_0
            try clear hcz12_1
            try clear hcz12_2
            try clear hcz12_3
            try clear hcz12_4
            try clear hcz13_0
            try clear hcz13_1
            try clear hcz13_2
            try clear hcz13_3
            try clear hcz13_4
            try clear hcz15_0
            try clear hcz15_1
            try clear hcz15_2
            try clear hcz15_3
            try clear hcz15_4
            try clear hcz16_0
            try clear hcz16_1
            try clear hcz16_2
            try clear hcz16_3
            try clear hcz16_4
            try clear hcz18_0
            try clear hcz18_1
            try clear hcz18_2
            try clear hcz18_3
            try clear hcz18_4
            try clear hcz19_0
            try clear hcz19_1
            try clear hcz19_2
            try clear hcz19_3
            try clear hcz19_4
            try clear hcz21_0
            try clear hcz21_1
            try clear hcz21_2
            try clear hcz21_3
            try clear hcz21_4
            try clear hcz22_0
            try clear hcz22_1
            try clear hcz22_2
            try clear hcz22_3
            try clear hcz22_4
            try clear hcz28_0
            try clear hcz28_1
            try clear hcz28_2
            try clear hcz28_3
            try clear hcz28_4
            try clear hcz29_0
            try clear hcz29_1
            try clear hcz29_2
            try clear hcz29_3
            try clear hcz29_4
            try clear hcz30_0
            try clear hcz30_1
            try clear hcz30_2
            try clear hcz30_3
            try clear hcz30_4
            try clear hcz31_0
            try clear hcz31_1
            try clear hcz31_2
            try clear hcz31_3
            try clear hcz31_4
            try clear hcz37_0
            try clear hcz37_1
            try clear hcz37_2
            try clear hcz37_3
            try clear hcz37_4
            try clear hcz38_0
            try clear hcz38_1
            try clear hcz38_2
            try clear hcz38_3
            try clear hcz38_4
            try clear hcz39_0
            try clear hcz39_1
            try clear hcz39_2
            try clear hcz39_3
            try clear hcz39_4
            try clear hcz40_0
            try clear hcz40_1
            try clear hcz40_2
            try clear hcz40_3
            try clear hcz40_4
            try clear hcz41_0
            try clear hcz41_1
            try clear hcz41_2
            try clear hcz41_3
            try clear hcz41_4
            try clear hcz44_0
            try clear hcz44_1
            try clear hcz44_2
            try clear hcz44_3
            try clear hcz44_4
            try clear hcz46_0
            try clear hcz46_1
            try clear hcz46_2
            try clear hcz46_3
            try clear hcz46_4
            try clear hcz48_0
            try clear hcz48_1
            try clear hcz48_2
            try clear hcz48_3
            try clear hcz48_4
            try clear hcz50_0
            try clear hcz50_1
            try clear hcz50_2
            try clear hcz50_3
            try clear hcz50_4
            try clear hcz51_0
            try clear hcz51_1
            try clear hcz51_2
            try clear hcz51_3
            try clear hcz51_4
            try clear hcz55_0
            try clear hcz55_1
            try clear hcz55_2
            try clear hcz55_3
            try clear hcz55_4
            try clear hcz56_0
            try clear hcz56_1
            try clear hcz56_2
            try clear hcz56_3
            try clear hcz56_4
            try clear hcz58_0
            try clear hcz58_1
            try clear hcz58_2
            try clear hcz58_3
            try clear hcz58_4
            try clear hfz10_0
            try clear hfz10_1
            try clear hfz10_2
            try clear hfz10_3
            try clear hfz10_4
            try clear hfz12_0
            try clear hfz12_1
            try clear hfz12_2
            try clear hfz12_3
            try clear hfz12_4
            try clear hfz13_0
            try clear hfz13_1
            try clear hfz13_2
            try clear hfz13_3
            try clear hfz13_4
            try clear hfz15_0
            try clear hfz15_1
            try clear hfz15_2
            try clear hfz15_3
            try clear hfz15_4
            try clear hfz16_0
            try clear hfz16_1
            try clear hfz16_2
            try clear hfz16_3
            try clear hfz16_4
            try clear hfz18_0
            try clear hfz18_1
            try clear hfz18_2
            try clear hfz18_3
            try clear hfz18_4
            try clear hfz19_0
            try clear hfz19_1
            try clear hfz19_2
            try clear hfz19_3
            try clear hfz19_4
            try clear hfz21_0
            try clear hfz21_1
            try clear hfz21_2
            try clear hfz21_3
            try clear hfz21_4
            try clear hfz22_0
            try clear hfz22_1
            try clear hfz22_2
            try clear hfz22_3
            try clear hfz22_4
            try clear hfz28_0
            try clear hfz28_1
            try clear hfz28_2
            try clear hfz28_3
            try clear hfz28_4
            try clear hfz29_0
            try clear hfz29_1
            try clear hfz29_2
            try clear hfz29_3
            try clear hfz29_4
            try clear hfz30_0
            try clear hfz30_1
            try clear hfz30_2
            try clear hfz30_3
            try clear hfz30_4
            try clear hfz31_0
            try clear hfz31_1
            try clear hfz31_2
            try clear hfz31_3
            try clear hfz31_4
            try clear hfz37_0
            try clear hfz37_1
            try clear hfz37_2
            try clear hfz37_3
            try clear hfz37_4
            try clear hfz38_0
            try clear hfz38_1
            try clear hfz38_2
            try clear hfz38_3
            try clear hfz38_4
            try clear hfz39_0
            try clear hfz39_1
            try clear hfz39_2
            try clear hfz39_3
            try clear hfz39_4
            try clear hfz40_0
            try clear hfz40_1
            try clear hfz40_2
            try clear hfz40_3
            try clear hfz40_4
            try clear hfz41_0
            try clear hfz41_1
            try clear hfz41_2
            try clear hfz41_3
            try clear hfz41_4
            try clear hfz44_0
            try clear hfz44_1
            try clear hfz44_2
            try clear hfz44_3
            try clear hfz44_4
            try clear hfz46_0
            try clear hfz46_1
            try clear hfz46_2
            try clear hfz46_3
            try clear hfz46_4
            try clear hfz48_0
            try clear hfz48_1
            try clear hfz48_2
            try clear hfz48_3
            try clear hfz48_4
            try clear hfz50_0
            try clear hfz50_1
            try clear hfz50_2
            try clear hfz50_3
            try clear hfz50_4
            try clear hfz51_0
            try clear hfz51_1
            try clear hfz51_2
            try clear hfz51_3
            try clear hfz51_4
            try clear hfz55_0
            try clear hfz55_1
            try clear hfz55_2
            try clear hfz55_3
            try clear hfz55_4
            try clear hfz56_0
            try clear hfz56_1
            try clear hfz56_2
            try clear hfz56_3
            try clear hfz56_4
            try clear hfz58_0
            try clear hfz58_1
            try clear hfz58_2
            try clear hfz58_3
            try clear hfz58_4
            try clear hx125_0
            try clear hx125_1
            try clear hx125_2
            try clear hx125_3
            try clear hx125_4
            try clear hx127_0
            try clear hx127_1
            try clear hx127_2
            try clear hx127_3
            try clear hx127_4
            try clear p125
            try clear p127
            try clear p2
            try clear q125
            try clear q127
            obtain ⟨kq, x139_56, rfl, HA, HJ56, BK124, HB⟩ := hcut
            cases kq with
            | zero => exact absurd HA.out (by simp [capnpref10_Valid.j2])
            | succ kj56 =>
             have H := HA.out
             clear HA
             simp only [capnpref10_Valid.j2] at H
             by_cases c63 : x139_56 = true
             ·subst c63
              have H1 : (some false) = some r := by rw [if_pos rfl] at H; exact H
              clear H
              have H := H1
              clear H1
              obtain rfl := Option.some.inj H
              go_wp2
              go_ret
              exact ⟨by first | rfl | (simp [errW_none, errW_some] <;> rfl) | (simp [*, errW_none, errW_some] <;> rfl), by repeat (first | (with_reducible first | exact HB.out | apply below_alloc | apply pw_below_drewN | apply below_drew1 | refine below_set ?_ GE124.out) | exact HB.out)⟩
             ·replace c63 := Bool.eq_false_iff.mpr c63
              subst c63
              have H1 : ((capnpref06_Trim.f kj56 a0_1 a0_2 l0_3).bind fun t129 => ((capnpref01_Same.f kj56 t129 l0_3).bind fun t132 => (some t132))) = some r := by rw [if_neg (show ¬ (false = true) by decide)] at H; exact H
              clear H
              have H := H1
              clear H1
              replace H := Option.bind_eq_some_iff.mp H
              obtain ⟨t129, A640, H⟩ := H
              replace H : ((capnpref01_Same.f kj56 t129 l0_3).bind fun t132 => (some t132)) = some r := H
              have A64 := Aside0.mk A640
              clear A640
              replace H := Option.bind_eq_some_iff.mp H
              obtain ⟨t132, A650, H⟩ := H
              replace H : (some t132) = some r := H
              have A65 := Aside0.mk A650
              clear A650
              obtain rfl := Option.some.inj H
              try go_wp2
              have n0_ := Aside0.mk (blk_drew BK124.out)
              have n1_ := Aside0.mk (below_drew1 HB.out)
              clear BK124
              clear HB
              have BK124 := n0_
              have HB := n1_
              clear n0_ n1_
              refine start_ (n := 11) (S := fun w' => w'.cell? ⟨gb124, 0, none⟩ = some (.int .i64 a0_0) ∧ w'.cell? ⟨gb124, 1, none⟩ = some (.int .i64 a0_1) ∧ w'.cell? ⟨gb124, 2, none⟩ = some (.int .i64 a0_2) ∧ w'.cell? ⟨gb124, 3, none⟩ = some (.slice A0_3 l0_3.length c0_3) ∧ w'.cell? ⟨gb124, 4, none⟩ = some (.slice A0_4 l0_4.length c0_4)) (ds := []) #[false, false, false, false, false, false, false, false, false, false, false] (by kernel_rfl) rfl rfl ⟨(blk_cell BK124.out 0).trans rfl, (blk_cell BK124.out 1).trans rfl, (blk_cell BK124.out 2).trans rfl, (blk_cell BK124.out 3).trans rfl, (blk_cell BK124.out 4).trans rfl⟩ (fun hHeld => ?_); refine with_tabW capnpref10_Valid.tab18 capnpref10_Valid.bits18 (fun HT_ HW_ => ?_)
              generalize wc.drew = w66 at BK124 HB hHeld ⊢
              refine pure_ (i := 0) (N := some 140) (v := ?_) (a' := ?_) #[true, false, false, false, false, false, false, false, false, false, false] rfl rfl (any_of HT_.out (by kernel_rfl)) (fun _ _ _ h => h) (Or.inl ⟨by rfl, ?_⟩) ?_ ?_
              rotate_left
              ·intro w'
               go_simp
               with_reducible rfl
              rotate_left
              ·simp only [Act.put, List.setIfInBounds_toArray, List.set_cons_zero, List.set_cons_succ, i64_w, i32_w]
               rfl
              refine pure_ (i := 2) (N := some 142) (v := ?_) (a' := ?_) #[true, false, true, false, false, false, false, false, false, false, false] rfl rfl (any_of HT_.out (by kernel_rfl)) (fun _ _ _ h => h) (Or.inl ⟨by rfl, ?_⟩) ?_ ?_
              rotate_left
              ·intro w'
               go_simp
               with_reducible rfl
              rotate_left
              ·simp only [Act.put, List.setIfInBounds_toArray, List.set_cons_zero, List.set_cons_succ, i64_w, i32_w]
               rfl
              refine pure_ (i := 4) (N := some 144) (v := ?_) (a' := ?_) #[true, false, true, false, true, false, false, false, false, false, false] rfl rfl (any_of HT_.out (by kernel_rfl)) (fun _ _ _ h => h) (Or.inl ⟨by rfl, ?_⟩) ?_ ?_
              rotate_left
              ·intro w'
               go_simp
               with_reducible rfl
              rotate_left
              ·simp only [Act.put, List.setIfInBounds_toArray, List.set_cons_zero, List.set_cons_succ, i64_w, i32_w]
               rfl
              refine pure_ (i := 7) (N := some 147) (v := ?_) (a' := ?_) #[true, false, true, false, true, false, false, true, false, false, false] rfl rfl (any_of HT_.out (by kernel_rfl)) (fun _ _ _ h => h) (Or.inl ⟨by rfl, ?_⟩) ?_ ?_
              rotate_left
              ·intro w'
               go_simp
               with_reducible rfl
              rotate_left
              ·simp only [Act.put, List.setIfInBounds_toArray, List.set_cons_zero, List.set_cons_succ, i64_w, i32_w]
               rfl
              refine take_ (i := 1) (N := some 141) (v := ?_) (a' := ?_) #[true, true, true, false, true, false, false, true, false, false, false] rfl rfl (take_ofW HT_.out HW_.out (by kernel_rfl)) (fun _ _ _ h => h) (Or.inl ⟨by rfl, ?_⟩) hHeld ?_ ?_
              rotate_left
              ·rintro w' ⟨s0, s1, s2, s3, s4⟩
               go_simp
               with_reducible rfl
              rotate_left
              ·simp only [Act.put, List.setIfInBounds_toArray, List.set_cons_zero, List.set_cons_succ, i64_w, i32_w]
               rfl
              refine take_ (i := 3) (N := some 143) (v := ?_) (a' := ?_) #[true, true, true, true, true, false, false, true, false, false, false] rfl rfl (take_ofW HT_.out HW_.out (by kernel_rfl)) (fun _ _ _ h => h) (Or.inl ⟨by rfl, ?_⟩) hHeld ?_ ?_
              rotate_left
              ·rintro w' ⟨s0, s1, s2, s3, s4⟩
               go_simp
               with_reducible rfl
              rotate_left
              ·simp only [Act.put, List.setIfInBounds_toArray, List.set_cons_zero, List.set_cons_succ, i64_w, i32_w]
               rfl
              refine take_ (i := 5) (N := some 145) (v := ?_) (a' := ?_) #[true, true, true, true, true, true, false, true, false, false, false] rfl rfl (take_ofW HT_.out HW_.out (by kernel_rfl)) (fun _ _ _ h => h) (Or.inl ⟨by rfl, ?_⟩) hHeld ?_ ?_
              rotate_left
              ·rintro w' ⟨s0, s1, s2, s3, s4⟩
               go_simp
               with_reducible rfl
              rotate_left
              ·simp only [Act.put, List.setIfInBounds_toArray, List.set_cons_zero, List.set_cons_succ, i64_w, i32_w]
               rfl
              refine take_ (i := 8) (N := some 148) (v := ?_) (a' := ?_) #[true, true, true, true, true, true, false, true, true, false, false] rfl rfl (take_ofW HT_.out HW_.out (by kernel_rfl)) (fun _ _ _ h => h) (Or.inl ⟨by rfl, ?_⟩) hHeld ?_ ?_
              rotate_left
              ·rintro w' ⟨s0, s1, s2, s3, s4⟩
               go_simp
               with_reducible rfl
              rotate_left
              ·simp only [Act.put, List.setIfInBounds_toArray, List.set_cons_zero, List.set_cons_succ, i64_w, i32_w]
               rfl
              refine one_ (i := 6) (N := some 146) #[true, true, true, true, true, true, true, true, true, false, false] rfl rfl (one_of HT_.out (by kernel_rfl)) (by decide) (fun K hK => ?_)
              refine goes_ Tryd.func25 (by kernel_rfl) rfl #[.int .i64 a0_1, .int .i64 a0_2, .slice A0_3 l0_3.length c0_3] (by rfl) rfl rfl (by (try simp only [List.map_toArray, List.map_cons, List.map_nil]); first | done | rfl | (simp only [List.length_drop, List.length_take]; rfl)) ?_
              with_reducible refine (capnpref06_Trim.calls kj56 a0_1 a0_2 _ _ l0_3 t129 _ ?side1 ?side2 A64.out).mono ?_
              (case side1 => repeat (first | exact (Kd.C_below HR0_3.out HB.out) | (with_reducible refine Kd.C_alloc ?_ _) | (with_reducible refine Kd.C_drewN ?_ _) | (with_reducible refine Kd.C_drew ?_)))
              (case side2 => exact HC0_3.out)
              rintro e w67 ⟨v130, rfl, ho0, hb⟩
              refine ⟨_, rfl, ?_⟩
              have n0_ := Aside0.mk (Kd.R_lower ho0 (below_size (by repeat (first | (with_reducible first | exact HB.out | apply below_alloc | apply pw_below_drewN | apply below_drew1 | refine below_set ?_ GE124.out) | exact HB.out))))
              have n1_ := Aside0.mk (blk_below (g := gb124) (o := .cells #[.int .i64 a0_0, .int .i64 a0_1, .int .i64 a0_2, .slice A0_3 l0_3.length c0_3, .slice A0_4 l0_4.length c0_4] 25 (0, 0)) (by (with_reducible repeat (first | refine blk_drewN ?_ _ | refine blk_drew ?_ | refine blk_alloc ?_ _)); exact BK124.out) hb)
              have n2_ := Aside0.mk (below_step (by repeat (first | (with_reducible first | exact HB.out | apply below_alloc | apply pw_below_drewN | apply below_drew1 | refine below_set ?_ GE124.out) | exact HB.out)) hb)
              clear BK124
              clear HB
              have HO131 := n0_
              have BK124 := n1_
              have HB := n2_
              clear n0_ n1_ n2_
              (try clear hb)
              (try clear hb2)
              (try clear hk)
              (try clear hi)
              (try clear ho0)
              obtain ⟨Ao68, co68, eo68⟩ := Kd.R_slice HO131.out
              (first | subst eo68 | (injection eo68 with f1_ f2_ f3_; have f4_ := f1_.symm; have f5_ := f3_.symm; clear f1_ f2_ f3_; subst f4_; subst f5_))
              refine hK.out _ _ ⟨(blk_cell BK124.out 0).trans rfl, (blk_cell BK124.out 1).trans rfl, (blk_cell BK124.out 2).trans rfl, (blk_cell BK124.out 3).trans rfl, (blk_cell BK124.out 4).trans rfl⟩ (fun hHeld => ?_)
              clear hK K
              refine norm_ (a' := ?_) ?_ ?_
              rotate_left
              ·show Act.put _ (some 146) _ = _
               simp only [Act.put, List.setIfInBounds_toArray, List.set_cons_zero, List.set_cons_succ, i64_w, i32_w]
               rfl
              refine one_ (i := 9) (N := some 149) #[true, true, true, true, true, true, true, true, true, true, false] rfl rfl (one_of HT_.out (by kernel_rfl)) (by decide) (fun K hK => ?_)
              refine goes_ Tryd.func24 (by kernel_rfl) rfl #[.slice Ao68 t129.length co68, .slice A0_3 l0_3.length c0_3] (by rfl) rfl rfl (by (try simp only [List.map_toArray, List.map_cons, List.map_nil]); first | done | rfl | (simp only [List.length_drop, List.length_take]; rfl)) ?_
              with_reducible refine (capnpref01_Same.calls kj56 _ _ t129 _ _ l0_3 t132 _ ?side1 ?side2 ?side3 ?side4 A65.out).mono ?_
              (case side1 => repeat (first | exact (Kd.R_reads' HO131.out).2.2 | (with_reducible refine Kd.C_alloc ?_ _) | (with_reducible refine Kd.C_drewN ?_ _) | (with_reducible refine Kd.C_drew ?_)))
              (case side2 => exact (Kd.R_reads' HO131.out).2.1)
              (case side3 => repeat (first | exact (Kd.C_below HR0_3.out HB.out) | (with_reducible refine Kd.C_alloc ?_ _) | (with_reducible refine Kd.C_drewN ?_ _) | (with_reducible refine Kd.C_drew ?_)))
              (case side4 => exact HC0_3.out)
              rintro e w' ⟨rfl, ⟨nd, rfl⟩⟩
              refine ⟨_, rfl, ?_⟩
              refine hK.out _ _ ⟨(blk_cell BK124.out 0).trans rfl, (blk_cell BK124.out 1).trans rfl, (blk_cell BK124.out 2).trans rfl, (blk_cell BK124.out 3).trans rfl, (blk_cell BK124.out 4).trans rfl⟩ (fun hHeld => ?_)
              clear hK K
              refine norm_ (a' := ?_) ?_ ?_
              rotate_left
              ·show Act.put _ (some 149) _ = _
               simp only [Act.put, List.setIfInBounds_toArray, List.set_cons_zero, List.set_cons_succ, i64_w, i32_w]
               rfl
              refine pure_ (i := 10) (N := some 2) (v := ?_) (a' := ?_) #[true, true, true, true, true, true, true, true, true, true, true] rfl rfl (any_of HT_.out (by kernel_rfl)) (fun _ _ _ h => h) (Or.inl ⟨by rfl, ?_⟩) ?_ ?_
              rotate_left
              ·intro w'
               go_simp
               with_reducible rfl
              rotate_left
              ·simp only [Act.put, List.setIfInBounds_toArray, List.set_cons_zero, List.set_cons_succ, i64_w, i32_w]
               rfl
              refine done_ (done_of HT_.out (by kernel_rfl)) ?_
              try go_wp2
              go_ret
              exact ⟨by first | rfl | (simp [errW_none, errW_some] <;> rfl) | (simp [*, errW_none, errW_some] <;> rfl), by repeat (first | (with_reducible first | exact HB.out | apply below_alloc | apply pw_below_drewN | apply below_drew1 | refine below_set ?_ GE124.out) | exact HB.out)⟩
      ·rw [if_neg c42] at H
       have c42b0 : (a0_0 == 2) = false := beq_eq_false_iff_ne.mpr c42
       have c42b1 : (a0_0 != 2) = true := bne_iff_ne.mpr c42
       obtain rfl := Option.some.inj H
       have hcz69_0 : wr.cell? ⟨gb124, 0, none⟩ = some (.int .i64 a0_0) := (blk_cell BK124.out 0).trans rfl
       have hcz69_1 : wr.cell? ⟨gb124, 1, none⟩ = some (.int .i64 a0_1) := (blk_cell BK124.out 1).trans rfl
       have hcz69_2 : wr.cell? ⟨gb124, 2, none⟩ = some (.int .i64 a0_2) := (blk_cell BK124.out 2).trans rfl
       have hcz69_3 : wr.cell? ⟨gb124, 3, none⟩ = some (.slice A0_3 l0_3.length c0_3) := (blk_cell BK124.out 3).trans rfl
       have hcz69_4 : wr.cell? ⟨gb124, 4, none⟩ = some (.slice A0_4 l0_4.length c0_4) := (blk_cell BK124.out 4).trans rfl
       have hfz69_0 := blk_frozen BK124.out 0
       have hfz69_1 := blk_frozen BK124.out 1
       have hfz69_2 := blk_frozen BK124.out 2
       have hfz69_3 := blk_frozen BK124.out 3
       have hfz69_4 := blk_frozen BK124.out 4
       go_wp2
       go_ret
       exact ⟨by first | rfl | (simp [errW_none, errW_some] <;> rfl) | (simp [*, errW_none, errW_some] <;> rfl), by repeat (first | (with_reducible first | exact HB.out | apply below_alloc | apply pw_below_drewN | apply below_drew1 | refine below_set ?_ GE124.out) | exact HB.out)⟩
end Go.Proofs.YtmbockhcmhghlaaDoor.Pr
end
section
namespace Go.Proofs.YtmbockhcmhghlaaDoor.Pr
open Go.RowKit Go.Proofs.YtmbockhcmhghlaaDoorW.PrintWords Go.Proofs.YtmbockhcmhghlaaDoorW.PrintLast Go.Proofs.YtmbockhcmhghlaaDoorW.PrintMore
attribute [local go_sem] max2_int min2_int max_two min_two max_three min_three max_four min_four
set_option linter.unusedVariables false
set_option linter.unusedSimpArgs false
mutual
def capnpref10_Equal.j0 : Nat → Bool → Int → Int → Int → List Int → List (S25) → Int → Int → Int → List Int → List (S25) → Option (Bool)
 | 0, _, _, _, _, _, _, _, _, _, _, _ => none
 | k + 1, x41, x134000, x134001, x134002, x134003, x134004, x135000, x135001, x135002, x135003, x135004 => if x41 = true then (some false) else (capnpref10_Equal.l0 k 0 x134000 x134001 x134002 x134003 x134004 x135000 x135001 x135002 x135003 x135004)
def capnpref10_Equal.l0 : Nat → Int → Int → Int → Int → List Int → List (S25) → Int → Int → Int → List Int → List (S25) → Option (Bool)
 | 0, _, _, _, _, _, _, _, _, _, _, _ => none
 | k + 1, x5, x134000, x134001, x134002, x134003, x134004, x135000, x135001, x135002, x135003, x135004 => if x5 < (x134004.length : Int) then (if 0 ≤ x5 then (if x5 < (x135004.length : Int) then ((capnpref10_Equal.f k ((rd_T25 x134004 x5).f0) ((rd_T25 x134004 x5).f1) ((rd_T25 x134004 x5).f2) ((rd_T25 x134004 x5).f3) ((rd_T25 x134004 x5).f4) ((rd_T25 x135004 x5).f0) ((rd_T25 x135004 x5).f1) ((rd_T25 x135004 x5).f2) ((rd_T25 x135004 x5).f3) ((rd_T25 x135004 x5).f4)).bind fun t138 => (if t138 = true then (capnpref10_Equal.l0 k (wrap64 (x5 + 1)) x134000 x134001 x134002 x134003 x134004 x135000 x135001 x135002 x135003 x135004) else (some false))) else (none)) else (none)) else (some true)
def capnpref10_Equal.f : Nat → Int → Int → Int → List Int → List (S25) → Int → Int → Int → List Int → List (S25) → Option (Bool)
 | 0, _, _, _, _, _, _, _, _, _, _ => none
 | k + 1, a0_0, a0_1, a0_2, l0_3, l0_4, a1_0, a1_1, a1_2, l1_3, l1_4 => if a0_0 = a1_0 then (if a0_1 = a1_1 then (if a0_2 = a1_2 then ((capnpref01_Same.f k l0_3 l1_3).bind fun t135 => (if t135 = true then (capnpref10_Equal.j0 k ((l0_4.length : Int) != (l1_4.length : Int)) a0_0 a0_1 a0_2 l0_3 l0_4 a1_0 a1_1 a1_2 l1_3 l1_4) else (capnpref10_Equal.j0 k true a0_0 a0_1 a0_2 l0_3 l0_4 a1_0 a1_1 a1_2 l1_3 l1_4))) else (capnpref10_Equal.j0 k true a0_0 a0_1 a0_2 l0_3 l0_4 a1_0 a1_1 a1_2 l1_3 l1_4)) else (capnpref10_Equal.j0 k true a0_0 a0_1 a0_2 l0_3 l0_4 a1_0 a1_1 a1_2 l1_3 l1_4)) else (capnpref10_Equal.j0 k true a0_0 a0_1 a0_2 l0_3 l0_4 a1_0 a1_1 a1_2 l1_3 l1_4)
end
def capnpref10_Equal.T6 : Bool × List (List Nat × List Nat) := (true, [([], []), ([0], [0]), ([], []), ([1, 2], [1, 2]), ([3], [3]), ([], []), ([5], [5]), ([], []), ([6, 7], [6, 7]), ([8], [8]), ([4, 9], [4, 9]), ([10], [10])])
def capnpref10_Equal.B6 : List Nat := [0, 1, 0, 7, 15, 0, 32, 0, 224, 480, 1023, 2047]
theorem capnpref10_Equal.tab6 : rtab .any (opsOf Tryd.f13 6) = capnpref10_Equal.T6 := by kernel_rfl
theorem capnpref10_Equal.bits6 : waitsOk capnpref10_Equal.T6.2 capnpref10_Equal.B6 = true := by kernel_rfl
set_option maxHeartbeats 8000000 in
set_option maxRecDepth 100000 in
theorem capnpref10_Equal.calls (k : Nat) : ∀ (a0_0 : Int) (a0_1 : Int) (a0_2 : Int) (A0_3 : Option Addr) (c0_3 : Nat) (l0_3 : List Int) (A0_4 : Option Addr) (c0_4 : Nat) (l0_4 : List (S25)) (a1_0 : Int) (a1_1 : Int) (a1_2 : Int) (A1_3 : Option Addr) (c1_3 : Nat) (l1_3 : List Int) (A1_4 : Option Addr) (c1_4 : Nat) (l1_4 : List (S25)) (r : Bool) (w : World) (hr0_3 : Kd.C (Kd.int .u8) w A0_3 l0_3.length l0_3) (hc0_3 : l0_3.length ≤ c0_3) (hr0_4 : Kd.C k25 w A0_4 l0_4.length l0_4) (hc0_4 : l0_4.length ≤ c0_4) (hr1_3 : Kd.C (Kd.int .u8) w A1_3 l1_3.length l1_3) (hc1_3 : l1_3.length ≤ c1_3) (hr1_4 : Kd.C k25 w A1_4 l1_4.length l1_4) (hc1_4 : l1_4.length ≤ c1_4) (h : capnpref10_Equal.f k a0_0 a0_1 a0_2 l0_3 l0_4 a1_0 a1_1 a1_2 l1_3 l1_4 = some r),
  Calls Tryd.prog 13 #[.agg #[.int .i64 a0_0, .int .i64 a0_1, .int .i64 a0_2, .slice A0_3 l0_3.length c0_3, .slice A0_4 l0_4.length c0_4], .agg #[.int .i64 a1_0, .int .i64 a1_1, .int .i64 a1_2, .slice A1_3 l1_3.length c1_3, .slice A1_4 l1_4.length c1_4]] w fun e w' => e = .returned (.bool r) ∧ Below w.heap.size w w' := by
 induction k using Nat.strongRecOn with
 | _ k ih =>
 intro a0_0 a0_1 a0_2 A0_3 c0_3 l0_3 A0_4 c0_4 l0_4 a1_0 a1_1 a1_2 A1_3 c1_3 l1_3 A1_4 c1_4 l1_4 r w hr0_3 hc0_3 hr0_4 hc0_4 hr1_3 hc1_3 hr1_4 hc1_4 h
 cases k with
 | zero => exact absurd h (by simp [capnpref10_Equal.f])
 | succ k =>
 simp only [capnpref10_Equal.f] at h
 have hu25 := Tryd.underlying25
 have HR0_3 := Aside0.mk hr0_3
 have HC0_3 := Aside0.mk hc0_3
 clear hr0_3 hc0_3
 have HR0_4 := Aside0.mk hr0_4
 have HC0_4 := Aside0.mk hc0_4
 clear hr0_4 hc0_4
 have HR1_3 := Aside0.mk hr1_3
 have HC1_3 := Aside0.mk hc1_3
 clear hr1_3 hc1_3
 have HR1_4 := Aside0.mk hr1_4
 have HC1_4 := Aside0.mk hc1_4
 clear hr1_4 hc1_4
 have HB := Aside0.mk (Below.refl w.heap.size w)
 have H : (if a0_0 = a1_0 then (if a0_1 = a1_1 then (if a0_2 = a1_2 then ((capnpref01_Same.f k l0_3 l1_3).bind fun t135 => (if t135 = true then (capnpref10_Equal.j0 k ((l0_4.length : Int) != (l1_4.length : Int)) a0_0 a0_1 a0_2 l0_3 l0_4 a1_0 a1_1 a1_2 l1_3 l1_4) else (capnpref10_Equal.j0 k true a0_0 a0_1 a0_2 l0_3 l0_4 a1_0 a1_1 a1_2 l1_3 l1_4))) else (capnpref10_Equal.j0 k true a0_0 a0_1 a0_2 l0_3 l0_4 a1_0 a1_1 a1_2 l1_3 l1_4)) else (capnpref10_Equal.j0 k true a0_0 a0_1 a0_2 l0_3 l0_4 a1_0 a1_1 a1_2 l1_3 l1_4)) else (capnpref10_Equal.j0 k true a0_0 a0_1 a0_2 l0_3 l0_4 a1_0 a1_1 a1_2 l1_3 l1_4)) = some r := h
 clear h
 have HC3 := Aside0.mk H
 clear H
 go_enter Tryd.func13, Tryd.ntmps13
 go_upto_region 1 with (first | ((with_reducible refine gate_dst (N := 2) rfl ?_); (try (refine gate_guard (by rfl) ?_; dsimp only)); refine box_event ?hg (N := 2) ?hd (cs := #[.int .i64 a0_0, .int .i64 a0_1, .int .i64 a0_2, .slice A0_3 l0_3.length c0_3, .slice A0_4 l0_4.length c0_4]) (t := 25) ?hr ?_; (case hd => rfl); (case hg => rfl); (case hr => first | (go_simp; done) | (go_simp; rfl)); intro gb133 hg w4 hbox hb; have n0_ := Aside0.mk (below_step (by repeat (first | (with_reducible first | exact HB.out | apply below_alloc | apply pw_below_drewN | apply below_drew1) | exact HB.out)) hb); have n1_ := Aside0.mk (hbox); have n2_ := Aside0.mk ((by rw [hg]; exact (below_size (by repeat (first | (with_reducible first | exact HB.out | apply below_alloc | apply pw_below_drewN | apply below_drew1) | exact HB.out))) : w.heap.size ≤ gb133)); have n3_ := Aside0.mk ((by rw [hg]; exact (below_size (by repeat (first | (with_reducible first | exact HB.out | apply below_alloc | apply pw_below_drewN | apply below_drew1) | exact HB.out))) : w.heap.size ≤ gb133)); clear HB; have HB := n0_; have BK133 := n1_; have GW133 := n2_; have GE133 := n3_; clear n0_ n1_ n2_ n3_; clear hb hbox hg) | ((with_reducible refine gate_dst (N := 3) rfl ?_); (try (refine gate_guard (by rfl) ?_; dsimp only)); refine box_event ?hg (N := 3) ?hd (cs := #[.int .i64 a1_0, .int .i64 a1_1, .int .i64 a1_2, .slice A1_3 l1_3.length c1_3, .slice A1_4 l1_4.length c1_4]) (t := 25) ?hr ?_; (case hd => rfl); (case hg => rfl); (case hr => first | (go_simp; done) | (go_simp; rfl)); intro gb134 hg w5 hbox hb; have n0_ := Aside0.mk (blk_below (g := gb133) (o := .cells #[.int .i64 a0_0, .int .i64 a0_1, .int .i64 a0_2, .slice A0_3 l0_3.length c0_3, .slice A0_4 l0_4.length c0_4] 25 (0, 0)) (by (with_reducible repeat (first | refine blk_drewN ?_ _ | refine blk_drew ?_ | refine blk_alloc ?_ _)); exact BK133.out) hb); have n1_ := Aside0.mk (below_step (by repeat (first | (with_reducible first | exact HB.out | apply below_alloc | apply pw_below_drewN | apply below_drew1 | refine below_set ?_ GE133.out) | exact HB.out)) hb); have n2_ := Aside0.mk (hbox); have n3_ := Aside0.mk ((by rw [hg]; exact (below_size (by repeat (first | (with_reducible first | exact HB.out | apply below_alloc | apply pw_below_drewN | apply below_drew1 | refine below_set ?_ GE133.out) | exact HB.out))) : w.heap.size ≤ gb134)); have n4_ := Aside0.mk ((by rw [hg]; exact (below_size (by repeat (first | (with_reducible first | exact HB.out | apply below_alloc | apply pw_below_drewN | apply below_drew1 | refine below_set ?_ GE133.out) | exact HB.out))) : w.heap.size ≤ gb134)); have n5_ := Aside0.mk ((by rw [hg]; exact Nat.ne_of_lt (blk_lt (g := gb133) (o := .cells #[.int .i64 a0_0, .int .i64 a0_1, .int .i64 a0_2, .slice A0_3 l0_3.length c0_3, .slice A0_4 l0_4.length c0_4] 25 (0, 0)) (by (with_reducible repeat (first | refine blk_drewN ?_ _ | refine blk_drew ?_ | refine blk_alloc ?_ _)); exact BK133.out)) : gb133 ≠ gb134)); have n6_ := Aside0.mk ((by rw [hg]; exact Nat.ne_of_gt (blk_lt (g := gb133) (o := .cells #[.int .i64 a0_0, .int .i64 a0_1, .int .i64 a0_2, .slice A0_3 l0_3.length c0_3, .slice A0_4 l0_4.length c0_4] 25 (0, 0)) (by (with_reducible repeat (first | refine blk_drewN ?_ _ | refine blk_drew ?_ | refine blk_alloc ?_ _)); exact BK133.out)) : gb134 ≠ gb133)); clear BK133; clear HB; have BK133 := n0_; have HB := n1_; have BK134 := n2_; have GW134 := n3_; have GE134 := n4_; have NB133_134 := n5_; have NB134_133 := n6_; clear n0_ n1_ n2_ n3_ n4_ n5_ n6_; clear hb hbox hg))
 (try simp only [Act.put, List.setIfInBounds_toArray, List.set_cons_zero, List.set_cons_succ])
 go_cut [41] (fun v41 wc => ∃ (kq : Nat) (x41_2 : Bool), v41 = .bool x41_2 ∧ Aside0 (capnpref10_Equal.j0 kq x41_2 a0_0 a0_1 a0_2 l0_3 l0_4 a1_0 a1_1 a1_2 l1_3 l1_4 = some r) ∧ Aside0 (kq ≤ k) ∧ Aside0 (wc.heap[gb133]? = some (.cells #[.int .i64 a0_0, .int .i64 a0_1, .int .i64 a0_2, (.slice A0_3 l0_3.length c0_3), (.slice A0_4 l0_4.length c0_4)] 25 (0, 0))) ∧ Aside0 (wc.heap[gb134]? = some (.cells #[.int .i64 a1_0, .int .i64 a1_1, .int .i64 a1_2, (.slice A1_3 l1_3.length c1_3), (.slice A1_4 l1_4.length c1_4)] 25 (0, 0))) ∧ Aside0 (Below w.heap.size w wc))
 case first =>
  have H := HC3.out
  clear HC3
  by_cases c6 : a0_0 = a1_0
  ·rw [if_pos c6] at H
   have c6b0 : (a0_0 == a1_0) = true := beq_iff_eq.mpr c6
   have c6b1 : (a0_0 != a1_0) = false := bne_eq_false_iff_eq.mpr c6
   clear c6
   (first | rw [c6b0] | (simp only [i64_w, i32_w]; rw [c6b0]) | skip)
   by_cases c7 : a0_1 = a1_1
   ·rw [if_pos c7] at H
    have c7b0 : (a0_1 == a1_1) = true := beq_iff_eq.mpr c7
    have c7b1 : (a0_1 != a1_1) = false := bne_eq_false_iff_eq.mpr c7
    clear c7
    by_cases c8 : a0_2 = a1_2
    ·rw [if_pos c8] at H
     have c8b0 : (a0_2 == a1_2) = true := beq_iff_eq.mpr c8
     have c8b1 : (a0_2 != a1_2) = false := bne_eq_false_iff_eq.mpr c8
     clear c8
     replace H := Option.bind_eq_some_iff.mp H
     obtain ⟨t135, A90, H⟩ := H
     replace H : (if t135 = true then (capnpref10_Equal.j0 k ((l0_4.length : Int) != (l1_4.length : Int)) a0_0 a0_1 a0_2 l0_3 l0_4 a1_0 a1_1 a1_2 l1_3 l1_4) else (capnpref10_Equal.j0 k true a0_0 a0_1 a0_2 l0_3 l0_4 a1_0 a1_1 a1_2 l1_3 l1_4)) = some r := H
     have A9 := Aside0.mk A90
     clear A90
     by_cases c10 : t135 = true
     ·subst c10
      have H1 : (capnpref10_Equal.j0 k ((l0_4.length : Int) != (l1_4.length : Int)) a0_0 a0_1 a0_2 l0_3 l0_4 a1_0 a1_1 a1_2 l1_3 l1_4) = some r := by rw [if_pos rfl] at H; exact H
      clear H
      have H := H1
      clear H1
      have H' := Aside0.mk H
      clear H
      have hnb11 := NB133_134.out
      have hnc11 := NB134_133.out
      have hcz12_0 : w5.cell? ⟨gb133, 0, none⟩ = some (.int .i64 a0_0) := (blk_cell BK133.out 0).trans rfl
      have hcz12_1 : w5.cell? ⟨gb133, 1, none⟩ = some (.int .i64 a0_1) := (blk_cell BK133.out 1).trans rfl
      have hcz12_2 : w5.cell? ⟨gb133, 2, none⟩ = some (.int .i64 a0_2) := (blk_cell BK133.out 2).trans rfl
      have hcz12_3 : w5.cell? ⟨gb133, 3, none⟩ = some (.slice A0_3 l0_3.length c0_3) := (blk_cell BK133.out 3).trans rfl
      have hcz12_4 : w5.cell? ⟨gb133, 4, none⟩ = some (.slice A0_4 l0_4.length c0_4) := (blk_cell BK133.out 4).trans rfl
      have hfz12_0 := blk_frozen BK133.out 0
      have hfz12_1 := blk_frozen BK133.out 1
      have hfz12_2 := blk_frozen BK133.out 2
      have hfz12_3 := blk_frozen BK133.out 3
      have hfz12_4 := blk_frozen BK133.out 4
      have hcz13_0 : w5.cell? ⟨gb134, 0, none⟩ = some (.int .i64 a1_0) := (blk_cell BK134.out 0).trans rfl
      have hcz13_1 : w5.cell? ⟨gb134, 1, none⟩ = some (.int .i64 a1_1) := (blk_cell BK134.out 1).trans rfl
      have hcz13_2 : w5.cell? ⟨gb134, 2, none⟩ = some (.int .i64 a1_2) := (blk_cell BK134.out 2).trans rfl
      have hcz13_3 : w5.cell? ⟨gb134, 3, none⟩ = some (.slice A1_3 l1_3.length c1_3) := (blk_cell BK134.out 3).trans rfl
      have hcz13_4 : w5.cell? ⟨gb134, 4, none⟩ = some (.slice A1_4 l1_4.length c1_4) := (blk_cell BK134.out 4).trans rfl
      have hfz13_0 := blk_frozen BK134.out 0
      have hfz13_1 := blk_frozen BK134.out 1
      have hfz13_2 := blk_frozen BK134.out 2
      have hfz13_3 := blk_frozen BK134.out 3
      have hfz13_4 := blk_frozen BK134.out 4
      go_wp2_with (first | (go_at_call 24; (with_reducible refine (capnpref01_Same.calls k _ _ l0_3 _ _ l1_3 true _ ?side1 ?side2 ?side3 ?side4 A9.out).mono ?_); (case side1 => repeat (first | exact (Kd.C_below HR0_3.out HB.out) | (with_reducible refine Kd.C_alloc ?_ _) | (with_reducible refine Kd.C_drewN ?_ _) | (with_reducible refine Kd.C_drew ?_))); (case side2 => exact HC0_3.out); (case side3 => repeat (first | exact (Kd.C_below HR1_3.out HB.out) | (with_reducible refine Kd.C_alloc ?_ _) | (with_reducible refine Kd.C_drewN ?_ _) | (with_reducible refine Kd.C_drew ?_))); (case side4 => exact HC1_3.out); rintro e w' ⟨rfl, ⟨nd, rfl⟩⟩))
      go_meet
      case rel => exact ⟨_, (((l0_4.length : Int) != (l1_4.length : Int))), (by first | rfl | (simp; done) | (simp [*]; done)), H', ⟨by first | omega | exact Nat.le_refl _⟩, ⟨by (with_reducible repeat (first | refine blk_drewN ?_ _ | refine blk_drew ?_ | refine blk_alloc ?_ _)); exact BK133.out⟩, ⟨by (with_reducible repeat (first | refine blk_drewN ?_ _ | refine blk_drew ?_ | refine blk_alloc ?_ _)); exact BK134.out⟩, ⟨by repeat (first | (with_reducible first | exact HB.out | apply below_alloc | apply pw_below_drewN | apply below_drew1 | refine below_set ?_ GE133.out | refine below_set ?_ GE134.out) | exact HB.out)⟩⟩
     ·replace c10 := Bool.eq_false_iff.mpr c10
      subst c10
      have H1 : (capnpref10_Equal.j0 k true a0_0 a0_1 a0_2 l0_3 l0_4 a1_0 a1_1 a1_2 l1_3 l1_4) = some r := by rw [if_neg (show ¬ (false = true) by decide)] at H; exact H
      clear H
      have H := H1
      clear H1
      have H' := Aside0.mk H
      clear H
      have hnb14 := NB133_134.out
      have hnc14 := NB134_133.out
      have hcz15_0 : w5.cell? ⟨gb133, 0, none⟩ = some (.int .i64 a0_0) := (blk_cell BK133.out 0).trans rfl
      have hcz15_1 : w5.cell? ⟨gb133, 1, none⟩ = some (.int .i64 a0_1) := (blk_cell BK133.out 1).trans rfl
      have hcz15_2 : w5.cell? ⟨gb133, 2, none⟩ = some (.int .i64 a0_2) := (blk_cell BK133.out 2).trans rfl
      have hcz15_3 : w5.cell? ⟨gb133, 3, none⟩ = some (.slice A0_3 l0_3.length c0_3) := (blk_cell BK133.out 3).trans rfl
      have hcz15_4 : w5.cell? ⟨gb133, 4, none⟩ = some (.slice A0_4 l0_4.length c0_4) := (blk_cell BK133.out 4).trans rfl
      have hfz15_0 := blk_frozen BK133.out 0
      have hfz15_1 := blk_frozen BK133.out 1
      have hfz15_2 := blk_frozen BK133.out 2
      have hfz15_3 := blk_frozen BK133.out 3
      have hfz15_4 := blk_frozen BK133.out 4
      have hcz16_0 : w5.cell? ⟨gb134, 0, none⟩ = some (.int .i64 a1_0) := (blk_cell BK134.out 0).trans rfl
      have hcz16_1 : w5.cell? ⟨gb134, 1, none⟩ = some (.int .i64 a1_1) := (blk_cell BK134.out 1).trans rfl
      have hcz16_2 : w5.cell? ⟨gb134, 2, none⟩ = some (.int .i64 a1_2) := (blk_cell BK134.out 2).trans rfl
      have hcz16_3 : w5.cell? ⟨gb134, 3, none⟩ = some (.slice A1_3 l1_3.length c1_3) := (blk_cell BK134.out 3).trans rfl
      have hcz16_4 : w5.cell? ⟨gb134, 4, none⟩ = some (.slice A1_4 l1_4.length c1_4) := (blk_cell BK134.out 4).trans rfl
      have hfz16_0 := blk_frozen BK134.out 0
      have hfz16_1 := blk_frozen BK134.out 1
      have hfz16_2 := blk_frozen BK134.out 2
      have hfz16_3 := blk_frozen BK134.out 3
      have hfz16_4 := blk_frozen BK134.out 4
      go_wp2_with (first | (go_at_call 24; (with_reducible refine (capnpref01_Same.calls k _ _ l0_3 _ _ l1_3 false _ ?side1 ?side2 ?side3 ?side4 A9.out).mono ?_); (case side1 => repeat (first | exact (Kd.C_below HR0_3.out HB.out) | (with_reducible refine Kd.C_alloc ?_ _) | (with_reducible refine Kd.C_drewN ?_ _) | (with_reducible refine Kd.C_drew ?_))); (case side2 => exact HC0_3.out); (case side3 => repeat (first | exact (Kd.C_below HR1_3.out HB.out) | (with_reducible refine Kd.C_alloc ?_ _) | (with_reducible refine Kd.C_drewN ?_ _) | (with_reducible refine Kd.C_drew ?_))); (case side4 => exact HC1_3.out); rintro e w' ⟨rfl, ⟨nd, rfl⟩⟩))
      go_meet
      case rel => exact ⟨_, (true), (by first | rfl | (simp; done) | (simp [*]; done)), H', ⟨by first | omega | exact Nat.le_refl _⟩, ⟨by (with_reducible repeat (first | refine blk_drewN ?_ _ | refine blk_drew ?_ | refine blk_alloc ?_ _)); exact BK133.out⟩, ⟨by (with_reducible repeat (first | refine blk_drewN ?_ _ | refine blk_drew ?_ | refine blk_alloc ?_ _)); exact BK134.out⟩, ⟨by repeat (first | (with_reducible first | exact HB.out | apply below_alloc | apply pw_below_drewN | apply below_drew1 | refine below_set ?_ GE133.out | refine below_set ?_ GE134.out) | exact HB.out)⟩⟩
    ·rw [if_neg c8] at H
     have c8b0 : (a0_2 == a1_2) = false := beq_eq_false_iff_ne.mpr c8
     have c8b1 : (a0_2 != a1_2) = true := bne_iff_ne.mpr c8
     have H' := Aside0.mk H
     clear H
     have hnb17 := NB133_134.out
     have hnc17 := NB134_133.out
     have hcz18_0 : w5.cell? ⟨gb133, 0, none⟩ = some (.int .i64 a0_0) := (blk_cell BK133.out 0).trans rfl
     have hcz18_1 : w5.cell? ⟨gb133, 1, none⟩ = some (.int .i64 a0_1) := (blk_cell BK133.out 1).trans rfl
     have hcz18_2 : w5.cell? ⟨gb133, 2, none⟩ = some (.int .i64 a0_2) := (blk_cell BK133.out 2).trans rfl
     have hcz18_3 : w5.cell? ⟨gb133, 3, none⟩ = some (.slice A0_3 l0_3.length c0_3) := (blk_cell BK133.out 3).trans rfl
     have hcz18_4 : w5.cell? ⟨gb133, 4, none⟩ = some (.slice A0_4 l0_4.length c0_4) := (blk_cell BK133.out 4).trans rfl
     have hfz18_0 := blk_frozen BK133.out 0
     have hfz18_1 := blk_frozen BK133.out 1
     have hfz18_2 := blk_frozen BK133.out 2
     have hfz18_3 := blk_frozen BK133.out 3
     have hfz18_4 := blk_frozen BK133.out 4
     have hcz19_0 : w5.cell? ⟨gb134, 0, none⟩ = some (.int .i64 a1_0) := (blk_cell BK134.out 0).trans rfl
     have hcz19_1 : w5.cell? ⟨gb134, 1, none⟩ = some (.int .i64 a1_1) := (blk_cell BK134.out 1).trans rfl
     have hcz19_2 : w5.cell? ⟨gb134, 2, none⟩ = some (.int .i64 a1_2) := (blk_cell BK134.out 2).trans rfl
     have hcz19_3 : w5.cell? ⟨gb134, 3, none⟩ = some (.slice A1_3 l1_3.length c1_3) := (blk_cell BK134.out 3).trans rfl
     have hcz19_4 : w5.cell? ⟨gb134, 4, none⟩ = some (.slice A1_4 l1_4.length c1_4) := (blk_cell BK134.out 4).trans rfl
     have hfz19_0 := blk_frozen BK134.out 0
     have hfz19_1 := blk_frozen BK134.out 1
     have hfz19_2 := blk_frozen BK134.out 2
     have hfz19_3 := blk_frozen BK134.out 3
     have hfz19_4 := blk_frozen BK134.out 4
     go_wp2
     go_meet
     case rel => exact ⟨_, (true), (by first | rfl | (simp; done) | (simp [*]; done)), H', ⟨by first | omega | exact Nat.le_refl _⟩, ⟨by (with_reducible repeat (first | refine blk_drewN ?_ _ | refine blk_drew ?_ | refine blk_alloc ?_ _)); exact BK133.out⟩, ⟨by (with_reducible repeat (first | refine blk_drewN ?_ _ | refine blk_drew ?_ | refine blk_alloc ?_ _)); exact BK134.out⟩, ⟨by repeat (first | (with_reducible first | exact HB.out | apply below_alloc | apply pw_below_drewN | apply below_drew1 | refine below_set ?_ GE133.out | refine below_set ?_ GE134.out) | exact HB.out)⟩⟩
   ·rw [if_neg c7] at H
    have c7b0 : (a0_1 == a1_1) = false := beq_eq_false_iff_ne.mpr c7
    have c7b1 : (a0_1 != a1_1) = true := bne_iff_ne.mpr c7
    have H' := Aside0.mk H
    clear H
    have hnb20 := NB133_134.out
    have hnc20 := NB134_133.out
    have hcz21_0 : w5.cell? ⟨gb133, 0, none⟩ = some (.int .i64 a0_0) := (blk_cell BK133.out 0).trans rfl
    have hcz21_1 : w5.cell? ⟨gb133, 1, none⟩ = some (.int .i64 a0_1) := (blk_cell BK133.out 1).trans rfl
    have hcz21_2 : w5.cell? ⟨gb133, 2, none⟩ = some (.int .i64 a0_2) := (blk_cell BK133.out 2).trans rfl
    have hcz21_3 : w5.cell? ⟨gb133, 3, none⟩ = some (.slice A0_3 l0_3.length c0_3) := (blk_cell BK133.out 3).trans rfl
    have hcz21_4 : w5.cell? ⟨gb133, 4, none⟩ = some (.slice A0_4 l0_4.length c0_4) := (blk_cell BK133.out 4).trans rfl
    have hfz21_0 := blk_frozen BK133.out 0
    have hfz21_1 := blk_frozen BK133.out 1
    have hfz21_2 := blk_frozen BK133.out 2
    have hfz21_3 := blk_frozen BK133.out 3
    have hfz21_4 := blk_frozen BK133.out 4
    have hcz22_0 : w5.cell? ⟨gb134, 0, none⟩ = some (.int .i64 a1_0) := (blk_cell BK134.out 0).trans rfl
    have hcz22_1 : w5.cell? ⟨gb134, 1, none⟩ = some (.int .i64 a1_1) := (blk_cell BK134.out 1).trans rfl
    have hcz22_2 : w5.cell? ⟨gb134, 2, none⟩ = some (.int .i64 a1_2) := (blk_cell BK134.out 2).trans rfl
    have hcz22_3 : w5.cell? ⟨gb134, 3, none⟩ = some (.slice A1_3 l1_3.length c1_3) := (blk_cell BK134.out 3).trans rfl
    have hcz22_4 : w5.cell? ⟨gb134, 4, none⟩ = some (.slice A1_4 l1_4.length c1_4) := (blk_cell BK134.out 4).trans rfl
    have hfz22_0 := blk_frozen BK134.out 0
    have hfz22_1 := blk_frozen BK134.out 1
    have hfz22_2 := blk_frozen BK134.out 2
    have hfz22_3 := blk_frozen BK134.out 3
    have hfz22_4 := blk_frozen BK134.out 4
    go_wp2
    go_meet
    case rel => exact ⟨_, (true), (by first | rfl | (simp; done) | (simp [*]; done)), H', ⟨by first | omega | exact Nat.le_refl _⟩, ⟨by (with_reducible repeat (first | refine blk_drewN ?_ _ | refine blk_drew ?_ | refine blk_alloc ?_ _)); exact BK133.out⟩, ⟨by (with_reducible repeat (first | refine blk_drewN ?_ _ | refine blk_drew ?_ | refine blk_alloc ?_ _)); exact BK134.out⟩, ⟨by repeat (first | (with_reducible first | exact HB.out | apply below_alloc | apply pw_below_drewN | apply below_drew1 | refine below_set ?_ GE133.out | refine below_set ?_ GE134.out) | exact HB.out)⟩⟩
  ·rw [if_neg c6] at H
   have c6b0 : (a0_0 == a1_0) = false := beq_eq_false_iff_ne.mpr c6
   have c6b1 : (a0_0 != a1_0) = true := bne_iff_ne.mpr c6
   (first | rw [c6b0] | (simp only [i64_w, i32_w]; rw [c6b0]) | skip)
   have H' := Aside0.mk H
   clear H
   have hnb23 := NB133_134.out
   have hnc23 := NB134_133.out
   have hcz24_0 : w5.cell? ⟨gb133, 0, none⟩ = some (.int .i64 a0_0) := (blk_cell BK133.out 0).trans rfl
   have hcz24_1 : w5.cell? ⟨gb133, 1, none⟩ = some (.int .i64 a0_1) := (blk_cell BK133.out 1).trans rfl
   have hcz24_2 : w5.cell? ⟨gb133, 2, none⟩ = some (.int .i64 a0_2) := (blk_cell BK133.out 2).trans rfl
   have hcz24_3 : w5.cell? ⟨gb133, 3, none⟩ = some (.slice A0_3 l0_3.length c0_3) := (blk_cell BK133.out 3).trans rfl
   have hcz24_4 : w5.cell? ⟨gb133, 4, none⟩ = some (.slice A0_4 l0_4.length c0_4) := (blk_cell BK133.out 4).trans rfl
   have hfz24_0 := blk_frozen BK133.out 0
   have hfz24_1 := blk_frozen BK133.out 1
   have hfz24_2 := blk_frozen BK133.out 2
   have hfz24_3 := blk_frozen BK133.out 3
   have hfz24_4 := blk_frozen BK133.out 4
   have hcz25_0 : w5.cell? ⟨gb134, 0, none⟩ = some (.int .i64 a1_0) := (blk_cell BK134.out 0).trans rfl
   have hcz25_1 : w5.cell? ⟨gb134, 1, none⟩ = some (.int .i64 a1_1) := (blk_cell BK134.out 1).trans rfl
   have hcz25_2 : w5.cell? ⟨gb134, 2, none⟩ = some (.int .i64 a1_2) := (blk_cell BK134.out 2).trans rfl
   have hcz25_3 : w5.cell? ⟨gb134, 3, none⟩ = some (.slice A1_3 l1_3.length c1_3) := (blk_cell BK134.out 3).trans rfl
   have hcz25_4 : w5.cell? ⟨gb134, 4, none⟩ = some (.slice A1_4 l1_4.length c1_4) := (blk_cell BK134.out 4).trans rfl
   have hfz25_0 := blk_frozen BK134.out 0
   have hfz25_1 := blk_frozen BK134.out 1
   have hfz25_2 := blk_frozen BK134.out 2
   have hfz25_3 := blk_frozen BK134.out 3
   have hfz25_4 := blk_frozen BK134.out 4
   go_wp2
   go_meet
   case rel => exact ⟨_, (true), (by first | rfl | (simp; done) | (simp [*]; done)), H', ⟨by first | omega | exact Nat.le_refl _⟩, ⟨by (with_reducible repeat (first | refine blk_drewN ?_ _ | refine blk_drew ?_ | refine blk_alloc ?_ _)); exact BK133.out⟩, ⟨by (with_reducible repeat (first | refine blk_drewN ?_ _ | refine blk_drew ?_ | refine blk_alloc ?_ _)); exact BK134.out⟩, ⟨by repeat (first | (with_reducible first | exact HB.out | apply below_alloc | apply pw_below_drewN | apply below_drew1 | refine below_set ?_ GE133.out | refine below_set ?_ GE134.out) | exact HB.out)⟩⟩
 case rest =>
  clear HC3
  try clear c1
  try clear c2
  try clear p2
  try clear c6
  try clear c6b0
  try clear c6b1
  try clear c7
  try clear c7b0
  try clear c7b1
  try clear c8
  try clear c8b0
  try clear c8b1
  try clear c10
  try clear c11
  try clear c13
  try clear c14
  try clear c17
  try clear c20
  try clear c23
  try clear hcz12_0
  try clear hcz12_1
  try clear hcz12_2
  try clear hcz12_3
  try clear hcz12_4
  try clear hcz13_0
  try clear hcz13_1
  try clear hcz13_2
  try clear hcz13_3
  try clear hcz13_4
  try clear hcz15_0
  try clear hcz15_1
  try clear hcz15_2
  try clear hcz15_3
  try clear hcz15_4
  try clear hcz16_0
  try clear hcz16_1
  try clear hcz16_2
  try clear hcz16_3
  try clear hcz16_4
  try clear hcz18_0
  try clear hcz18_1
  try clear hcz18_2
  try clear hcz18_3
  try clear hcz18_4
  try clear hcz19_0
  try clear hcz19_1
  try clear hcz19_2
  try clear hcz19_3
  try clear hcz19_4
  try clear hcz21_0
  try clear hcz21_1
  try clear hcz21_2
  try clear hcz21_3
  try clear hcz21_4
  try clear hcz22_0
  try clear hcz22_1
  try clear hcz22_2
  try clear hcz22_3
  try clear hcz22_4
  try clear hcz24_0
  try clear hcz24_1
  try clear hcz24_2
  try clear hcz24_3
  try clear hcz24_4
  try clear hcz25_0
  try clear hcz25_1
  try clear hcz25_2
  try clear hcz25_3
  try clear hcz25_4
  try clear hfz12_0
  try clear hfz12_1
  try clear hfz12_2
  try clear hfz12_3
  try clear hfz12_4
  try clear hfz13_0
  try clear hfz13_1
  try clear hfz13_2
  try clear hfz13_3
  try clear hfz13_4
  try clear hfz15_0
  try clear hfz15_1
  try clear hfz15_2
  try clear hfz15_3
  try clear hfz15_4
  try clear hfz16_0
  try clear hfz16_1
  try clear hfz16_2
  try clear hfz16_3
  try clear hfz16_4
  try clear hfz18_0
  try clear hfz18_1
  try clear hfz18_2
  try clear hfz18_3
  try clear hfz18_4
  try clear hfz19_0
  try clear hfz19_1
  try clear hfz19_2
  try clear hfz19_3
  try clear hfz19_4
  try clear hfz21_0
  try clear hfz21_1
  try clear hfz21_2
  try clear hfz21_3
  try clear hfz21_4
  try clear hfz22_0
  try clear hfz22_1
  try clear hfz22_2
  try clear hfz22_3
  try clear hfz22_4
  try clear hfz24_0
  try clear hfz24_1
  try clear hfz24_2
  try clear hfz24_3
  try clear hfz24_4
  try clear hfz25_0
  try clear hfz25_1
  try clear hfz25_2
  try clear hfz25_3
  try clear hfz25_4
  obtain ⟨kq, x41_2, rfl, HA, HJ2, BK133, BK134, HB⟩ := hcut
  cases kq with
  | zero => exact absurd HA.out (by simp [capnpref10_Equal.j0])
  | succ kj2 =>
   have H := HA.out
   clear HA
   simp only [capnpref10_Equal.j0] at H
   by_cases c26 : x41_2 = true
   ·subst c26
    have H1 : (some false) = some r := by rw [if_pos rfl] at H; exact H
    clear H
    have H := H1
    clear H1
    obtain rfl := Option.some.inj H
    go_wp2
    go_ret
    exact ⟨by first | rfl | (simp [errW_none, errW_some] <;> rfl) | (simp [*, errW_none, errW_some] <;> rfl), by repeat (first | (with_reducible first | exact HB.out | apply below_alloc | apply pw_below_drewN | apply below_drew1 | refine below_set ?_ GE133.out | refine below_set ?_ GE134.out) | exact HB.out)⟩
   ·replace c26 := Bool.eq_false_iff.mpr c26
    subst c26
    have H1 : (capnpref10_Equal.l0 kj2 0 a0_0 a0_1 a0_2 l0_3 l0_4 a1_0 a1_1 a1_2 l1_3 l1_4) = some r := by rw [if_neg (show ¬ (false = true) by decide)] at H; exact H
    clear H
    have H := H1
    clear H1
    have H' := Aside0.mk H
    clear H
    go_wp2
    go_loopg [5] kj2 (fun kq v5 w' => ∃ (x5_2 : Int), v5 = .int .i64 x5_2 ∧ Aside0 (capnpref10_Equal.l0 kq x5_2 a0_0 a0_1 a0_2 l0_3 l0_4 a1_0 a1_1 a1_2 l1_3 l1_4 = some r) ∧ Aside0 (kq ≤ kj2) ∧ Aside0 (w'.heap[gb133]? = some (.cells #[.int .i64 a0_0, .int .i64 a0_1, .int .i64 a0_2, (.slice A0_3 l0_3.length c0_3), (.slice A0_4 l0_4.length c0_4)] 25 (0, 0))) ∧ Aside0 (w'.heap[gb134]? = some (.cells #[.int .i64 a1_0, .int .i64 a1_1, .int .i64 a1_2, (.slice A1_3 l1_3.length c1_3), (.slice A1_4 l1_4.length c1_4)] 25 (0, 0))) ∧ Aside0 (Below w.heap.size w w'))
    case atStart => exact ⟨(0), (by first | rfl | (simp; done) | (simp [*]; done)), H', ⟨Nat.le_refl _⟩, ⟨by (with_reducible repeat (first | refine blk_drewN ?_ _ | refine blk_drew ?_ | refine blk_alloc ?_ _)); exact BK133.out⟩, ⟨by (with_reducible repeat (first | refine blk_drewN ?_ _ | refine blk_drew ?_ | refine blk_alloc ?_ _)); exact BK134.out⟩, ⟨by repeat (first | (with_reducible first | exact HB.out | apply below_alloc | apply pw_below_drewN | apply below_drew1 | refine below_set ?_ GE133.out | refine below_set ?_ GE134.out) | exact HB.out)⟩⟩
    case round =>
     clear H'
     try clear c1
     try clear c2
     try clear p2
     try clear c6
     try clear c6b0
     try clear c6b1
     try clear c7
     try clear c7b0
     try clear c7b1
     try clear c8
     try clear c8b0
     try clear c8b1
     try clear c10
     try clear c11
     try clear c13
     try clear c14
     try clear c17
     try clear c20
     try clear c23
     try clear c26
     try clear hcz12_0
     try clear hcz12_1
     try clear hcz12_2
     try clear hcz12_3
     try clear hcz12_4
     try clear hcz13_0
     try clear hcz13_1
     try clear hcz13_2
     try clear hcz13_3
     try clear hcz13_4
     try clear hcz15_0
     try clear hcz15_1
     try clear hcz15_2
     try clear hcz15_3
     try clear hcz15_4
     try clear hcz16_0
     try clear hcz16_1
     try clear hcz16_2
     try clear hcz16_3
     try clear hcz16_4
     try clear hcz18_0
     try clear hcz18_1
     try clear hcz18_2
     try clear hcz18_3
     try clear hcz18_4
     try clear hcz19_0
     try clear hcz19_1
     try clear hcz19_2
     try clear hcz19_3
     try clear hcz19_4
     try clear hcz21_0
     try clear hcz21_1
     try clear hcz21_2
     try clear hcz21_3
     try clear hcz21_4
     try clear hcz22_0
     try clear hcz22_1
     try clear hcz22_2
     try clear hcz22_3
     try clear hcz22_4
     try clear hcz24_0
     try clear hcz24_1
     try clear hcz24_2
     try clear hcz24_3
     try clear hcz24_4
     try clear hcz25_0
     try clear hcz25_1
     try clear hcz25_2
     try clear hcz25_3
     try clear hcz25_4
     try clear hfz12_0
     try clear hfz12_1
     try clear hfz12_2
     try clear hfz12_3
     try clear hfz12_4
     try clear hfz13_0
     try clear hfz13_1
     try clear hfz13_2
     try clear hfz13_3
     try clear hfz13_4
     try clear hfz15_0
     try clear hfz15_1
     try clear hfz15_2
     try clear hfz15_3
     try clear hfz15_4
     try clear hfz16_0
     try clear hfz16_1
     try clear hfz16_2
     try clear hfz16_3
     try clear hfz16_4
     try clear hfz18_0
     try clear hfz18_1
     try clear hfz18_2
     try clear hfz18_3
     try clear hfz18_4
     try clear hfz19_0
     try clear hfz19_1
     try clear hfz19_2
     try clear hfz19_3
     try clear hfz19_4
     try clear hfz21_0
     try clear hfz21_1
     try clear hfz21_2
     try clear hfz21_3
     try clear hfz21_4
     try clear hfz22_0
     try clear hfz22_1
     try clear hfz22_2
     try clear hfz22_3
     try clear hfz22_4
     try clear hfz24_0
     try clear hfz24_1
     try clear hfz24_2
     try clear hfz24_3
     try clear hfz24_4
     try clear hfz25_0
     try clear hfz25_1
     try clear hfz25_2
     try clear hfz25_3
     try clear hfz25_4
     try clear p2
     try clear BK133
     try clear BK134
     obtain ⟨x5_2, rfl, HA, HK2, BK133, BK134, HB⟩ := hrel
     cases gk with
     | zero => exact absurd HA.out (by simp [capnpref10_Equal.l0])
     | succ k2 =>
      have H := HA.out
      clear HA
      simp only [capnpref10_Equal.l0] at H
      by_cases c27 : x5_2 < (l0_4.length : Int)
      ·rw [if_pos c27] at H
       have c27b0 : decide (x5_2 < (l0_4.length : Int)) = true := decide_eq_true c27
       clear c27
       by_cases c28 : 0 ≤ x5_2
       ·rw [if_pos c28] at H
        have c28b0 : decide (0 ≤ x5_2) = true := decide_eq_true c28
        clear c28
        by_cases c29 : x5_2 < (l1_4.length : Int)
        ·rw [if_pos c29] at H
         have c29b0 : decide (x5_2 < (l1_4.length : Int)) = true := decide_eq_true c29
         clear c29
         replace H := Option.bind_eq_some_iff.mp H
         obtain ⟨t138, A300, H⟩ := H
         replace H : (if t138 = true then (capnpref10_Equal.l0 k2 (wrap64 (x5_2 + 1)) a0_0 a0_1 a0_2 l0_3 l0_4 a1_0 a1_1 a1_2 l1_3 l1_4) else (some false)) = some r := H
         have A30 := Aside0.mk A300
         clear A300
         by_cases c31 : t138 = true
         ·subst c31
          have H1 : (capnpref10_Equal.l0 k2 (wrap64 (x5_2 + 1)) a0_0 a0_1 a0_2 l0_3 l0_4 a1_0 a1_1 a1_2 l1_3 l1_4) = some r := by rw [if_pos rfl] at H; exact H
          clear H
          have H := H1
          clear H1
          have H' := Aside0.mk H
          clear H
          have hnb32 := NB133_134.out
          have hnc32 := NB134_133.out
          have hcz33_0 : wr.cell? ⟨gb133, 0, none⟩ = some (.int .i64 a0_0) := (blk_cell BK133.out 0).trans rfl
          have hcz33_1 : wr.cell? ⟨gb133, 1, none⟩ = some (.int .i64 a0_1) := (blk_cell BK133.out 1).trans rfl
          have hcz33_2 : wr.cell? ⟨gb133, 2, none⟩ = some (.int .i64 a0_2) := (blk_cell BK133.out 2).trans rfl
          have hcz33_3 : wr.cell? ⟨gb133, 3, none⟩ = some (.slice A0_3 l0_3.length c0_3) := (blk_cell BK133.out 3).trans rfl
          have hcz33_4 : wr.cell? ⟨gb133, 4, none⟩ = some (.slice A0_4 l0_4.length c0_4) := (blk_cell BK133.out 4).trans rfl
          have hfz33_0 := blk_frozen BK133.out 0
          have hfz33_1 := blk_frozen BK133.out 1
          have hfz33_2 := blk_frozen BK133.out 2
          have hfz33_3 := blk_frozen BK133.out 3
          have hfz33_4 := blk_frozen BK133.out 4
          try go_wp2
          have n0_ := Aside0.mk (blk_drew BK133.out)
          have n1_ := Aside0.mk (blk_drew BK134.out)
          have n2_ := Aside0.mk (below_drew1 HB.out)
          clear BK133
          clear BK134
          clear HB
          have BK133 := n0_
          have BK134 := n1_
          have HB := n2_
          clear n0_ n1_ n2_
          have p136 : 0 ≤ (x5_2 : Int) := of_decide_eq_true (by first | (with_reducible assumption) | assumption)
          have q136 : x5_2 < (l0_4.length : Int) := of_decide_eq_true (by first | (with_reducible assumption) | assumption)
          obtain ⟨ad136, A136_3, c136_3, A136_4, c136_4, e136, hx136_0, hx136_1, hx136_2, hx136_3, hx136_4, hl136_3, hi136_3, hl136_4, hi136_4⟩ := at_T25 HR0_4.out x5_2 p136 q136
          have hw136_4 := hx136_4
          have hw136_3 := hx136_3
          have hw136_2 := hx136_2
          have hw136_1 := hx136_1
          have hw136_0 := hx136_0
          cases e136
          replace hx136_0 := (HB.out.cell (World.block_lt_of_cell? w _ hx136_0)).trans hx136_0
          replace hx136_1 := (HB.out.cell (World.block_lt_of_cell? w _ hx136_1)).trans hx136_1
          replace hx136_2 := (HB.out.cell (World.block_lt_of_cell? w _ hx136_2)).trans hx136_2
          replace hx136_3 := (HB.out.cell (World.block_lt_of_cell? w _ hx136_3)).trans hx136_3
          replace hx136_4 := (HB.out.cell (World.block_lt_of_cell? w _ hx136_4)).trans hx136_4
          have HR136_3 := Aside0.mk hi136_3
          have HC136_3 := Aside0.mk hl136_3
          clear hi136_3 hl136_3
          have HR136_4 := Aside0.mk hi136_4
          have HC136_4 := Aside0.mk hl136_4
          clear hi136_4 hl136_4
          replace p136 := eq_true p136
          replace q136 := eq_true q136
          have p137 : 0 ≤ (x5_2 : Int) := of_decide_eq_true (by first | (with_reducible assumption) | assumption)
          have q137 : x5_2 < (l1_4.length : Int) := of_decide_eq_true (by first | (with_reducible assumption) | assumption)
          obtain ⟨ad137, A137_3, c137_3, A137_4, c137_4, e137, hx137_0, hx137_1, hx137_2, hx137_3, hx137_4, hl137_3, hi137_3, hl137_4, hi137_4⟩ := at_T25 HR1_4.out x5_2 p137 q137
          have hw137_4 := hx137_4
          have hw137_3 := hx137_3
          have hw137_2 := hx137_2
          have hw137_1 := hx137_1
          have hw137_0 := hx137_0
          cases e137
          replace hx137_0 := (HB.out.cell (World.block_lt_of_cell? w _ hx137_0)).trans hx137_0
          replace hx137_1 := (HB.out.cell (World.block_lt_of_cell? w _ hx137_1)).trans hx137_1
          replace hx137_2 := (HB.out.cell (World.block_lt_of_cell? w _ hx137_2)).trans hx137_2
          replace hx137_3 := (HB.out.cell (World.block_lt_of_cell? w _ hx137_3)).trans hx137_3
          replace hx137_4 := (HB.out.cell (World.block_lt_of_cell? w _ hx137_4)).trans hx137_4
          have HR137_3 := Aside0.mk hi137_3
          have HC137_3 := Aside0.mk hl137_3
          clear hi137_3 hl137_3
          have HR137_4 := Aside0.mk hi137_4
          have HC137_4 := Aside0.mk hl137_4
          clear hi137_4 hl137_4
          replace p137 := eq_true p137
          replace q137 := eq_true q137
          refine start_ (n := 12) (S := fun w' => w'.cell? ⟨gb133, 0, none⟩ = some (.int .i64 a0_0) ∧ w'.cell? ⟨gb133, 1, none⟩ = some (.int .i64 a0_1) ∧ w'.cell? ⟨gb133, 2, none⟩ = some (.int .i64 a0_2) ∧ w'.cell? ⟨gb133, 3, none⟩ = some (.slice A0_3 l0_3.length c0_3) ∧ w'.cell? ⟨gb133, 4, none⟩ = some (.slice (some ad136) l0_4.length c0_4) ∧ w'.cell? ⟨gb134, 0, none⟩ = some (.int .i64 a1_0) ∧ w'.cell? ⟨gb134, 1, none⟩ = some (.int .i64 a1_1) ∧ w'.cell? ⟨gb134, 2, none⟩ = some (.int .i64 a1_2) ∧ w'.cell? ⟨gb134, 3, none⟩ = some (.slice A1_3 l1_3.length c1_3) ∧ w'.cell? ⟨gb134, 4, none⟩ = some (.slice (some ad137) l1_4.length c1_4) ∧ w'.cell? (ad136.add ((x5_2).toNat * 5)) = some (.int .i64 ((rd_T25 l0_4 x5_2).f0)) ∧ w'.cell? ⟨(ad136.add ((x5_2).toNat * 5)).block, (ad136.add ((x5_2).toNat * 5)).off + 1, none⟩ = some (.int .i64 ((rd_T25 l0_4 x5_2).f1)) ∧ w'.cell? ⟨(ad136.add ((x5_2).toNat * 5)).block, (ad136.add ((x5_2).toNat * 5)).off + 2, none⟩ = some (.int .i64 ((rd_T25 l0_4 x5_2).f2)) ∧ w'.cell? ⟨(ad136.add ((x5_2).toNat * 5)).block, (ad136.add ((x5_2).toNat * 5)).off + 3, none⟩ = some (.slice A136_3 ((rd_T25 l0_4 x5_2).f3).length c136_3) ∧ w'.cell? ⟨(ad136.add ((x5_2).toNat * 5)).block, (ad136.add ((x5_2).toNat * 5)).off + 4, none⟩ = some (.slice A136_4 ((rd_T25 l0_4 x5_2).f4).length c136_4) ∧ w'.cell? (ad137.add ((x5_2).toNat * 5)) = some (.int .i64 ((rd_T25 l1_4 x5_2).f0)) ∧ w'.cell? ⟨(ad137.add ((x5_2).toNat * 5)).block, (ad137.add ((x5_2).toNat * 5)).off + 1, none⟩ = some (.int .i64 ((rd_T25 l1_4 x5_2).f1)) ∧ w'.cell? ⟨(ad137.add ((x5_2).toNat * 5)).block, (ad137.add ((x5_2).toNat * 5)).off + 2, none⟩ = some (.int .i64 ((rd_T25 l1_4 x5_2).f2)) ∧ w'.cell? ⟨(ad137.add ((x5_2).toNat * 5)).block, (ad137.add ((x5_2).toNat * 5)).off + 3, none⟩ = some (.slice A137_3 ((rd_T25 l1_4 x5_2).f3).length c137_3) ∧ w'.cell? ⟨(ad137.add ((x5_2).toNat * 5)).block, (ad137.add ((x5_2).toNat * 5)).off + 4, none⟩ = some (.slice A137_4 ((rd_T25 l1_4 x5_2).f4).length c137_4)) (ds := []) #[false, false, false, false, false, false, false, false, false, false, false, false] (by kernel_rfl) rfl rfl ⟨(blk_cell BK133.out 0).trans rfl, (blk_cell BK133.out 1).trans rfl, (blk_cell BK133.out 2).trans rfl, (blk_cell BK133.out 3).trans rfl, (blk_cell BK133.out 4).trans rfl, (blk_cell BK134.out 0).trans rfl, (blk_cell BK134.out 1).trans rfl, (blk_cell BK134.out 2).trans rfl, (blk_cell BK134.out 3).trans rfl, (blk_cell BK134.out 4).trans rfl, ((HB.out.cell (World.block_lt_of_cell? w _ hw136_0)).trans hw136_0), ((HB.out.cell (World.block_lt_of_cell? w _ hw136_1)).trans hw136_1), ((HB.out.cell (World.block_lt_of_cell? w _ hw136_2)).trans hw136_2), ((HB.out.cell (World.block_lt_of_cell? w _ hw136_3)).trans hw136_3), ((HB.out.cell (World.block_lt_of_cell? w _ hw136_4)).trans hw136_4), ((HB.out.cell (World.block_lt_of_cell? w _ hw137_0)).trans hw137_0), ((HB.out.cell (World.block_lt_of_cell? w _ hw137_1)).trans hw137_1), ((HB.out.cell (World.block_lt_of_cell? w _ hw137_2)).trans hw137_2), ((HB.out.cell (World.block_lt_of_cell? w _ hw137_3)).trans hw137_3), ((HB.out.cell (World.block_lt_of_cell? w _ hw137_4)).trans hw137_4)⟩ (fun hHeld => ?_); refine with_tabW capnpref10_Equal.tab6 capnpref10_Equal.bits6 (fun HT_ HW_ => ?_)
          generalize wr.drew = w34 at BK133 BK134 HB HR136_3 HR136_4 HR137_3 HR137_4 hx136_0 hx136_1 hx136_2 hx136_3 hx136_4 hx137_0 hx137_1 hx137_2 hx137_3 hx137_4 hHeld ⊢
          refine pure_ (i := 0) (N := some 49) (v := ?_) (a' := ?_) #[true, false, false, false, false, false, false, false, false, false, false, false] rfl rfl (any_of HT_.out (by kernel_rfl)) (fun _ _ _ h => h) (Or.inl ⟨by rfl, ?_⟩) ?_ ?_
          rotate_left
          ·intro w'
           go_simp
           with_reducible rfl
          rotate_left
          ·simp only [Act.put, List.setIfInBounds_toArray, List.set_cons_zero, List.set_cons_succ, i64_w, i32_w]
           rfl
          refine pure_ (i := 2) (N := some 51) (v := ?_) (a' := ?_) #[true, false, true, false, false, false, false, false, false, false, false, false] rfl rfl (any_of HT_.out (by kernel_rfl)) (fun _ _ _ h => h) (Or.inl ⟨by rfl, ?_⟩) ?_ ?_
          rotate_left
          ·intro w'
           go_simp
           with_reducible rfl
          rotate_left
          ·simp only [Act.put, List.setIfInBounds_toArray, List.set_cons_zero, List.set_cons_succ, i64_w, i32_w]
           rfl
          refine pure_ (i := 5) (N := some 54) (v := ?_) (a' := ?_) #[true, false, true, false, false, true, false, false, false, false, false, false] rfl rfl (any_of HT_.out (by kernel_rfl)) (fun _ _ _ h => h) (Or.inl ⟨by rfl, ?_⟩) ?_ ?_
          rotate_left
          ·intro w'
           go_simp
           with_reducible rfl
          rotate_left
          ·simp only [Act.put, List.setIfInBounds_toArray, List.set_cons_zero, List.set_cons_succ, i64_w, i32_w]
           rfl
          refine pure_ (i := 7) (N := some 56) (v := ?_) (a' := ?_) #[true, false, true, false, false, true, false, true, false, false, false, false] rfl rfl (any_of HT_.out (by kernel_rfl)) (fun _ _ _ h => h) (Or.inl ⟨by rfl, ?_⟩) ?_ ?_
          rotate_left
          ·intro w'
           go_simp
           with_reducible rfl
          rotate_left
          ·simp only [Act.put, List.setIfInBounds_toArray, List.set_cons_zero, List.set_cons_succ, i64_w, i32_w]
           rfl
          refine take_ (i := 1) (N := some 50) (v := ?_) (a' := ?_) #[true, true, true, false, false, true, false, true, false, false, false, false] rfl rfl (take_ofW HT_.out HW_.out (by kernel_rfl)) (fun _ _ _ h => h) (Or.inl ⟨by rfl, ?_⟩) hHeld ?_ ?_
          rotate_left
          ·rintro w' ⟨s0, s1, s2, s3, s4, s5, s6, s7, s8, s9, s10, s11, s12, s13, s14, s15, s16, s17, s18, s19⟩
           go_simp
           with_reducible rfl
          rotate_left
          ·simp only [Act.put, List.setIfInBounds_toArray, List.set_cons_zero, List.set_cons_succ, i64_w, i32_w]
           rfl
          refine pure_ (i := 3) (N := some 52) (v := ?_) (a' := ?_) #[true, true, true, true, false, true, false, true, false, false, false, false] rfl rfl (any_of HT_.out (by kernel_rfl)) (fun _ _ _ h => h) (Or.inl ⟨by rfl, ?_⟩) ?_ ?_
          rotate_left
          ·intro w'
           go_simp
           with_reducible rfl
          rotate_left
          ·simp only [Act.put, List.setIfInBounds_toArray, List.set_cons_zero, List.set_cons_succ, i64_w, i32_w]
           rfl
          refine take_ (i := 4) (N := some 53) (v := ?_) (a' := ?_) #[true, true, true, true, true, true, false, true, false, false, false, false] rfl rfl (take_ofW HT_.out HW_.out (by kernel_rfl)) (fun _ _ _ h => h) (Or.inl ⟨by rfl, ?_⟩) hHeld ?_ ?_
          rotate_left
          ·rintro w' ⟨s0, s1, s2, s3, s4, s5, s6, s7, s8, s9, s10, s11, s12, s13, s14, s15, s16, s17, s18, s19⟩
           go_simp
           with_reducible rfl
          rotate_left
          ·simp only [Act.put, List.setIfInBounds_toArray, List.set_cons_zero, List.set_cons_succ, i64_w, i32_w]
           rfl
          refine take_ (i := 6) (N := some 55) (v := ?_) (a' := ?_) #[true, true, true, true, true, true, true, true, false, false, false, false] rfl rfl (take_ofW HT_.out HW_.out (by kernel_rfl)) (fun _ _ _ h => h) (Or.inl ⟨by rfl, ?_⟩) hHeld ?_ ?_
          rotate_left
          ·rintro w' ⟨s0, s1, s2, s3, s4, s5, s6, s7, s8, s9, s10, s11, s12, s13, s14, s15, s16, s17, s18, s19⟩
           go_simp
           with_reducible rfl
          rotate_left
          ·simp only [Act.put, List.setIfInBounds_toArray, List.set_cons_zero, List.set_cons_succ, i64_w, i32_w]
           rfl
          refine pure_ (i := 8) (N := some 57) (v := ?_) (a' := ?_) #[true, true, true, true, true, true, true, true, true, false, false, false] rfl rfl (any_of HT_.out (by kernel_rfl)) (fun _ _ _ h => h) (Or.inl ⟨by rfl, ?_⟩) ?_ ?_
          rotate_left
          ·intro w'
           go_simp
           with_reducible rfl
          rotate_left
          ·simp only [Act.put, List.setIfInBounds_toArray, List.set_cons_zero, List.set_cons_succ, i64_w, i32_w]
           rfl
          refine take_ (i := 9) (N := some 58) (v := ?_) (a' := ?_) #[true, true, true, true, true, true, true, true, true, true, false, false] rfl rfl (take_ofW HT_.out HW_.out (by kernel_rfl)) (fun _ _ _ h => h) (Or.inl ⟨by rfl, ?_⟩) hHeld ?_ ?_
          rotate_left
          ·rintro w' ⟨s0, s1, s2, s3, s4, s5, s6, s7, s8, s9, s10, s11, s12, s13, s14, s15, s16, s17, s18, s19⟩
           go_simp
           with_reducible rfl
          rotate_left
          ·simp only [Act.put, List.setIfInBounds_toArray, List.set_cons_zero, List.set_cons_succ, i64_w, i32_w]
           rfl
          refine one_ (i := 10) (N := some 59) #[true, true, true, true, true, true, true, true, true, true, true, false] rfl rfl (one_of HT_.out (by kernel_rfl)) (by decide) (fun K hK => ?_)
          refine goes_ Tryd.func13 (by kernel_rfl) rfl #[.agg #[.int .i64 ((rd_T25 l0_4 x5_2).f0), .int .i64 ((rd_T25 l0_4 x5_2).f1), .int .i64 ((rd_T25 l0_4 x5_2).f2), .slice A136_3 ((rd_T25 l0_4 x5_2).f3).length c136_3, .slice A136_4 ((rd_T25 l0_4 x5_2).f4).length c136_4], .agg #[.int .i64 ((rd_T25 l1_4 x5_2).f0), .int .i64 ((rd_T25 l1_4 x5_2).f1), .int .i64 ((rd_T25 l1_4 x5_2).f2), .slice A137_3 ((rd_T25 l1_4 x5_2).f3).length c137_3, .slice A137_4 ((rd_T25 l1_4 x5_2).f4).length c137_4]] (by rfl) rfl rfl (by (try simp only [List.map_toArray, List.map_cons, List.map_nil]); first | done | rfl | (simp only [List.length_drop, List.length_take]; rfl)) ?_
          with_reducible refine (ih k2 (by have := HJ2.out; have := HK2.out; omega) ((rd_T25 l0_4 x5_2).f0) ((rd_T25 l0_4 x5_2).f1) ((rd_T25 l0_4 x5_2).f2) _ _ ((rd_T25 l0_4 x5_2).f3) _ _ ((rd_T25 l0_4 x5_2).f4) ((rd_T25 l1_4 x5_2).f0) ((rd_T25 l1_4 x5_2).f1) ((rd_T25 l1_4 x5_2).f2) _ _ ((rd_T25 l1_4 x5_2).f3) _ _ ((rd_T25 l1_4 x5_2).f4) true _ ?side1 ?side2 ?side3 ?side4 ?side5 ?side6 ?side7 ?side8 A30.out).mono ?_
          (case side1 => repeat (first | exact (Kd.C_below HR136_3.out HB.out) | (with_reducible refine Kd.C_alloc ?_ _) | (with_reducible refine Kd.C_drewN ?_ _) | (with_reducible refine Kd.C_drew ?_)))
          (case side2 => exact HC136_3.out)
          (case side3 => repeat (first | exact (Kd.C_below HR136_4.out HB.out) | (with_reducible refine Kd.C_alloc ?_ _) | (with_reducible refine Kd.C_drewN ?_ _) | (with_reducible refine Kd.C_drew ?_)))
          (case side4 => exact HC136_4.out)
          (case side5 => repeat (first | exact (Kd.C_below HR137_3.out HB.out) | (with_reducible refine Kd.C_alloc ?_ _) | (with_reducible refine Kd.C_drewN ?_ _) | (with_reducible refine Kd.C_drew ?_)))
          (case side6 => exact HC137_3.out)
          (case side7 => repeat (first | exact (Kd.C_below HR137_4.out HB.out) | (with_reducible refine Kd.C_alloc ?_ _) | (with_reducible refine Kd.C_drewN ?_ _) | (with_reducible refine Kd.C_drew ?_)))
          (case side8 => exact HC137_4.out)
          rintro e w35 ⟨rfl, hb⟩
          refine ⟨_, rfl, ?_⟩
          have n0_ := Aside0.mk (blk_below (g := gb133) (o := .cells #[.int .i64 a0_0, .int .i64 a0_1, .int .i64 a0_2, .slice A0_3 l0_3.length c0_3, .slice (some ad136) l0_4.length c0_4] 25 (0, 0)) (by (with_reducible repeat (first | refine blk_drewN ?_ _ | refine blk_drew ?_ | refine blk_alloc ?_ _)); exact BK133.out) hb)
          have n1_ := Aside0.mk (blk_below (g := gb134) (o := .cells #[.int .i64 a1_0, .int .i64 a1_1, .int .i64 a1_2, .slice A1_3 l1_3.length c1_3, .slice (some ad137) l1_4.length c1_4] 25 (0, 0)) (by (with_reducible repeat (first | refine blk_drewN ?_ _ | refine blk_drew ?_ | refine blk_alloc ?_ _)); exact BK134.out) hb)
          have n2_ := Aside0.mk (below_step (by repeat (first | (with_reducible first | exact HB.out | apply below_alloc | apply pw_below_drewN | apply below_drew1 | refine below_set ?_ GE133.out | refine below_set ?_ GE134.out) | exact HB.out)) hb)
          clear BK133
          clear BK134
          clear HB
          have BK133 := n0_
          have BK134 := n1_
          have HB := n2_
          clear n0_ n1_ n2_
          (try clear hb)
          (try clear hb2)
          (try clear hk)
          (try clear hi)
          refine hK.out _ _ ⟨(blk_cell BK133.out 0).trans rfl, (blk_cell BK133.out 1).trans rfl, (blk_cell BK133.out 2).trans rfl, (blk_cell BK133.out 3).trans rfl, (blk_cell BK133.out 4).trans rfl, (blk_cell BK134.out 0).trans rfl, (blk_cell BK134.out 1).trans rfl, (blk_cell BK134.out 2).trans rfl, (blk_cell BK134.out 3).trans rfl, (blk_cell BK134.out 4).trans rfl, ((HB.out.cell (World.block_lt_of_cell? w _ hw136_0)).trans hw136_0), ((HB.out.cell (World.block_lt_of_cell? w _ hw136_1)).trans hw136_1), ((HB.out.cell (World.block_lt_of_cell? w _ hw136_2)).trans hw136_2), ((HB.out.cell (World.block_lt_of_cell? w _ hw136_3)).trans hw136_3), ((HB.out.cell (World.block_lt_of_cell? w _ hw136_4)).trans hw136_4), ((HB.out.cell (World.block_lt_of_cell? w _ hw137_0)).trans hw137_0), ((HB.out.cell (World.block_lt_of_cell? w _ hw137_1)).trans hw137_1), ((HB.out.cell (World.block_lt_of_cell? w _ hw137_2)).trans hw137_2), ((HB.out.cell (World.block_lt_of_cell? w _ hw137_3)).trans hw137_3), ((HB.out.cell (World.block_lt_of_cell? w _ hw137_4)).trans hw137_4)⟩ (fun hHeld => ?_)
          clear hK K
          refine norm_ (a' := ?_) ?_ ?_
          rotate_left
          ·show Act.put _ (some 59) _ = _
           simp only [Act.put, List.setIfInBounds_toArray, List.set_cons_zero, List.set_cons_succ, i64_w, i32_w]
           rfl
          refine pure_ (i := 11) (N := some 60) (v := ?_) (a' := ?_) #[true, true, true, true, true, true, true, true, true, true, true, true] rfl rfl (any_of HT_.out (by kernel_rfl)) (fun _ _ _ h => h) (Or.inl ⟨by rfl, ?_⟩) ?_ ?_
          rotate_left
          ·intro w'
           go_simp
           with_reducible rfl
          rotate_left
          ·simp only [Act.put, List.setIfInBounds_toArray, List.set_cons_zero, List.set_cons_succ, i64_w, i32_w]
           rfl
          refine done_ (done_of HT_.out (by kernel_rfl)) ?_
          try go_wp2
          go_roundg k2
          case measure => have := HJ2.out; have := HK2.out; omega
          case rel => exact ⟨(wrap64 (x5_2 + 1)), (by first | rfl | (simp; done) | (simp [*]; done)), H', ⟨by have := HJ2.out; have := HK2.out; omega⟩, ⟨by (with_reducible repeat (first | refine blk_drewN ?_ _ | refine blk_drew ?_ | refine blk_alloc ?_ _)); exact BK133.out⟩, ⟨by (with_reducible repeat (first | refine blk_drewN ?_ _ | refine blk_drew ?_ | refine blk_alloc ?_ _)); exact BK134.out⟩, ⟨by repeat (first | (with_reducible first | exact HB.out | apply below_alloc | apply pw_below_drewN | apply below_drew1 | refine below_set ?_ GE133.out | refine below_set ?_ GE134.out) | exact HB.out)⟩⟩
         ·replace c31 := Bool.eq_false_iff.mpr c31
          subst c31
          have H1 : (some false) = some r := by rw [if_neg (show ¬ (false = true) by decide)] at H; exact H
          clear H
          have H := H1
          clear H1
          obtain rfl := Option.some.inj H
          have hnb36 := NB133_134.out
          have hnc36 := NB134_133.out
          have hcz37_0 : wr.cell? ⟨gb133, 0, none⟩ = some (.int .i64 a0_0) := (blk_cell BK133.out 0).trans rfl
          have hcz37_1 : wr.cell? ⟨gb133, 1, none⟩ = some (.int .i64 a0_1) := (blk_cell BK133.out 1).trans rfl
          have hcz37_2 : wr.cell? ⟨gb133, 2, none⟩ = some (.int .i64 a0_2) := (blk_cell BK133.out 2).trans rfl
          have hcz37_3 : wr.cell? ⟨gb133, 3, none⟩ = some (.slice A0_3 l0_3.length c0_3) := (blk_cell BK133.out 3).trans rfl
          have hcz37_4 : wr.cell? ⟨gb133, 4, none⟩ = some (.slice A0_4 l0_4.length c0_4) := (blk_cell BK133.out 4).trans rfl
          have hfz37_0 := blk_frozen BK133.out 0
          have hfz37_1 := blk_frozen BK133.out 1
          have hfz37_2 := blk_frozen BK133.out 2
          have hfz37_3 := blk_frozen BK133.out 3
          have hfz37_4 := blk_frozen BK133.out 4
          try go_wp2
          have n0_ := Aside0.mk (blk_drew BK133.out)
          have n1_ := Aside0.mk (blk_drew BK134.out)
          have n2_ := Aside0.mk (below_drew1 HB.out)
          clear BK133
          clear BK134
          clear HB
          have BK133 := n0_
          have BK134 := n1_
          have HB := n2_
          clear n0_ n1_ n2_
          have p136 : 0 ≤ (x5_2 : Int) := of_decide_eq_true (by first | (with_reducible assumption) | assumption)
          have q136 : x5_2 < (l0_4.length : Int) := of_decide_eq_true (by first | (with_reducible assumption) | assumption)
          obtain ⟨ad136, A136_3, c136_3, A136_4, c136_4, e136, hx136_0, hx136_1, hx136_2, hx136_3, hx136_4, hl136_3, hi136_3, hl136_4, hi136_4⟩ := at_T25 HR0_4.out x5_2 p136 q136
          have hw136_4 := hx136_4
          have hw136_3 := hx136_3
          have hw136_2 := hx136_2
          have hw136_1 := hx136_1
          have hw136_0 := hx136_0
          cases e136
          replace hx136_0 := (HB.out.cell (World.block_lt_of_cell? w _ hx136_0)).trans hx136_0
          replace hx136_1 := (HB.out.cell (World.block_lt_of_cell? w _ hx136_1)).trans hx136_1
          replace hx136_2 := (HB.out.cell (World.block_lt_of_cell? w _ hx136_2)).trans hx136_2
          replace hx136_3 := (HB.out.cell (World.block_lt_of_cell? w _ hx136_3)).trans hx136_3
          replace hx136_4 := (HB.out.cell (World.block_lt_of_cell? w _ hx136_4)).trans hx136_4
          have HR136_3 := Aside0.mk hi136_3
          have HC136_3 := Aside0.mk hl136_3
          clear hi136_3 hl136_3
          have HR136_4 := Aside0.mk hi136_4
          have HC136_4 := Aside0.mk hl136_4
          clear hi136_4 hl136_4
          replace p136 := eq_true p136
          replace q136 := eq_true q136
          have p137 : 0 ≤ (x5_2 : Int) := of_decide_eq_true (by first | (with_reducible assumption) | assumption)
          have q137 : x5_2 < (l1_4.length : Int) := of_decide_eq_true (by first | (with_reducible assumption) | assumption)
          obtain ⟨ad137, A137_3, c137_3, A137_4, c137_4, e137, hx137_0, hx137_1, hx137_2, hx137_3, hx137_4, hl137_3, hi137_3, hl137_4, hi137_4⟩ := at_T25 HR1_4.out x5_2 p137 q137
          have hw137_4 := hx137_4
          have hw137_3 := hx137_3
          have hw137_2 := hx137_2
          have hw137_1 := hx137_1
          have hw137_0 := hx137_0
          cases e137
          replace hx137_0 := (HB.out.cell (World.block_lt_of_cell? w _ hx137_0)).trans hx137_0
          replace hx137_1 := (HB.out.cell (World.block_lt_of_cell? w _ hx137_1)).trans hx137_1
          replace hx137_2 := (HB.out.cell (World.block_lt_of_cell? w _ hx137_2)).trans hx137_2
          replace hx137_3 := (HB.out.cell (World.block_lt_of_cell? w _ hx137_3)).trans hx137_3
          replace hx137_4 := (HB.out.cell (World.block_lt_of_cell? w _ hx137_4)).trans hx137_4
          have HR137_3 := Aside0.mk hi137_3
          have HC137_3 := Aside0.mk hl137_3
          clear hi137_3 hl137_3
          have HR137_4 := Aside0.mk hi137_4
          have HC137_4 := Aside0.mk hl137_4
          clear hi137_4 hl137_4
          replace p137 := eq_true p137
          replace q137 := eq_true q137
          refine start_ (n := 12) (S := fun w' => w'.cell? ⟨gb133, 0, none⟩ = some (.int .i64 a0_0) ∧ w'.cell? ⟨gb133, 1, none⟩ = some (.int .i64 a0_1) ∧ w'.cell? ⟨gb133, 2, none⟩ = some (.int .i64 a0_2) ∧ w'.cell? ⟨gb133, 3, none⟩ = some (.slice A0_3 l0_3.length c0_3) ∧ w'.cell? ⟨gb133, 4, none⟩ = some (.slice (some ad136) l0_4.length c0_4) ∧ w'.cell? ⟨gb134, 0, none⟩ = some (.int .i64 a1_0) ∧ w'.cell? ⟨gb134, 1, none⟩ = some (.int .i64 a1_1) ∧ w'.cell? ⟨gb134, 2, none⟩ = some (.int .i64 a1_2) ∧ w'.cell? ⟨gb134, 3, none⟩ = some (.slice A1_3 l1_3.length c1_3) ∧ w'.cell? ⟨gb134, 4, none⟩ = some (.slice (some ad137) l1_4.length c1_4) ∧ w'.cell? (ad136.add ((x5_2).toNat * 5)) = some (.int .i64 ((rd_T25 l0_4 x5_2).f0)) ∧ w'.cell? ⟨(ad136.add ((x5_2).toNat * 5)).block, (ad136.add ((x5_2).toNat * 5)).off + 1, none⟩ = some (.int .i64 ((rd_T25 l0_4 x5_2).f1)) ∧ w'.cell? ⟨(ad136.add ((x5_2).toNat * 5)).block, (ad136.add ((x5_2).toNat * 5)).off + 2, none⟩ = some (.int .i64 ((rd_T25 l0_4 x5_2).f2)) ∧ w'.cell? ⟨(ad136.add ((x5_2).toNat * 5)).block, (ad136.add ((x5_2).toNat * 5)).off + 3, none⟩ = some (.slice A136_3 ((rd_T25 l0_4 x5_2).f3).length c136_3) ∧ w'.cell? ⟨(ad136.add ((x5_2).toNat * 5)).block, (ad136.add ((x5_2).toNat * 5)).off + 4, none⟩ = some (.slice A136_4 ((rd_T25 l0_4 x5_2).f4).length c136_4) ∧ w'.cell? (ad137.add ((x5_2).toNat * 5)) = some (.int .i64 ((rd_T25 l1_4 x5_2).f0)) ∧ w'.cell? ⟨(ad137.add ((x5_2).toNat * 5)).block, (ad137.add ((x5_2).toNat * 5)).off + 1, none⟩ = some (.int .i64 ((rd_T25 l1_4 x5_2).f1)) ∧ w'.cell? ⟨(ad137.add ((x5_2).toNat * 5)).block, (ad137.add ((x5_2).toNat * 5)).off + 2, none⟩ = some (.int .i64 ((rd_T25 l1_4 x5_2).f2)) ∧ w'.cell? ⟨(ad137.add ((x5_2).toNat * 5)).block, (ad137.add ((x5_2).toNat * 5)).off + 3, none⟩ = some (.slice A137_3 ((rd_T25 l1_4 x5_2).f3).length c137_3) ∧ w'.cell? ⟨(ad137.add ((x5_2).toNat * 5)).block, (ad137.add ((x5_2).toNat * 5)).off + 4, none⟩ = some (.slice A137_4 ((rd_T25 l1_4 x5_2).f4).length c137_4)) (ds := []) #[false, false, false, false, false, false, false, false, false, false, false, false] (by kernel_rfl) rfl rfl ⟨(blk_cell BK133.out 0).trans rfl, (blk_cell BK133.out 1).trans rfl, (blk_cell BK133.out 2).trans rfl, (blk_cell BK133.out 3).trans rfl, (blk_cell BK133.out 4).trans rfl, (blk_cell BK134.out 0).trans rfl, (blk_cell BK134.out 1).trans rfl, (blk_cell BK134.out 2).trans rfl, (blk_cell BK134.out 3).trans rfl, (blk_cell BK134.out 4).trans rfl, ((HB.out.cell (World.block_lt_of_cell? w _ hw136_0)).trans hw136_0), ((HB.out.cell (World.block_lt_of_cell? w _ hw136_1)).trans hw136_1), ((HB.out.cell (World.block_lt_of_cell? w _ hw136_2)).trans hw136_2), ((HB.out.cell (World.block_lt_of_cell? w _ hw136_3)).trans hw136_3), ((HB.out.cell (World.block_lt_of_cell? w _ hw136_4)).trans hw136_4), ((HB.out.cell (World.block_lt_of_cell? w _ hw137_0)).trans hw137_0), ((HB.out.cell (World.block_lt_of_cell? w _ hw137_1)).trans hw137_1), ((HB.out.cell (World.block_lt_of_cell? w _ hw137_2)).trans hw137_2), ((HB.out.cell (World.block_lt_of_cell? w _ hw137_3)).trans hw137_3), ((HB.out.cell (World.block_lt_of_cell? w _ hw137_4)).trans hw137_4)⟩ (fun hHeld => ?_); refine with_tabW capnpref10_Equal.tab6 capnpref10_Equal.bits6 (fun HT_ HW_ => ?_)
          generalize wr.drew = w38 at BK133 BK134 HB HR136_3 HR136_4 HR137_3 HR137_4 hx136_0 hx136_1 hx136_2 hx136_3 hx136_4 hx137_0 hx137_1 hx137_2 hx137_3 hx137_4 hHeld ⊢
          refine pure_ (i := 0) (N := some 49) (v := ?_) (a' := ?_) #[true, false, false, false, false, false, false, false, false, false, false, false] rfl rfl (any_of HT_.out (by kernel_rfl)) (fun _ _ _ h => h) (Or.inl ⟨by rfl, ?_⟩) ?_ ?_
          rotate_left
          ·intro w'
           go_simp
           with_reducible rfl
          rotate_left
          ·simp only [Act.put, List.setIfInBounds_toArray, List.set_cons_zero, List.set_cons_succ, i64_w, i32_w]
           rfl
          refine pure_ (i := 2) (N := some 51) (v := ?_) (a' := ?_) #[true, false, true, false, false, false, false, false, false, false, false, false] rfl rfl (any_of HT_.out (by kernel_rfl)) (fun _ _ _ h => h) (Or.inl ⟨by rfl, ?_⟩) ?_ ?_
          rotate_left
          ·intro w'
           go_simp
           with_reducible rfl
          rotate_left
          ·simp only [Act.put, List.setIfInBounds_toArray, List.set_cons_zero, List.set_cons_succ, i64_w, i32_w]
           rfl
          refine pure_ (i := 5) (N := some 54) (v := ?_) (a' := ?_) #[true, false, true, false, false, true, false, false, false, false, false, false] rfl rfl (any_of HT_.out (by kernel_rfl)) (fun _ _ _ h => h) (Or.inl ⟨by rfl, ?_⟩) ?_ ?_
          rotate_left
          ·intro w'
           go_simp
           with_reducible rfl
          rotate_left
          ·simp only [Act.put, List.setIfInBounds_toArray, List.set_cons_zero, List.set_cons_succ, i64_w, i32_w]
           rfl
          refine pure_ (i := 7) (N := some 56) (v := ?_) (a' := ?_) #[true, false, true, false, false, true, false, true, false, false, false, false] rfl rfl (any_of HT_.out (by kernel_rfl)) (fun _ _ _ h => h) (Or.inl ⟨by rfl, ?_⟩) ?_ ?_
          rotate_left
          ·intro w'
           go_simp
           with_reducible rfl
          rotate_left
          ·simp only [Act.put, List.setIfInBounds_toArray, List.set_cons_zero, List.set_cons_succ, i64_w, i32_w]
           rfl
          refine take_ (i := 1) (N := some 50) (v := ?_) (a' := ?_) #[true, true, true, false, false, true, false, true, false, false, false, false] rfl rfl (take_ofW HT_.out HW_.out (by kernel_rfl)) (fun _ _ _ h => h) (Or.inl ⟨by rfl, ?_⟩) hHeld ?_ ?_
          rotate_left
          ·rintro w' ⟨s0, s1, s2, s3, s4, s5, s6, s7, s8, s9, s10, s11, s12, s13, s14, s15, s16, s17, s18, s19⟩
           go_simp
           with_reducible rfl
          rotate_left
          ·simp only [Act.put, List.setIfInBounds_toArray, List.set_cons_zero, List.set_cons_succ, i64_w, i32_w]
           rfl
          refine pure_ (i := 3) (N := some 52) (v := ?_) (a' := ?_) #[true, true, true, true, false, true, false, true, false, false, false, false] rfl rfl (any_of HT_.out (by kernel_rfl)) (fun _ _ _ h => h) (Or.inl ⟨by rfl, ?_⟩) ?_ ?_
          rotate_left
          ·intro w'
           go_simp
           with_reducible rfl
          rotate_left
          ·simp only [Act.put, List.setIfInBounds_toArray, List.set_cons_zero, List.set_cons_succ, i64_w, i32_w]
           rfl
          refine take_ (i := 4) (N := some 53) (v := ?_) (a' := ?_) #[true, true, true, true, true, true, false, true, false, false, false, false] rfl rfl (take_ofW HT_.out HW_.out (by kernel_rfl)) (fun _ _ _ h => h) (Or.inl ⟨by rfl, ?_⟩) hHeld ?_ ?_
          rotate_left
          ·rintro w' ⟨s0, s1, s2, s3, s4, s5, s6, s7, s8, s9, s10, s11, s12, s13, s14, s15, s16, s17, s18, s19⟩
           go_simp
           with_reducible rfl
          rotate_left
          ·simp only [Act.put, List.setIfInBounds_toArray, List.set_cons_zero, List.set_cons_succ, i64_w, i32_w]
           rfl
          refine take_ (i := 6) (N := some 55) (v := ?_) (a' := ?_) #[true, true, true, true, true, true, true, true, false, false, false, false] rfl rfl (take_ofW HT_.out HW_.out (by kernel_rfl)) (fun _ _ _ h => h) (Or.inl ⟨by rfl, ?_⟩) hHeld ?_ ?_
          rotate_left
          ·rintro w' ⟨s0, s1, s2, s3, s4, s5, s6, s7, s8, s9, s10, s11, s12, s13, s14, s15, s16, s17, s18, s19⟩
           go_simp
           with_reducible rfl
          rotate_left
          ·simp only [Act.put, List.setIfInBounds_toArray, List.set_cons_zero, List.set_cons_succ, i64_w, i32_w]
           rfl
          refine pure_ (i := 8) (N := some 57) (v := ?_) (a' := ?_) #[true, true, true, true, true, true, true, true, true, false, false, false] rfl rfl (any_of HT_.out (by kernel_rfl)) (fun _ _ _ h => h) (Or.inl ⟨by rfl, ?_⟩) ?_ ?_
          rotate_left
          ·intro w'
           go_simp
           with_reducible rfl
          rotate_left
          ·simp only [Act.put, List.setIfInBounds_toArray, List.set_cons_zero, List.set_cons_succ, i64_w, i32_w]
           rfl
          refine take_ (i := 9) (N := some 58) (v := ?_) (a' := ?_) #[true, true, true, true, true, true, true, true, true, true, false, false] rfl rfl (take_ofW HT_.out HW_.out (by kernel_rfl)) (fun _ _ _ h => h) (Or.inl ⟨by rfl, ?_⟩) hHeld ?_ ?_
          rotate_left
          ·rintro w' ⟨s0, s1, s2, s3, s4, s5, s6, s7, s8, s9, s10, s11, s12, s13, s14, s15, s16, s17, s18, s19⟩
           go_simp
           with_reducible rfl
          rotate_left
          ·simp only [Act.put, List.setIfInBounds_toArray, List.set_cons_zero, List.set_cons_succ, i64_w, i32_w]
           rfl
          refine one_ (i := 10) (N := some 59) #[true, true, true, true, true, true, true, true, true, true, true, false] rfl rfl (one_of HT_.out (by kernel_rfl)) (by decide) (fun K hK => ?_)
          refine goes_ Tryd.func13 (by kernel_rfl) rfl #[.agg #[.int .i64 ((rd_T25 l0_4 x5_2).f0), .int .i64 ((rd_T25 l0_4 x5_2).f1), .int .i64 ((rd_T25 l0_4 x5_2).f2), .slice A136_3 ((rd_T25 l0_4 x5_2).f3).length c136_3, .slice A136_4 ((rd_T25 l0_4 x5_2).f4).length c136_4], .agg #[.int .i64 ((rd_T25 l1_4 x5_2).f0), .int .i64 ((rd_T25 l1_4 x5_2).f1), .int .i64 ((rd_T25 l1_4 x5_2).f2), .slice A137_3 ((rd_T25 l1_4 x5_2).f3).length c137_3, .slice A137_4 ((rd_T25 l1_4 x5_2).f4).length c137_4]] (by rfl) rfl rfl (by (try simp only [List.map_toArray, List.map_cons, List.map_nil]); first | done | rfl | (simp only [List.length_drop, List.length_take]; rfl)) ?_
          with_reducible refine (ih k2 (by have := HJ2.out; have := HK2.out; omega) ((rd_T25 l0_4 x5_2).f0) ((rd_T25 l0_4 x5_2).f1) ((rd_T25 l0_4 x5_2).f2) _ _ ((rd_T25 l0_4 x5_2).f3) _ _ ((rd_T25 l0_4 x5_2).f4) ((rd_T25 l1_4 x5_2).f0) ((rd_T25 l1_4 x5_2).f1) ((rd_T25 l1_4 x5_2).f2) _ _ ((rd_T25 l1_4 x5_2).f3) _ _ ((rd_T25 l1_4 x5_2).f4) false _ ?side1 ?side2 ?side3 ?side4 ?side5 ?side6 ?side7 ?side8 A30.out).mono ?_
          (case side1 => repeat (first | exact (Kd.C_below HR136_3.out HB.out) | (with_reducible refine Kd.C_alloc ?_ _) | (with_reducible refine Kd.C_drewN ?_ _) | (with_reducible refine Kd.C_drew ?_)))
          (case side2 => exact HC136_3.out)
          (case side3 => repeat (first | exact (Kd.C_below HR136_4.out HB.out) | (with_reducible refine Kd.C_alloc ?_ _) | (with_reducible refine Kd.C_drewN ?_ _) | (with_reducible refine Kd.C_drew ?_)))
          (case side4 => exact HC136_4.out)
          (case side5 => repeat (first | exact (Kd.C_below HR137_3.out HB.out) | (with_reducible refine Kd.C_alloc ?_ _) | (with_reducible refine Kd.C_drewN ?_ _) | (with_reducible refine Kd.C_drew ?_)))
          (case side6 => exact HC137_3.out)
          (case side7 => repeat (first | exact (Kd.C_below HR137_4.out HB.out) | (with_reducible refine Kd.C_alloc ?_ _) | (with_reducible refine Kd.C_drewN ?_ _) | (with_reducible refine Kd.C_drew ?_)))
          (case side8 => exact HC137_4.out)
          rintro e w39 ⟨rfl, hb⟩
          refine ⟨_, rfl, ?_⟩
          have n0_ := Aside0.mk (blk_below (g := gb133) (o := .cells #[.int .i64 a0_0, .int .i64 a0_1, .int .i64 a0_2, .slice A0_3 l0_3.length c0_3, .slice (some ad136) l0_4.length c0_4] 25 (0, 0)) (by (with_reducible repeat (first | refine blk_drewN ?_ _ | refine blk_drew ?_ | refine blk_alloc ?_ _)); exact BK133.out) hb)
          have n1_ := Aside0.mk (blk_below (g := gb134) (o := .cells #[.int .i64 a1_0, .int .i64 a1_1, .int .i64 a1_2, .slice A1_3 l1_3.length c1_3, .slice (some ad137) l1_4.length c1_4] 25 (0, 0)) (by (with_reducible repeat (first | refine blk_drewN ?_ _ | refine blk_drew ?_ | refine blk_alloc ?_ _)); exact BK134.out) hb)
          have n2_ := Aside0.mk (below_step (by repeat (first | (with_reducible first | exact HB.out | apply below_alloc | apply pw_below_drewN | apply below_drew1 | refine below_set ?_ GE133.out | refine below_set ?_ GE134.out) | exact HB.out)) hb)
          clear BK133
          clear BK134
          clear HB
          have BK133 := n0_
          have BK134 := n1_
          have HB := n2_
          clear n0_ n1_ n2_
          (try clear hb)
          (try clear hb2)
          (try clear hk)
          (try clear hi)
          refine hK.out _ _ ⟨(blk_cell BK133.out 0).trans rfl, (blk_cell BK133.out 1).trans rfl, (blk_cell BK133.out 2).trans rfl, (blk_cell BK133.out 3).trans rfl, (blk_cell BK133.out 4).trans rfl, (blk_cell BK134.out 0).trans rfl, (blk_cell BK134.out 1).trans rfl, (blk_cell BK134.out 2).trans rfl, (blk_cell BK134.out 3).trans rfl, (blk_cell BK134.out 4).trans rfl, ((HB.out.cell (World.block_lt_of_cell? w _ hw136_0)).trans hw136_0), ((HB.out.cell (World.block_lt_of_cell? w _ hw136_1)).trans hw136_1), ((HB.out.cell (World.block_lt_of_cell? w _ hw136_2)).trans hw136_2), ((HB.out.cell (World.block_lt_of_cell? w _ hw136_3)).trans hw136_3), ((HB.out.cell (World.block_lt_of_cell? w _ hw136_4)).trans hw136_4), ((HB.out.cell (World.block_lt_of_cell? w _ hw137_0)).trans hw137_0), ((HB.out.cell (World.block_lt_of_cell? w _ hw137_1)).trans hw137_1), ((HB.out.cell (World.block_lt_of_cell? w _ hw137_2)).trans hw137_2), ((HB.out.cell (World.block_lt_of_cell? w _ hw137_3)).trans hw137_3), ((HB.out.cell (World.block_lt_of_cell? w _ hw137_4)).trans hw137_4)⟩ (fun hHeld => ?_)
          clear hK K
          refine norm_ (a' := ?_) ?_ ?_
          rotate_left
          ·show Act.put _ (some 59) _ = _
           simp only [Act.put, List.setIfInBounds_toArray, List.set_cons_zero, List.set_cons_succ, i64_w, i32_w]
           rfl
          refine pure_ (i := 11) (N := some 60) (v := ?_) (a' := ?_) #[true, true, true, true, true, true, true, true, true, true, true, true] rfl rfl (any_of HT_.out (by kernel_rfl)) (fun _ _ _ h => h) (Or.inl ⟨by rfl, ?_⟩) ?_ ?_
          rotate_left
          ·intro w'
           go_simp
           with_reducible rfl
          rotate_left
          ·simp only [Act.put, List.setIfInBounds_toArray, List.set_cons_zero, List.set_cons_succ, i64_w, i32_w]
           rfl
          refine done_ (done_of HT_.out (by kernel_rfl)) ?_
          try go_wp2
          go_ret
          exact ⟨by first | rfl | (simp [errW_none, errW_some] <;> rfl) | (simp [*, errW_none, errW_some] <;> rfl), by repeat (first | (with_reducible first | exact HB.out | apply below_alloc | apply pw_below_drewN | apply below_drew1 | refine below_set ?_ GE133.out | refine below_set ?_ GE134.out) | exact HB.out)⟩
        ·rw [if_neg c29] at H
         exact absurd H (by simp)
       ·rw [if_neg c28] at H
        exact absurd H (by simp)
      ·rw [if_neg c27] at H
       have c27b0 : decide (x5_2 < (l0_4.length : Int)) = false := decide_eq_false c27
       clear c27
       obtain rfl := Option.some.inj H
       have hnb40 := NB133_134.out
       have hnc40 := NB134_133.out
       have hcz41_0 : wr.cell? ⟨gb133, 0, none⟩ = some (.int .i64 a0_0) := (blk_cell BK133.out 0).trans rfl
       have hcz41_1 : wr.cell? ⟨gb133, 1, none⟩ = some (.int .i64 a0_1) := (blk_cell BK133.out 1).trans rfl
       have hcz41_2 : wr.cell? ⟨gb133, 2, none⟩ = some (.int .i64 a0_2) := (blk_cell BK133.out 2).trans rfl
       have hcz41_3 : wr.cell? ⟨gb133, 3, none⟩ = some (.slice A0_3 l0_3.length c0_3) := (blk_cell BK133.out 3).trans rfl
       have hcz41_4 : wr.cell? ⟨gb133, 4, none⟩ = some (.slice A0_4 l0_4.length c0_4) := (blk_cell BK133.out 4).trans rfl
       have hfz41_0 := blk_frozen BK133.out 0
       have hfz41_1 := blk_frozen BK133.out 1
       have hfz41_2 := blk_frozen BK133.out 2
       have hfz41_3 := blk_frozen BK133.out 3
       have hfz41_4 := blk_frozen BK133.out 4
       go_wp2
       go_ret
       exact ⟨by first | rfl | (simp [errW_none, errW_some] <;> rfl) | (simp [*, errW_none, errW_some] <;> rfl), by repeat (first | (with_reducible first | exact HB.out | apply below_alloc | apply pw_below_drewN | apply below_drew1 | refine below_set ?_ GE133.out | refine below_set ?_ GE134.out) | exact HB.out)⟩
end Go.Proofs.YtmbockhcmhghlaaDoor.Pr
end
section
namespace Go.Proofs.YtmbockhcmhghlaaDoor.Pr
open Go.RowKit Go.Proofs.YtmbockhcmhghlaaDoorW.PrintWords Go.Proofs.YtmbockhcmhghlaaDoorW.PrintLast Go.Proofs.YtmbockhcmhghlaaDoorW.PrintMore
set_option linter.unusedVariables false
set_option linter.unusedSimpArgs false
theorem w64 {x : Int} (h0 : -9223372036854775808 ≤ x) (h1 : x ≤ 9223372036854775807) : wrap64 x = x := IntWalk.wrap64_in _ ⟨h0, h1⟩
theorem rd_at (l : List Int) (j : Nat) (h : j < l.length) : rd l (j : Int) = l[j] := by
  unfold rd; simp [List.getD_eq_getElem?_getD, List.getElem?_eq_getElem h]
theorem rdT_at (l : List S25) (j : Nat) (h : j < l.length) : rd_T25 l (j : Int) = l[j] := by
  unfold rd_T25; simp [List.getD_eq_getElem?_getD, List.getElem?_eq_getElem h]
theorem S25.ind {P : S25 → Prop} (h : ∀ a : S25, (∀ x ∈ a.f4, P x) → P a) (a : S25) : P a :=
  S25.rec (motive_1 := P) (motive_2 := fun l => ∀ x ∈ l, P x) (fun k e n d l ih => h ⟨k, e, n, d, l⟩ ih) (fun _ hx => by cases hx) (fun y l hy hl x hx => by
    rcases List.mem_cons.1 hx with rfl | hx
    · exact hy
    · exact hl x hx) a
theorem S25.eta (x : S25) : (⟨x.f0, x.f1, x.f2, x.f3, x.f4⟩ : S25) = x := by cases x; rfl
theorem take_one {α : Type} (l : List α) (j : Nat) (h : j < l.length) : l.take (j + 1) = l.take j ++ [l[j]] := List.take_succ_eq_append_getElem h
theorem S25.same {a b : S25} (h0 : a.f0 = b.f0) (h1 : a.f1 = b.f1) (h2 : a.f2 = b.f2) (h3 : a.f3 = b.f3) (h4 : a.f4 = b.f4) : a = b := by
  cases a; cases b; simp at h0 h1 h2 h3 h4; simp [h0, h1, h2, h3, h4]
inductive AllT (p : S25 → Prop) : S25 → Prop
  | mk {a : S25} (h : p a) (hk : ∀ x ∈ a.f4, AllT p x) : AllT p a
theorem AllT.here {p : S25 → Prop} {a : S25} (h : AllT p a) : p a := by cases h; assumption
theorem AllT.kids {p : S25 → Prop} {a : S25} (h : AllT p a) : ∀ x ∈ a.f4, AllT p x := by cases h; assumption
def okT : S25 → Prop := AllT fun a => ∀ x ∈ a.f3, 0 ≤ x ∧ x ≤ 255
mutual
def tsize : S25 → Nat
  | ⟨_, _, _, d, l⟩ => 1 + d.length + tsizes l
def tsizes : List S25 → Nat
  | [] => 0
  | k :: l => tsize k + tsizes l
end
mutual
def tnest : S25 → Nat
  | ⟨_, _, _, _, l⟩ => tnests l + 1
def tnests : List S25 → Nat
  | [] => 0
  | k :: l => max (tnest k) (tnests l)
end
theorem tsize_eq (a : S25) : tsize a = 1 + a.f3.length + tsizes a.f4 := by cases a; rfl
theorem tnest_eq (a : S25) : tnest a = tnests a.f4 + 1 := by cases a; rfl
theorem tsizes_append : ∀ (l m : List S25), tsizes (l ++ m) = tsizes l + tsizes m
  | [], m => by simp [tsizes]
  | k :: l, m => by simp [tsizes, tsizes_append l m]; omega
theorem tnests_append : ∀ (l m : List S25), tnests (l ++ m) = max (tnests l) (tnests m)
  | [], m => by simp [tnests]
  | k :: l, m => by simp [tnests, tnests_append l m, Nat.max_assoc]
theorem tsizes_take (l : List S25) (j : Nat) (h : j < l.length) : tsizes (l.take (j + 1)) = tsizes (l.take j) + tsize l[j] := by
  rw [take_one l j h, tsizes_append]; simp [tsizes]
theorem tnests_take (l : List S25) (j : Nat) (h : j < l.length) : tnests (l.take (j + 1)) = max (tnests (l.take j)) (tnest l[j]) := by
  rw [take_one l j h, tnests_append]; simp [tnests]
theorem tsizes_le (l : List S25) (j : Nat) : tsizes (l.take j) ≤ tsizes l := by
  have := tsizes_append (l.take j) (l.drop j)
  rw [List.take_append_drop] at this
  omega
theorem length_tsizes : ∀ l : List S25, l.length ≤ tsizes l
  | [] => by simp
  | k :: l => by
    have := length_tsizes l
    have := tsize_eq k
    simp [tsizes]; omega
theorem tsize_mem {l : List S25} {x : S25} (h : x ∈ l) : tsize x ≤ tsizes l := by
  induction l with
  | nil => cases h
  | cons k l ih =>
    simp only [tsizes]
    rcases List.mem_cons.1 h with rfl | h
    · omega
    · have := ih h; omega
theorem tsize_kid {a x : S25} (h : x ∈ a.f4) : tsize x < tsize a := by
  have := tsize_mem h
  have := tsize_eq a
  omega
theorem tnests_bound {l : List S25} {B : Nat} (h : ∀ x ∈ l, tnest x ≤ B) : tnests l ≤ B := by
  induction l with
  | nil => simp [tnests]
  | cons k l ih =>
    simp only [tnests]
    have := h k List.mem_cons_self
    have := ih (fun x hx => h x (List.mem_cons_of_mem _ hx))
    omega
theorem tnest_le (a : S25) : tnest a ≤ tsize a := by
  refine S25.ind (P := fun a => tnest a ≤ tsize a) (fun a ih => ?_) a
  have h1 := tnest_eq a
  have h2 := tsize_eq a
  have h3 : tnests a.f4 ≤ tsizes a.f4 := tnests_bound fun x hx => Nat.le_trans (ih x hx) (tsize_mem hx)
  omega
theorem size_ev (a : S25) : tsize a ≤ 4611686018427387904 → Ev (fun k => capnpref10_Size.f k a.f0 a.f1 a.f2 a.f3 a.f4) (tsize a : Int) := by
  refine S25.ind (P := fun a => tsize a ≤ 4611686018427387904 → Ev (fun k => capnpref10_Size.f k a.f0 a.f1 a.f2 a.f3 a.f4) (tsize a : Int)) (fun a ih hs => ?_) a
  have he := tsize_eq a
  have hl := length_tsizes a.f4
  have loop : ∀ d j : Nat, a.f4.length - j = d → j ≤ a.f4.length → Ev (fun k => capnpref10_Size.l0 k ((1 + a.f3.length + tsizes (a.f4.take j) : Nat) : Int) (j : Int) a.f0 a.f1 a.f2 a.f3 a.f4) (tsize a : Int) := by
    intro d
    induction d with
    | zero =>
      intro j hd hj
      refine Ev.step (f := fun _ => some (tsize a : Int)) (fun k => ?_) (Ev.now _)
      simp only [capnpref10_Size.l0]
      rw [if_neg (by omega), List.take_of_length_le (by omega), he]
    | succ d ihd =>
      intro j hd hj
      have hlt : j < a.f4.length := by omega
      have ht := tsizes_take a.f4 j hlt
      have ht2 := tsizes_le a.f4 (j + 1)
      refine Ev.step (f := fun k => (capnpref10_Size.f k a.f4[j].f0 a.f4[j].f1 a.f4[j].f2 a.f4[j].f3 a.f4[j].f4).bind fun t => capnpref10_Size.l0 k (wrap64 (((1 + a.f3.length + tsizes (a.f4.take j) : Nat) : Int) + t)) (wrap64 ((j : Int) + 1)) a.f0 a.f1 a.f2 a.f3 a.f4) (fun k => ?_) ?_
      · simp only [capnpref10_Size.l0]
        rw [if_pos (by omega), if_pos (by omega), rdT_at _ _ hlt]
      · have hk := tsize_kid (List.getElem_mem hlt : a.f4[j] ∈ a.f4)
        refine Ev.bind (ih _ (List.getElem_mem hlt) (by omega)) ?_
        rw [w64 (by omega) (by omega), w64 (by omega) (by omega)]
        have := ihd (j + 1) (by omega) (by omega)
        rw [ht] at this
        have e1 : ((1 + a.f3.length + (tsizes (a.f4.take j) + tsize a.f4[j]) : Nat) : Int) = ((1 + a.f3.length + tsizes (a.f4.take j) : Nat) : Int) + (tsize a.f4[j] : Int) := by omega
        have e2 : ((j + 1 : Nat) : Int) = (j : Int) + 1 := by omega
        rw [e1, e2] at this
        exact this
  refine Ev.step (f := fun k => capnpref10_Size.l0 k (wrap64 (1 + (a.f3.length : Int))) 0 a.f0 a.f1 a.f2 a.f3 a.f4) (fun k => by simp only [capnpref10_Size.f]) ?_
  rw [w64 (by omega) (by omega)]
  have := loop a.f4.length 0 (by omega) (by omega)
  have e1 : ((1 + a.f3.length + tsizes (a.f4.take 0) : Nat) : Int) = 1 + (a.f3.length : Int) := by simp [tsizes]
  rw [e1] at this
  exact this
theorem mx_max (a b : Int) : mx a b = max a b := by unfold mx; omega
theorem nest_ev (a : S25) : tsize a ≤ 4611686018427387904 → Ev (fun k => capnpref10_Nesting.f k a.f0 a.f1 a.f2 a.f3 a.f4) (tnest a : Int) := by
  refine S25.ind (P := fun a => tsize a ≤ 4611686018427387904 → Ev (fun k => capnpref10_Nesting.f k a.f0 a.f1 a.f2 a.f3 a.f4) (tnest a : Int)) (fun a ih hs => ?_) a
  have he := tsize_eq a
  have hn := tnest_eq a
  have hnl := tnest_le a
  have hl := length_tsizes a.f4
  have loop : ∀ d j : Nat, a.f4.length - j = d → j ≤ a.f4.length → Ev (fun k => capnpref10_Nesting.l0 k (tnests (a.f4.take j) : Int) (j : Int) a.f0 a.f1 a.f2 a.f3 a.f4) (tnest a : Int) := by
    intro d
    induction d with
    | zero =>
      intro j hd hj
      refine Ev.step (f := fun _ => some (tnest a : Int)) (fun k => ?_) (Ev.now _)
      simp only [capnpref10_Nesting.l0]
      rw [if_neg (by omega), List.take_of_length_le (by omega), w64 (by omega) (by omega), hn]
      congr 1
    | succ d ihd =>
      intro j hd hj
      have hlt : j < a.f4.length := by omega
      have ht := tnests_take a.f4 j hlt
      refine Ev.step (f := fun k => (capnpref10_Nesting.f k a.f4[j].f0 a.f4[j].f1 a.f4[j].f2 a.f4[j].f3 a.f4[j].f4).bind fun t => capnpref10_Nesting.l0 k (mx (tnests (a.f4.take j) : Int) t) (wrap64 ((j : Int) + 1)) a.f0 a.f1 a.f2 a.f3 a.f4) (fun k => ?_) ?_
      · simp only [capnpref10_Nesting.l0]
        rw [if_pos (by omega), if_pos (by omega), rdT_at _ _ hlt]
      · have hk := tsize_kid (List.getElem_mem hlt : a.f4[j] ∈ a.f4)
        refine Ev.bind (ih _ (List.getElem_mem hlt) (by omega)) ?_
        rw [mx_max, w64 (by omega) (by omega)]
        have := ihd (j + 1) (by omega) (by omega)
        rw [ht] at this
        have e1 : ((max (tnests (a.f4.take j)) (tnest a.f4[j]) : Nat) : Int) = max (tnests (a.f4.take j) : Int) (tnest a.f4[j] : Int) := by omega
        have e2 : ((j + 1 : Nat) : Int) = (j : Int) + 1 := by omega
        rw [e1, e2] at this
        exact this
  refine Ev.step (f := fun k => capnpref10_Nesting.l0 k 0 0 a.f0 a.f1 a.f2 a.f3 a.f4) (fun k => by simp only [capnpref10_Nesting.f]) ?_
  have := loop a.f4.length 0 (by omega) (by omega)
  have e1 : ((tnests (a.f4.take 0) : Nat) : Int) = 0 := by simp [tnests]
  rw [e1] at this
  exact this
def tfew (a : S25) : Bool := decide (tsize a ≤ 3000) && decide (tnest a ≤ 40)
theorem few_ev (a : S25) (h : tsize a ≤ 4611686018427387904) : Ev (fun k => capnpref10_Few.f k a.f0 a.f1 a.f2 a.f3 a.f4) (tfew a) := by
  unfold capnpref10_Few.f
  refine Ev.bind (size_ev a h) ?_
  unfold tfew
  by_cases h1 : tsize a ≤ 3000
  · refine Ev.congr (f := fun k => (capnpref10_Nesting.f k a.f0 a.f1 a.f2 a.f3 a.f4).bind fun t => some (decide (t ≤ 40))) (fun k => by rw [if_pos (by omega)]) ?_
    refine Ev.bind (nest_ev a h) ?_
    have e : (decide (tsize a ≤ 3000) && decide (tnest a ≤ 40)) = decide ((tnest a : Int) ≤ 40) := by
      rw [decide_eq_true h1, Bool.true_and]; exact decide_eq_decide.2 (by omega)
    rw [e]
    exact Ev.now _
  · refine Ev.congr (f := fun k => some false) (fun k => by rw [if_neg (by omega)]) ?_
    rw [decide_eq_false h1, Bool.false_and]
    exact Ev.now _
theorem take_next {α : Type} {l m : List α} {j : Nat} (hl : j < l.length) (hm : j < m.length) (h : l.take j = m.take j) (e : l[j] = m[j]) : l.take (j + 1) = m.take (j + 1) := by
  rw [take_one l j hl, take_one m j hm, h, e]
theorem same_ev (xs ys : List Int) (h : xs.length ≤ 4611686018427387904) : Ev (fun k => capnpref01_Same.f k xs ys) (decide (xs = ys)) := by
  unfold capnpref01_Same.f
  by_cases hl : xs.length = ys.length
  · refine Ev.congr (f := fun k => capnpref01_Same.l0 k xs ys 0) (fun k => by rw [if_pos (by omega)]) ?_
    have loop : ∀ d j : Nat, xs.length - j = d → j ≤ xs.length → xs.take j = ys.take j → Ev (fun k => capnpref01_Same.l0 k xs ys (j : Int)) (decide (xs = ys)) := by
      intro d
      induction d with
      | zero =>
        intro j hd hj ht
        refine Ev.step (f := fun _ => some (decide (xs = ys))) (fun k => ?_) (Ev.now _)
        simp only [capnpref01_Same.l0]
        rw [if_neg (by omega)]
        rw [List.take_of_length_le (by omega), List.take_of_length_le (by omega)] at ht
        simp [ht]
      | succ d ihd =>
        intro j hd hj ht
        have hlt : j < xs.length := by omega
        by_cases e : xs[j] = ys[j]'(by omega)
        · refine Ev.step (f := fun k => capnpref01_Same.l0 k xs ys (wrap64 ((j : Int) + 1))) (fun k => ?_) ?_
          · simp only [capnpref01_Same.l0]
            rw [if_pos (by omega), if_pos (by omega), if_pos (by omega), rd_at _ _ hlt, rd_at _ _ (by omega), if_pos e]
          · rw [w64 (by omega) (by omega)]
            exact ihd (j + 1) (by omega) (by omega) (take_next hlt (by omega) ht e)
        · have hne : ¬ xs = ys := fun h => e (by subst h; rfl)
          refine Ev.step (f := fun _ => some (decide (xs = ys))) (fun k => ?_) (Ev.now _)
          simp only [capnpref01_Same.l0]
          rw [if_pos (by omega), if_pos (by omega), if_pos (by omega), rd_at _ _ hlt, rd_at _ _ (by omega), if_neg e, decide_eq_false hne]
    exact loop xs.length 0 (by omega) (by omega) rfl
  · have hne : ¬ xs = ys := fun h => hl (by rw [h])
    refine Ev.congr (f := fun _ => some false) (fun k => by rw [if_neg (by omega)]) ?_
    rw [decide_eq_false hne]
    exact Ev.now _
noncomputable def eqT (a b : S25) : Bool := @decide (a = b) (Classical.propDecidable _)
theorem eqT_true {a b : S25} (h : a = b) : eqT a b = true := by unfold eqT; simp [h]
theorem eqT_false {a b : S25} (h : ¬ a = b) : eqT a b = false := by unfold eqT; simp [h]
theorem eqT_iff {a b : S25} : eqT a b = true ↔ a = b := by unfold eqT; simp
theorem equal_ev (a : S25) : ∀ b : S25, tsize a ≤ 4611686018427387904 → Ev (fun k => capnpref10_Equal.f k a.f0 a.f1 a.f2 a.f3 a.f4 b.f0 b.f1 b.f2 b.f3 b.f4) (eqT a b) := by
  refine S25.ind (P := fun a => ∀ b : S25, tsize a ≤ 4611686018427387904 → Ev (fun k => capnpref10_Equal.f k a.f0 a.f1 a.f2 a.f3 a.f4 b.f0 b.f1 b.f2 b.f3 b.f4) (eqT a b)) (fun a ih b hs => ?_) a
  have he := tsize_eq a
  have hl := length_tsizes a.f4
  have bad : (¬ a = b) → Ev (fun k => capnpref10_Equal.j0 k true a.f0 a.f1 a.f2 a.f3 a.f4 b.f0 b.f1 b.f2 b.f3 b.f4) (eqT a b) := fun hne => by
    rw [eqT_false hne]
    refine Ev.step (f := fun _ => some false) (fun k => ?_) (Ev.now _)
    simp only [capnpref10_Equal.j0]
    rw [if_pos trivial]
  by_cases h0 : a.f0 = b.f0
  · by_cases h1 : a.f1 = b.f1
    · by_cases h2 : a.f2 = b.f2
      · refine Ev.step (f := fun k => (capnpref01_Same.f k a.f3 b.f3).bind fun t => if t = true then capnpref10_Equal.j0 k ((a.f4.length : Int) != (b.f4.length : Int)) a.f0 a.f1 a.f2 a.f3 a.f4 b.f0 b.f1 b.f2 b.f3 b.f4 else capnpref10_Equal.j0 k true a.f0 a.f1 a.f2 a.f3 a.f4 b.f0 b.f1 b.f2 b.f3 b.f4) (fun k => by simp only [capnpref10_Equal.f]; rw [if_pos h0, if_pos h1, if_pos h2]) ?_
        refine Ev.bind (same_ev a.f3 b.f3 (by omega)) ?_
        by_cases h3 : a.f3 = b.f3
        · refine Ev.congr (f := fun k => capnpref10_Equal.j0 k ((a.f4.length : Int) != (b.f4.length : Int)) a.f0 a.f1 a.f2 a.f3 a.f4 b.f0 b.f1 b.f2 b.f3 b.f4) (fun k => by rw [if_pos (by simp [h3])]) ?_
          by_cases h4 : a.f4.length = b.f4.length
          · have e4 : ((a.f4.length : Int) != (b.f4.length : Int)) = false := by simp [h4]
            rw [e4]
            refine Ev.step (f := fun k => capnpref10_Equal.l0 k 0 a.f0 a.f1 a.f2 a.f3 a.f4 b.f0 b.f1 b.f2 b.f3 b.f4) (fun k => by simp only [capnpref10_Equal.j0]; rw [if_neg (by simp)]) ?_
            have loop : ∀ d j : Nat, a.f4.length - j = d → j ≤ a.f4.length → a.f4.take j = b.f4.take j → Ev (fun k => capnpref10_Equal.l0 k (j : Int) a.f0 a.f1 a.f2 a.f3 a.f4 b.f0 b.f1 b.f2 b.f3 b.f4) (eqT a b) := by
              intro d
              induction d with
              | zero =>
                intro j hd hj ht
                rw [List.take_of_length_le (by omega), List.take_of_length_le (by omega)] at ht
                rw [eqT_true (S25.same h0 h1 h2 h3 ht)]
                refine Ev.step (f := fun _ => some true) (fun k => ?_) (Ev.now _)
                simp only [capnpref10_Equal.l0]
                rw [if_neg (by omega)]
              | succ d ihd =>
                intro j hd hj ht
                have hlt : j < a.f4.length := by omega
                have hlt2 : j < b.f4.length := by omega
                refine Ev.step (f := fun k => (capnpref10_Equal.f k a.f4[j].f0 a.f4[j].f1 a.f4[j].f2 a.f4[j].f3 a.f4[j].f4 b.f4[j].f0 b.f4[j].f1 b.f4[j].f2 b.f4[j].f3 b.f4[j].f4).bind fun t => if t = true then capnpref10_Equal.l0 k (wrap64 ((j : Int) + 1)) a.f0 a.f1 a.f2 a.f3 a.f4 b.f0 b.f1 b.f2 b.f3 b.f4 else some false) (fun k => ?_) ?_
                · simp only [capnpref10_Equal.l0]
                  rw [if_pos (by omega), if_pos (by omega), if_pos (by omega), rdT_at _ _ hlt, rdT_at _ _ hlt2]
                · have hk := tsize_kid (List.getElem_mem hlt : a.f4[j] ∈ a.f4)
                  refine Ev.bind (ih _ (List.getElem_mem hlt) b.f4[j] (by omega)) ?_
                  by_cases e : a.f4[j] = b.f4[j]
                  · rw [w64 (by omega) (by omega)]
                    refine Ev.congr (f := fun k => capnpref10_Equal.l0 k ((j + 1 : Nat) : Int) a.f0 a.f1 a.f2 a.f3 a.f4 b.f0 b.f1 b.f2 b.f3 b.f4) (fun k => by rw [if_pos (eqT_true e)]; rfl) ?_
                    exact ihd (j + 1) (by omega) (by omega) (take_next hlt hlt2 ht e)
                  · have hne : ¬ a = b := fun h => e (by subst h; rfl)
                    rw [eqT_false hne]
                    refine Ev.congr (f := fun k => some false) (fun k => by rw [if_neg (by rw [eqT_false e]; simp)]) (Ev.now _)
            exact loop a.f4.length 0 (by omega) (by omega) rfl
          · have e4 : ((a.f4.length : Int) != (b.f4.length : Int)) = true := by simp; omega
            rw [e4]
            exact bad fun h => h4 (by rw [h])
        · exact Ev.congr (fun k => by rw [if_neg (by simp [h3])]) (bad fun h => h3 (by rw [h]))
      · exact Ev.step (fun k => by simp only [capnpref10_Equal.f]; rw [if_pos h0, if_pos h1, if_neg h2]) (bad fun h => h2 (by rw [h]))
    · exact Ev.step (fun k => by simp only [capnpref10_Equal.f]; rw [if_pos h0, if_neg h1]) (bad fun h => h1 (by rw [h]))
  · exact Ev.step (fun k => by simp only [capnpref10_Equal.f]; rw [if_neg h0]) (bad fun h => h0 (by rw [h]))
end Go.Proofs.YtmbockhcmhghlaaDoor.Pr
end
section
namespace Go.Proofs.YtmbockhcmhghlaaDoor.Pr
open Go.RowKit Go.Proofs.YtmbockhcmhghlaaDoorW.PrintWords Go.Proofs.YtmbockhcmhghlaaDoorW.PrintLast Go.Proofs.YtmbockhcmhghlaaDoorW.PrintMore
set_option linter.unusedVariables false
set_option linter.unusedSimpArgs false
def bitsOf (e : Int) : Int := if e = 1 then 1 else if e = 2 then 8 else if e = 3 then 16 else if e = 4 then 32 else if e = 5 then 64 else if e = 6 then 64 else 0
theorem bitsOf_range (e : Int) : 0 ≤ bitsOf e ∧ bitsOf e ≤ 64 := by unfold bitsOf; repeat' split <;> omega
theorem bits_f (e : Int) : capnpref06_Bits.f e = some (bitsOf e) := by
  unfold capnpref06_Bits.f bitsOf
  repeat' split
  all_goals rfl
def bytesOf (e c : Int) : Int := (bitsOf e * c + 7) / 8
theorem bitsOf_mul (e c : Int) (h0 : 0 ≤ c) (h1 : c ≤ 4294967296) : 0 ≤ bitsOf e * c ∧ bitsOf e * c ≤ 274877906944 := by
  obtain ⟨a, b⟩ := bitsOf_range e
  refine ⟨Int.mul_nonneg a h0, ?_⟩
  have := Int.mul_le_mul b h1 h0 (by omega : (0:Int) ≤ 64)
  omega
theorem bytes_f (e c : Int) (h0 : 0 ≤ c) (h1 : c ≤ 4294967296) : capnpref06_Bytes.f e c = some (bytesOf e c) := by
  obtain ⟨a, b⟩ := bitsOf_mul e c h0 h1
  unfold capnpref06_Bytes.f
  rw [bits_f]
  simp only [Option.bind_some]
  unfold bytesOf
  generalize bitsOf e * c = x at *
  rw [w64 (x := x) (by omega) (by omega), Int.tdiv_eq_ediv_of_nonneg a, w64 (x := x / 8) (by omega) (by omega), w64 (x := x / 8 * 8) (by omega) (by omega), w64 (x := x / 8 + 1) (by omega) (by omega)]
  split
  · congr 1; omega
  · congr 1; omega
theorem bytesOf_nonneg (e c : Int) (h0 : 0 ≤ c) : 0 ≤ bytesOf e c := by
  have := bitsOf_range e
  have := Int.mul_nonneg this.1 h0
  unfold bytesOf; omega
theorem bytesOf_le (e c : Int) (h0 : 0 ≤ c) (h1 : c ≤ 4294967296) : bytesOf e c ≤ 34359738368 := by
  have := bitsOf_mul e c h0 h1
  unfold bytesOf; omega
def rT (e c : Int) (xs : List Int) (j : Nat) : Int := if e = 1 ∧ c < 8 * j + 8 then xs.getD j 0 % 2 ^ (c - 8 * j).toNat else xs.getD j 0
def rL (e c : Int) (xs : List Int) (k : Nat) : List Int := (List.range k).map (rT e c xs)
theorem rL_succ (e c : Int) (xs : List Int) (k : Nat) : rL e c xs (k + 1) = rL e c xs k ++ [rT e c xs k] := by simp [rL, List.range_succ]
theorem rL_length (e c : Int) (xs : List Int) (k : Nat) : (rL e c xs k).length = k := by simp [rL]
theorem getD_at (xs : List Int) (j : Nat) (h : j < xs.length) : xs.getD j 0 = xs[j] := by simp [List.getD_eq_getElem?_getD, List.getElem?_eq_getElem h]
theorem trim_ev (e c : Int) (h0 : 0 ≤ c) (h1 : c ≤ 4294967296) (xs : List Int) (hx : ∀ x ∈ xs, 0 ≤ x ∧ x ≤ 255) (m : Nat) (hm : (m : Int) = bytesOf e c) (hmx : m ≤ xs.length) :
    Ev (fun k => capnpref06_Trim.f k e c xs) (rL e c xs m) := by
  unfold capnpref06_Trim.f
  have hb := bytesOf_le e c h0 h1
  have hbits := bitsOf_mul e c h0 h1
  have loop : ∀ d j : Nat, m - j = d → j ≤ m → Ev (fun k => capnpref06_Trim.l0 k e c xs (rL e c xs j) (j : Int)) (rL e c xs m) := by
    intro d
    induction d with
    | zero =>
      intro j hd hj
      obtain rfl : j = m := by omega
      refine Ev.step (f := fun _ => some (rL e c xs j)) (fun k => ?_) (Ev.now _)
      simp only [capnpref06_Trim.l0]
      rw [bytes_f e c h0 h1, Option.bind_some, if_neg (by omega)]
    | succ d ihd =>
      intro j hd hj
      have hlt : j < xs.length := by omega
      have hnext := ihd (j + 1) (by omega) (by omega)
      have e2 : ((j + 1 : Nat) : Int) = (j : Int) + 1 := by omega
      rw [rL_succ, e2] at hnext
      have hxr := hx _ (List.getElem_mem hlt)
      have plain : rT e c xs j = xs[j] → Ev (fun k => capnpref06_Trim.j1 k e c xs (rL e c xs j) (j : Int) (xs[j]) false) (rL e c xs m) := fun hp => by
        refine Ev.step (f := fun k => capnpref06_Trim.l0 k e c xs (rL e c xs j ++ [xs[j]]) (wrap64 ((j : Int) + 1))) (fun k => ?_) ?_
        · simp only [capnpref06_Trim.j1]
          rw [if_neg (by simp), if_pos (by rw [rL_length]; omega)]
        · rw [w64 (by omega) (by omega), ← hp]
          exact hnext
      by_cases he : e = 1
      · subst he
        refine Ev.step (f := fun k => capnpref06_Trim.j1 k 1 c xs (rL 1 c xs j) (j : Int) xs[j] (decide (wrap64 (wrap64 (8 * (j : Int)) + 8) > c))) (fun k => ?_) ?_
        · simp only [capnpref06_Trim.l0]
          rw [bytes_f 1 c h0 h1, Option.bind_some, if_pos (by omega), if_pos (by omega), if_pos (by omega), if_pos trivial, rd_at _ _ hlt]
        · rw [w64 (x := 8 * (j : Int)) (by omega) (by omega), w64 (by omega) (by omega)]
          have hcm : 8 * (j : Int) < c := by
            have : bytesOf 1 c = (c + 7) / 8 := by unfold bytesOf; rw [show bitsOf 1 = 1 from rfl, Int.one_mul]
            omega
          by_cases hc : c < 8 * (j : Int) + 8
          · rw [decide_eq_true hc]
            obtain ⟨q, hq⟩ : ∃ q : Nat, c - 8 * (j : Int) = q := ⟨(c - 8 * (j : Int)).toNat, by omega⟩
            have hp : rT 1 c xs j = xs[j] % 2 ^ q := by
              unfold rT
              rw [if_pos ⟨rfl, hc⟩, getD_at _ _ hlt, hq]
              rfl
            rw [hp] at hnext
            refine Ev.step (f := fun k => capnpref06_Trim.l1 k 1 c xs (rL 1 c xs j) (j : Int) xs[j] (wrap64 (c - wrap64 (8 * (j : Int)))) 1 0) (fun k => ?_) ?_
            · simp only [capnpref06_Trim.j1]
              rw [if_pos trivial]
            · rw [w64 (x := 8 * (j : Int)) (by omega) (by omega), w64 (by omega) (by omega), hq]
              have hq7 : q ≤ 7 := by omega
              have pow7 : ∀ i : Nat, i ≤ 7 → (1 : Int) ≤ 2 ^ i ∧ (2 : Int) ^ i ≤ 128 := fun i hi => by
                rcases (by omega : i = 0 ∨ i = 1 ∨ i = 2 ∨ i = 3 ∨ i = 4 ∨ i = 5 ∨ i = 6 ∨ i = 7) with rfl | rfl | rfl | rfl | rfl | rfl | rfl | rfl <;> decide
              have pows : ∀ d i : Nat, q - i = d → i ≤ q → Ev (fun k => capnpref06_Trim.l1 k 1 c xs (rL 1 c xs j) (j : Int) xs[j] (q : Int) (2 ^ i) (i : Int)) (rL 1 c xs m) := by
                intro d
                induction d with
                | zero =>
                  intro i hd hi
                  obtain rfl : i = q := by omega
                  have hp2 := pow7 i hq7
                  refine Ev.step (f := fun k => capnpref06_Trim.l0 k 1 c xs (rL 1 c xs j ++ [Int.tmod (wrap64 xs[j]) (2 ^ i) % 256]) (wrap64 ((j : Int) + 1))) (fun k => ?_) ?_
                  · simp only [capnpref06_Trim.l1]
                    rw [if_neg (by omega), if_neg (by omega), if_pos (by rw [rL_length]; omega)]
                  · rw [w64 (x := xs[j]) (by omega) (by omega), w64 (by omega) (by omega), Int.tmod_eq_emod_of_nonneg hxr.1]
                    have r1 : 0 ≤ xs[j] % 2 ^ i := Int.emod_nonneg _ (by omega)
                    have r2 : xs[j] % 2 ^ i < 2 ^ i := Int.emod_lt_of_pos _ (by omega)
                    rw [Int.emod_eq_of_lt (a := xs[j] % 2 ^ i) (b := 256) r1 (by omega)]
                    exact hnext
                | succ d ihp =>
                  intro i hd hi
                  have hp2 := pow7 i (by omega)
                  refine Ev.step (f := fun k => capnpref06_Trim.l1 k 1 c xs (rL 1 c xs j) (j : Int) xs[j] (q : Int) (wrap64 (2 ^ i * 2)) (wrap64 ((i : Int) + 1))) (fun k => ?_) ?_
                  · simp only [capnpref06_Trim.l1]
                    rw [if_pos (by omega)]
                  · rw [w64 (x := 2 ^ i * 2) (by omega) (by omega), w64 (by omega) (by omega)]
                    have := ihp (i + 1) (by omega) (by omega)
                    rw [Int.pow_succ] at this
                    exact this
              exact pows q 0 (by omega) (by omega)
          · rw [decide_eq_false (by omega)]
            refine plain ?_
            unfold rT
            rw [if_neg (by rintro ⟨_, h⟩; omega), getD_at _ _ hlt]
      · refine Ev.step (f := fun k => capnpref06_Trim.j1 k e c xs (rL e c xs j) (j : Int) xs[j] false) (fun k => ?_) (plain ?_)
        · simp only [capnpref06_Trim.l0]
          rw [bytes_f e c h0 h1, Option.bind_some, if_pos (by omega), if_pos (by omega), if_pos (by omega), if_neg he, rd_at _ _ hlt]
        · unfold rT
          rw [if_neg (by rintro ⟨h, _⟩; exact he h), getD_at _ _ hlt]
  exact loop m 0 (by omega) (by omega)
def topV (k e n : Int) (d : List Int) (m : Nat) : Bool :=
  if k = 0 then (e == 0) && ((n == 0) && (((d.length : Int) == 0) && ((m : Int) == 0)))
  else if k = 1 then (e == 0) && ((n == 0) && (((d.length : Int) % 8 == 0) && (decide ((d.length : Int) ≤ 524280) && decide ((m : Int) ≤ 65535))))
  else if k = 2 then
    if n < 0 ∨ 536870911 < n ∨ e < 0 ∨ 7 < e then false
    else if 6 ≤ e then ((d.length : Int) == 0) && ((m : Int) == n)
    else if ¬ m = 0 ∨ ¬ (d.length : Int) = bytesOf e n then false else decide (rL e n d d.length = d)
  else false
mutual
def tvalid : S25 → Bool
  | ⟨k, e, n, d, l⟩ => tvalids (k == 2 && e == 7) l && topV k e n d l.length
def tvalids (c : Bool) : List S25 → Bool
  | [] => true
  | x :: l => (tvalid x && !(c && x.f0 != 1)) && tvalids c l
end
theorem tvalid_eq (a : S25) : tvalid a = (tvalids (a.f0 == 2 && a.f1 == 7) a.f4 && topV a.f0 a.f1 a.f2 a.f3 a.f4.length) := by cases a; rfl
theorem tvalids_append (c : Bool) : ∀ (l m : List S25), tvalids c (l ++ m) = (tvalids c l && tvalids c m)
  | [], m => by simp [tvalids]
  | k :: l, m => by simp [tvalids, tvalids_append c l m, Bool.and_assoc]
theorem tvalids_take (c : Bool) (l : List S25) (j : Nat) (h : j < l.length) : tvalids c (l.take (j + 1)) = (tvalids c (l.take j) && (tvalid l[j] && !(c && l[j].f0 != 1))) := by
  rw [take_one l j h, tvalids_append]
  simp [tvalids]
theorem tvalids_bad (c : Bool) (l : List S25) (j : Nat) (h : j < l.length) (hb : (tvalid l[j] && !(c && l[j].f0 != 1)) = false) : tvalids c l = false := by
  have h1 := tvalids_append c (l.take (j + 1)) (l.drop (j + 1))
  rw [List.take_append_drop, tvalids_take c l j h, hb] at h1
  simpa using h1
theorem tvalids_all (c : Bool) (l : List S25) : tvalids c l = true ↔ ∀ x ∈ l, tvalid x = true ∧ (c = true → x.f0 = 1) := by
  induction l with
  | nil => simp [tvalids]
  | cons k l ih =>
    simp only [tvalids, Bool.and_eq_true, ih, List.mem_cons, forall_eq_or_imp]
    constructor
    · rintro ⟨⟨a, b⟩, h⟩
      refine ⟨⟨a, fun hc => ?_⟩, h⟩
      subst hc
      simpa using b
    · rintro ⟨⟨a, b⟩, h⟩
      refine ⟨⟨a, ?_⟩, h⟩
      cases c with
      | false => rfl
      | true => simp [b rfl]
theorem valid_ev (a : S25) : okT a → tsize a ≤ 4611686018427387904 → Ev (fun k => capnpref10_Valid.f k a.f0 a.f1 a.f2 a.f3 a.f4) (tvalid a) := by
  refine S25.ind (P := fun a => okT a → tsize a ≤ 4611686018427387904 → Ev (fun k => capnpref10_Valid.f k a.f0 a.f1 a.f2 a.f3 a.f4) (tvalid a)) (fun a ih hok hs => ?_) a
  have he := tsize_eq a
  have hl := length_tsizes a.f4
  have hx := AllT.here hok
  obtain ⟨C, hC⟩ : ∃ C : Bool, (a.f0 == 2 && a.f1 == 7) = C := ⟨_, rfl⟩
  have HV : tvalid a = (tvalids C a.f4 && topV a.f0 a.f1 a.f2 a.f3 a.f4.length) := by rw [tvalid_eq, hC]
  have yes : ∀ k, capnpref10_Valid.j1 (k + 1) true a.f0 a.f1 a.f2 a.f3 a.f4 = some false := fun k => by
    simp only [capnpref10_Valid.j1]; rw [if_pos trivial]
  have top : Ev (fun k => capnpref10_Valid.l0 k (a.f4.length : Int) a.f0 a.f1 a.f2 a.f3 a.f4) (topV a.f0 a.f1 a.f2 a.f3 a.f4.length) := by
    by_cases k0 : a.f0 = 0
    · refine Ev.step (f := fun _ => some (topV a.f0 a.f1 a.f2 a.f3 a.f4.length)) (fun k => ?_) (Ev.now _)
      simp only [capnpref10_Valid.l0]
      rw [if_neg (by omega), if_pos k0]
      unfold topV
      rw [if_pos k0]
      by_cases a1 : a.f1 = 0
      · by_cases a2 : a.f2 = 0
        · by_cases a3 : (a.f3.length : Int) = 0
          · rw [if_pos a1, if_pos a2, if_pos a3, a1, a2, a3]; rfl
          · rw [if_pos a1, if_pos a2, if_neg a3, a1, a2]
            have : ((a.f3.length : Int) == 0) = false := by simpa using a3
            rw [this]; rfl
        · rw [if_pos a1, if_neg a2, a1]
          have : (a.f2 == 0) = false := by simpa using a2
          rw [this]; rfl
      · rw [if_neg a1]
        have : (a.f1 == 0) = false := by simpa using a1
        rw [this]; rfl
    by_cases k1 : a.f0 = 1
    · refine Ev.step (f := fun _ => some (topV a.f0 a.f1 a.f2 a.f3 a.f4.length)) (fun k => ?_) (Ev.now _)
      simp only [capnpref10_Valid.l0]
      rw [if_neg (by omega), if_neg k0, if_pos k1]
      unfold topV
      rw [if_neg k0, if_pos k1]
      by_cases a1 : a.f1 = 0
      · by_cases a2 : a.f2 = 0
        · by_cases a3 : (a.f3.length : Int) % 8 = 0
          · by_cases a4 : (a.f3.length : Int) ≤ 524280
            · rw [if_pos a1, if_pos a2, if_pos a3, if_pos a4, a1, a2, a3, decide_eq_true a4]; rfl
            · rw [if_pos a1, if_pos a2, if_pos a3, if_neg a4, a1, a2, a3, decide_eq_false a4]; rfl
          · rw [if_pos a1, if_pos a2, if_neg a3, a1, a2]
            have : ((a.f3.length : Int) % 8 == 0) = false := by simpa using a3
            rw [this]; rfl
        · rw [if_pos a1, if_neg a2, a1]
          have : (a.f2 == 0) = false := by simpa using a2
          rw [this]; rfl
      · rw [if_neg a1]
        have : (a.f1 == 0) = false := by simpa using a1
        rw [this]; rfl
    by_cases k2 : a.f0 = 2
    · have bad : (a.f2 < 0 ∨ 536870911 < a.f2 ∨ a.f1 < 0 ∨ 7 < a.f1) → topV a.f0 a.f1 a.f2 a.f3 a.f4.length = false := fun h => by
        unfold topV; rw [if_neg k0, if_neg k1, if_pos k2, if_pos h]
      have go : ∀ b : Bool, (b = true → topV a.f0 a.f1 a.f2 a.f3 a.f4.length = false) → (b = false → Ev (fun k => capnpref10_Valid.j1 k false a.f0 a.f1 a.f2 a.f3 a.f4) (topV a.f0 a.f1 a.f2 a.f3 a.f4.length)) → Ev (fun k => capnpref10_Valid.j1 k b a.f0 a.f1 a.f2 a.f3 a.f4) (topV a.f0 a.f1 a.f2 a.f3 a.f4.length) := fun b h1 h2 => by
        cases b with
        | true => rw [h1 rfl]; exact Ev.step yes (Ev.now _)
        | false => exact h2 rfl
      by_cases a1 : a.f2 < 0
      · refine Ev.step (f := fun k => capnpref10_Valid.j1 k true a.f0 a.f1 a.f2 a.f3 a.f4) (fun k => ?_) (go true (fun _ => bad (.inl a1)) (fun h => by cases h))
        simp only [capnpref10_Valid.l0]
        rw [if_neg (by omega), if_neg k0, if_neg k1, if_pos k2, if_pos a1]
      by_cases a2 : 536870911 < a.f2
      · refine Ev.step (f := fun k => capnpref10_Valid.j1 k true a.f0 a.f1 a.f2 a.f3 a.f4) (fun k => ?_) (go true (fun _ => bad (.inr (.inl a2))) (fun h => by cases h))
        simp only [capnpref10_Valid.l0]
        rw [if_neg (by omega), if_neg k0, if_neg k1, if_pos k2, if_neg a1, if_pos a2]
      by_cases a3 : a.f1 < 0
      · refine Ev.step (f := fun k => capnpref10_Valid.j1 k true a.f0 a.f1 a.f2 a.f3 a.f4) (fun k => ?_) (go true (fun _ => bad (.inr (.inr (.inl a3)))) (fun h => by cases h))
        simp only [capnpref10_Valid.l0]
        rw [if_neg (by omega), if_neg k0, if_neg k1, if_pos k2, if_neg a1, if_neg (by omega), if_pos a3]
      refine Ev.step (f := fun k => capnpref10_Valid.j1 k (decide (a.f1 > 7)) a.f0 a.f1 a.f2 a.f3 a.f4) (fun k => ?_) (go _ (fun h => bad (.inr (.inr (.inr (of_decide_eq_true h))))) (fun h => ?_))
      · simp only [capnpref10_Valid.l0]
        rw [if_neg (by omega), if_neg k0, if_neg k1, if_pos k2, if_neg a1, if_neg (by omega), if_neg a3]
      have a4 : a.f1 ≤ 7 := by have := of_decide_eq_false h; omega
      have hT : topV a.f0 a.f1 a.f2 a.f3 a.f4.length = if 6 ≤ a.f1 then ((a.f3.length : Int) == 0) && ((a.f4.length : Int) == a.f2)
          else if ¬ a.f4.length = 0 ∨ ¬ (a.f3.length : Int) = bytesOf a.f1 a.f2 then false else decide (rL a.f1 a.f2 a.f3 a.f3.length = a.f3) := by
        unfold topV; rw [if_neg k0, if_neg k1, if_pos k2, if_neg (by omega)]
      rw [hT]
      by_cases a5 : 6 ≤ a.f1
      · rw [if_pos a5]
        refine Ev.step (f := fun _ => some (((a.f3.length : Int) == 0) && ((a.f4.length : Int) == a.f2))) (fun k => ?_) (Ev.now _)
        simp only [capnpref10_Valid.j1]
        rw [if_neg (by simp), if_pos (by omega)]
        by_cases a6 : (a.f3.length : Int) = 0
        · rw [if_pos a6, a6]; rfl
        · rw [if_neg a6]
          have : ((a.f3.length : Int) == 0) = false := by simpa using a6
          rw [this]; rfl
      · rw [if_neg a5]
        have no2 : (¬ a.f4.length = 0 ∨ ¬ (a.f3.length : Int) = bytesOf a.f1 a.f2) → Ev (fun k => capnpref10_Valid.j2 k true a.f0 a.f1 a.f2 a.f3 a.f4) (if ¬ a.f4.length = 0 ∨ ¬ (a.f3.length : Int) = bytesOf a.f1 a.f2 then false else decide (rL a.f1 a.f2 a.f3 a.f3.length = a.f3)) := fun h => by
          rw [if_pos h]
          refine Ev.step (fun k => ?_) (Ev.now _)
          simp only [capnpref10_Valid.j2]
          rw [if_pos trivial]
        by_cases a6 : a.f4.length = 0
        · refine Ev.step (f := fun k => capnpref10_Valid.j2 k ((a.f3.length : Int) != bytesOf a.f1 a.f2) a.f0 a.f1 a.f2 a.f3 a.f4) (fun k => ?_) ?_
          · simp only [capnpref10_Valid.j1]
            rw [if_neg (by simp), if_neg (by omega), if_pos (by omega), bytes_f _ _ (by omega) (by omega)]
            rfl
          · by_cases a7 : (a.f3.length : Int) = bytesOf a.f1 a.f2
            · have e7 : ((a.f3.length : Int) != bytesOf a.f1 a.f2) = false := by rw [a7]; simp
              rw [e7, if_neg (by rintro (h | h); exact h a6; exact h a7)]
              refine Ev.step (f := fun k => (capnpref06_Trim.f k a.f1 a.f2 a.f3).bind fun t => (capnpref01_Same.f k t a.f3).bind fun u => some u) (fun k => ?_) ?_
              · simp only [capnpref10_Valid.j2]
                rw [if_neg (by simp)]
              · refine Ev.bind (trim_ev a.f1 a.f2 (by omega) (by omega) a.f3 hx a.f3.length a7 (Nat.le_refl _)) ?_
                exact Ev.bind (same_ev _ _ (by rw [rL_length]; omega)) (Ev.now _)
            · have e7 : ((a.f3.length : Int) != bytesOf a.f1 a.f2) = true := by simpa using a7
              rw [e7]
              exact no2 (.inr a7)
        · refine Ev.step (f := fun k => capnpref10_Valid.j2 k true a.f0 a.f1 a.f2 a.f3 a.f4) (fun k => ?_) (no2 (.inl a6))
          simp only [capnpref10_Valid.j1]
          rw [if_neg (by simp), if_neg (by omega), if_neg (by omega)]
    · refine Ev.step (f := fun _ => some (topV a.f0 a.f1 a.f2 a.f3 a.f4.length)) (fun k => ?_) (Ev.now _)
      simp only [capnpref10_Valid.l0]
      rw [if_neg (by omega), if_neg k0, if_neg k1, if_neg k2]
      unfold topV
      rw [if_neg k0, if_neg k1, if_neg k2]
  have loop : ∀ d j : Nat, a.f4.length - j = d → j ≤ a.f4.length → tvalids C (a.f4.take j) = true → Ev (fun k => capnpref10_Valid.l0 k (j : Int) a.f0 a.f1 a.f2 a.f3 a.f4) (tvalid a) := by
    intro d
    induction d with
    | zero =>
      intro j hd hj ht
      obtain rfl : j = a.f4.length := by omega
      rw [List.take_length] at ht
      rw [HV, ht, Bool.true_and]
      exact top
    | succ d ihd =>
      intro j hd hj ht
      have hlt : j < a.f4.length := by omega
      have hmem : a.f4[j] ∈ a.f4 := List.getElem_mem hlt
      have hk := tsize_kid hmem
      have ha := ih _ hmem (AllT.kids hok _ hmem) (by omega)
      have hst := tvalids_take C a.f4 j hlt
      have hbad := tvalids_bad C a.f4 j hlt
      have e2 : wrap64 ((j : Int) + 1) = ((j + 1 : Nat) : Int) := by rw [w64 (by omega) (by omega)]; omega
      refine Ev.step (f := fun k => (capnpref10_Valid.f k a.f4[j].f0 a.f4[j].f1 a.f4[j].f2 a.f4[j].f3 a.f4[j].f4).bind fun t => if t = true then (if a.f0 = 2 then (if a.f1 = 7 then (if a.f4[j].f0 = 1 then capnpref10_Valid.l0 k (wrap64 ((j : Int) + 1)) a.f0 a.f1 a.f2 a.f3 a.f4 else some false) else capnpref10_Valid.l0 k (wrap64 ((j : Int) + 1)) a.f0 a.f1 a.f2 a.f3 a.f4) else capnpref10_Valid.l0 k (wrap64 ((j : Int) + 1)) a.f0 a.f1 a.f2 a.f3 a.f4) else some false) (fun k => ?_) ?_
      · simp only [capnpref10_Valid.l0]
        rw [if_pos (by omega), if_pos (by omega), rdT_at _ _ hlt]
      refine Ev.bind ha ?_
      cases hv : tvalid a.f4[j] with
      | false =>
        rw [HV, hbad (by rw [hv]; rfl), Bool.false_and]
        exact Ev.now _
      | true =>
        have cont : (!(C && a.f4[j].f0 != 1)) = true → Ev (fun k => capnpref10_Valid.l0 k (wrap64 ((j : Int) + 1)) a.f0 a.f1 a.f2 a.f3 a.f4) (tvalid a) := fun hc => by
          rw [e2]
          exact ihd (j + 1) (by omega) (by omega) (by rw [hst, ht, hv, hc]; rfl)
        by_cases b0 : a.f0 = 2
        · by_cases b1 : a.f1 = 7
          · have hCt : C = true := by rw [← hC, b0, b1]; rfl
            by_cases b2 : a.f4[j].f0 = 1
            · exact Ev.congr (fun k => by rw [if_pos rfl, if_pos b0, if_pos b1, if_pos b2]) (cont (by rw [b2]; simp))
            · have hf : tvalid a = false := by
                rw [HV, hbad (by rw [hv, hCt]; simpa using b2), Bool.false_and]
              rw [hf]
              exact Ev.congr (fun k => by rw [if_pos rfl, if_pos b0, if_pos b1, if_neg b2]) (Ev.now _)
          · have hCf : C = false := by rw [← hC, show (a.f1 == 7) = false by simpa using b1, Bool.and_false]
            exact Ev.congr (fun k => by rw [if_pos rfl, if_pos b0, if_neg b1]) (cont (by rw [hCf]; rfl))
        · have hCf : C = false := by rw [← hC, show (a.f0 == 2) = false by simpa using b0, Bool.false_and]
          exact Ev.congr (fun k => by rw [if_pos rfl, if_neg b0]) (cont (by rw [hCf]; rfl))
  refine Ev.step (f := fun k => capnpref10_Valid.l0 k 0 a.f0 a.f1 a.f2 a.f3 a.f4) (fun k => by simp only [capnpref10_Valid.f]) ?_
  exact loop a.f4.length 0 (by omega) (by omega) (by simp [tvalids])
end Go.Proofs.YtmbockhcmhghlaaDoor.Pr
end
section
namespace Go.Proofs.YtmbockhcmhghlaaDoor.Pr
open Go.RowKit Go.Proofs.YtmbockhcmhghlaaDoorW.PrintWords Go.Proofs.YtmbockhcmhghlaaDoorW.PrintLast Go.Proofs.YtmbockhcmhghlaaDoorW.PrintMore
set_option linter.unusedVariables false
set_option linter.unusedSimpArgs false
def structV (x : S25) : Bool := (x.f1 == 0) && ((x.f2 == 0) && (((x.f3.length : Int) % 8 == 0) && (decide ((x.f3.length : Int) ≤ 524280) && (decide ((x.f4.length : Int) ≤ 65535) && x.f4.all tvalid))))
set_option maxHeartbeats 1000000 in
theorem structure_any (x : S25) (hN : ∀ y ∈ x.f4, NodeC 10 (tvalid y) y) : NodeC 21 (structV x) x := by
  intro A3 c3 A4 c4 W h3 l3 h4 l4 ht
  have H4 := Lib.hid h4; have HT := Lib.hid ht; have HN := Lib.hid hN
  have hm3 : x.f3.length ≤ 9223372036854775807 := h3.2.1
  have hm4 : x.f4.length ≤ 9223372036854775807 := h4.2.1
  clear h3 h4 ht hN
  have HD : Hid (structV x = ((x.f1 == 0) && ((x.f2 == 0) && (((x.f3.length : Int) % 8 == 0) && (decide ((x.f3.length : Int) ≤ 524280) && (decide ((x.f4.length : Int) ≤ 65535) && x.f4.all tvalid)))))) := rfl
  cases b1 : (x.f1 == 0) with
  | false =>
    go_enter Tryd.func21, Tryd.ntmps21
    go_wp2
    go_ret
    exact ⟨by rw [HD.out, b1]; rfl, (Below.refl _ _).alloc (Nat.le_refl _) _⟩
  | true =>
  cases b2 : (x.f2 == 0) with
  | false =>
    go_enter Tryd.func21, Tryd.ntmps21
    go_wp2
    go_ret
    exact ⟨by rw [HD.out, b1, b2]; rfl, (Below.refl _ _).alloc (Nat.le_refl _) _⟩
  | true =>
  cases b3 : ((x.f3.length : Int) % 8 == 0) with
  | false =>
    go_enter Tryd.func21, Tryd.ntmps21
    go_wp2
    go_ret
    exact ⟨by rw [HD.out, b1, b2, b3]; rfl, (Below.refl _ _).alloc (Nat.le_refl _) _⟩
  | true =>
  by_cases p4 : x.f3.length ≤ 524280
  · have b4 : decide ((x.f3.length : Int) ≤ 524280) = true := by simp; omega
    by_cases p5 : x.f4.length ≤ 65535
    · have b5 : decide ((x.f4.length : Int) ≤ 65535) = true := by simp; omega
      have HDD := Lib.hid (show structV x = x.f4.all tvalid by rw [HD.out, b1, b2, b3, b4, b5]; rfl)
      clear HD
      go_enter Tryd.func21, Tryd.ntmps21
      go_wp2_with fail
      refine calls_at (fun W1 hW => ?_)
      have hb : Below W.heap.size W W1 := by rw [hW]; exact (Below.refl _ _).alloc (Nat.le_refl _) _
      clear hW
      refine (all10 tvalid A4 c4 x.f4 W1 HN.out (Kd.C_below H4.out hb) (HT.out.below hb)).mono ?_
      rintro e w1 ⟨rfl, hb1⟩
      go_wp2
      go_ret
      exact ⟨by rw [HDD.out]; rfl, hb.trans (hb1.mono hb.size)⟩
    · have b5 : decide ((x.f4.length : Int) ≤ 65535) = false := by simp; omega
      have HDD := Lib.hid (show structV x = false by rw [HD.out, b1, b2, b3, b4, b5]; rfl)
      clear HD
      go_enter Tryd.func21, Tryd.ntmps21
      go_wp2
      go_ret
      exact ⟨by rw [HDD.out]; rfl, (Below.refl _ _).alloc (Nat.le_refl _) _⟩
  · have b4 : decide ((x.f3.length : Int) ≤ 524280) = false := by simp; omega
    have HDD := Lib.hid (show structV x = false by rw [HD.out, b1, b2, b3, b4]; rfl)
    clear HD
    go_enter Tryd.func21, Tryd.ntmps21
    go_wp2
    go_ret
    exact ⟨by rw [HDD.out]; rfl, (Below.refl _ _).alloc (Nat.le_refl _) _⟩
theorem element_any (x : S25) (hS : NodeC 21 (structV x) x) : NodeC 31 ((x.f0 == 1) && structV x) x := by
  intro A3 c3 A4 c4 W h3 l3 h4 l4 ht
  have H3 := Lib.hid h3; have H4 := Lib.hid h4; have HT := Lib.hid ht; have HS := Lib.hid hS
  clear h3 h4 ht hS
  cases b1 : (x.f0 == 1) with
  | false =>
    go_enter Tryd.func31, Tryd.ntmps31
    go_wp2
    go_ret
    exact ⟨rfl, (Below.refl _ _).alloc (Nat.le_refl _) _⟩
  | true =>
    go_enter Tryd.func31, Tryd.ntmps31
    go_wp2_with fail
    refine calls_at (fun W1 hW => ?_)
    have hb : Below W.heap.size W W1 := by rw [hW]; exact (Below.refl _ _).alloc (Nat.le_refl _) _
    clear hW
    refine (HS.out _ _ _ _ W1 (Kd.C_below H3.out hb) l3 (Kd.C_below H4.out hb) l4 (HT.out.below hb)).mono ?_
    rintro e w1 ⟨rfl, hb1⟩
    go_wp2
    go_ret
    exact ⟨rfl, hb.trans (hb1.mono hb.size)⟩
end Go.Proofs.YtmbockhcmhghlaaDoor.Pr
end
section
namespace Go.Proofs.YtmbockhcmhghlaaDoor.Pr
open Go.RowKit Go.Proofs.YtmbockhcmhghlaaDoorW.PrintWords Go.Proofs.YtmbockhcmhghlaaDoorW.PrintLast Go.Proofs.YtmbockhcmhghlaaDoorW.PrintMore
set_option linter.unusedVariables false
set_option linter.unusedSimpArgs false
theorem toList_loop (s : ByteArray) : ∀ (d i : Nat) (r : List UInt8), s.size - i = d → ByteArray.toList.loop s i r = r.reverse ++ s.data.toList.drop i := by
  intro d
  induction d with
  | zero =>
    intro i r hd
    unfold ByteArray.toList.loop
    rw [if_neg (by omega), List.drop_eq_nil_of_le (by rw [data_length]; omega), List.append_nil]
  | succ d ih =>
    intro i r hd
    have hi : i < s.size := by omega
    unfold ByteArray.toList.loop
    rw [if_pos hi, ih (i + 1) _ (by omega)]
    have hl : i < s.data.toList.length := by rw [data_length]; exact hi
    rw [List.drop_eq_getElem_cons hl]
    have hg : s.get! i = s.data.toList[i] := by
      show s.data[i]! = _
      rw [getElem!_pos s.data i (by simpa using hl)]
      simp
    rw [hg]
    simp
theorem toList_data (s : ByteArray) : s.toList = s.data.toList := by
  unfold ByteArray.toList
  rw [toList_loop s _ 0 [] rfl]
  simp
theorem byte_inj {x y : Int} (hx : 0 ≤ x ∧ x ≤ 255) (hy : 0 ≤ y ∧ y ≤ 255) (h : UInt8.ofNat x.toNat = UInt8.ofNat y.toNat) : x = y := by
  have h1 := congrArg UInt8.toNat h
  rw [UInt8.toNat_ofNat', UInt8.toNat_ofNat'] at h1
  omega
theorem bytes_map_inj : ∀ {xs ys : List Int}, (∀ x ∈ xs, 0 ≤ x ∧ x ≤ 255) → (∀ y ∈ ys, 0 ≤ y ∧ y ≤ 255) → (xs.map fun n => UInt8.ofNat n.toNat) = (ys.map fun n => UInt8.ofNat n.toNat) → xs = ys
  | [], [], _, _, _ => rfl
  | [], y :: ys, _, _, h => by simp at h
  | x :: xs, [], _, _, h => by simp at h
  | x :: xs, y :: ys, hx, hy, h => by
    simp only [List.map_cons, List.cons.injEq] at h
    rw [byte_inj (hx x List.mem_cons_self) (hy y List.mem_cons_self) h.1, bytes_map_inj (fun a ha => hx a (List.mem_cons_of_mem _ ha)) (fun a ha => hy a (List.mem_cons_of_mem _ ha)) h.2]
theorem same_bytes {xs ys : List Int} (hx : ∀ x ∈ xs, 0 ≤ x ∧ x ≤ 255) (hy : ∀ y ∈ ys, 0 ≤ y ∧ y ≤ 255) : ((strOfNums xs).toList == (strOfNums ys).toList) = decide (xs = ys) := by
  rw [toList_data, toList_data]
  by_cases h : xs = ys
  · rw [decide_eq_true h, h]; simp
  · rw [decide_eq_false h, beq_eq_false_iff_ne]
    intro he
    refine h (bytes_map_inj hx hy ?_)
    simpa [strOfNums] using he
theorem getD_of_lt {xs : List Int} {j : Nat} (h : j < xs.length) : xs[j] = xs.getD j 0 := by simp [List.getD_eq_getElem?_getD, List.getElem?_eq_getElem h]
theorem bytes_same (e c : Int) : Ls.bytesOf e c = bytesOf e c := rfl
theorem rL_eq (e c : Int) (h0 : 0 ≤ e) (h5 : e ≤ 5) (hc0 : 0 ≤ c) (xs : List Int) (m : Nat) (hm : (m : Int) = bytesOf e c) (hmx : m ≤ xs.length) : rL e c xs m = Ls.trimL e c xs := by
  have hk : (Ls.bytesOf e c).toNat = m := by rw [bytes_same]; omega
  unfold Ls.trimL
  rw [hk]
  by_cases h : e = 1 ∧ 0 < c % 8
  · rw [if_pos h]
    obtain ⟨rfl, h8⟩ := h
    have hm' : 8 * (m : Int) < c + 8 := by simp [bytesOf, bitsOf] at hm; omega
    have hm'' : c ≤ 8 * (m : Int) := by simp [bytesOf, bitsOf] at hm; omega
    apply List.ext_getElem
    · simp [rL]; omega
    · intro j h1 h2
      have hj : j < m := by simpa [rL] using h1
      rw [List.getElem_set]
      by_cases hl : m - 1 = j
      · rw [if_pos hl]
        simp only [rL, List.getElem_map, List.getElem_range]
        have hjm : 8 * (j : Int) + 8 = 8 * (m : Int) := by omega
        rw [show rT 1 c xs j = xs.getD j 0 % 2 ^ (c - 8 * j).toNat from if_pos ⟨rfl, by omega⟩, hl, show (c - 8 * (j : Int)).toNat = (c % 8).toNat by omega]
      · rw [if_neg hl]
        simp only [rL, List.getElem_map, List.getElem_range, List.getElem_take]
        rw [show rT 1 c xs j = xs.getD j 0 from if_neg (fun h => by have := h.2; omega), getD_of_lt]
  · rw [if_neg h]
    apply List.ext_getElem
    · simp [rL]; omega
    · intro j h1 h2
      have hj : j < m := by simpa [rL] using h1
      simp only [rL, List.getElem_map, List.getElem_range, List.getElem_take]
      rw [getD_of_lt (show j < xs.length by omega)]
      by_cases he : e = 1
      · subst he
        have : ¬ 0 < c % 8 := fun h8 => h ⟨rfl, h8⟩
        have hm' : 8 * (m : Int) = c := by simp [bytesOf, bitsOf] at hm; omega
        exact if_neg (fun h => by have := h.2; omega)
      · exact if_neg (fun h => he h.1)
theorem rL_range {e c : Int} {xs : List Int} (hx : ∀ x ∈ xs, 0 ≤ x ∧ x ≤ 255) {m : Nat} (hm : m ≤ xs.length) : ∀ y ∈ rL e c xs m, 0 ≤ y ∧ y ≤ 255 := by
  intro y hy
  obtain ⟨j, hj, rfl⟩ := List.mem_map.1 hy
  have hj' : j < xs.length := by have := List.mem_range.1 hj; omega
  have h1 := hx _ (List.getElem_mem hj')
  unfold rT
  rw [← getD_of_lt hj']
  split
  · have hp : (0 : Int) < 2 ^ (c - 8 * (j : Int)).toNat := Int.pow_pos (by omega)
    have h2 := Int.emod_nonneg xs[j] (Int.ne_of_gt hp)
    have h3 : xs[j] % 2 ^ (c - 8 * (j : Int)).toNat ≤ xs[j] := by
      rw [Int.emod_def]
      have := Int.mul_nonneg (Int.le_of_lt hp) (Int.ediv_nonneg h1.1 (Int.le_of_lt hp))
      omega
    omega
  · exact h1
theorem Rd_of_C {w : World} {A : Option Addr} {xs : List Int} (h : (Kd.int .u8).C w A xs.length xs) (hx : ∀ x ∈ xs, 0 ≤ x ∧ x ≤ 255) : Ls.Rd w A xs.length xs := by
  refine ⟨rfl, ?_, fun j => ?_⟩
  · by_cases h0 : xs.length = 0
    · exact .inl h0
    · right
      obtain ⟨ad, rfl, hc⟩ := Kd.at_int h 0 (by omega) (by omega)
      have hcell : ∀ j, j < xs.length → w.cell? (ad.add j) = some (.int .u8 (xs.getD j 0)) := fun j hj => by
        obtain ⟨ad', e, hc'⟩ := Kd.at_int h (j : Int) (by omega) (by omega)
        obtain rfl := Option.some.inj e
        simpa [rd] using hc'
      obtain ⟨b, off, e, hc2⟩ := Go.ints_at hcell (by omega)
      exact ⟨b, off, by rw [e], World.block_lt_of_cell? w _ (hc2 0 (by omega)), hc2⟩
  · by_cases hj : j < xs.length
    · have := hx _ (List.getElem_mem hj)
      rwa [getD_of_lt hj] at this
    · rw [List.getD_eq_getElem?_getD, List.getElem?_eq_none (by omega)]
      simp
end Go.Proofs.YtmbockhcmhghlaaDoor.Pr
end
section
namespace Go.Proofs.YtmbockhcmhghlaaDoor.Pr
open Go.RowKit Go.Proofs.YtmbockhcmhghlaaDoorW.PrintWords Go.Proofs.YtmbockhcmhghlaaDoorW.PrintLast Go.Proofs.YtmbockhcmhghlaaDoorW.PrintMore
set_option linter.unusedVariables false
set_option linter.unusedSimpArgs false
def NodeE (b : Bool) (x y : S25) : Prop := ∀ (A3 : Option Addr) (c3 : Nat) (A4 : Option Addr) (c4 : Nat) (B3 : Option Addr) (d3 : Nat) (B4 : Option Addr) (d4 : Nat) (W : World), Kd.C (Kd.int .u8) W A3 x.f3.length x.f3 → x.f3.length ≤ c3 → Kd.C k25 W A4 x.f4.length x.f4 → x.f4.length ≤ c4 →
  Kd.C (Kd.int .u8) W B3 y.f3.length y.f3 → y.f3.length ≤ d3 → Kd.C k25 W B4 y.f4.length y.f4 → y.f4.length ≤ d4 →
  Calls Tryd.prog 12 #[.agg #[.int .i64 x.f0, .int .i64 x.f1, .int .i64 x.f2, .slice A3 x.f3.length c3, .slice A4 x.f4.length c4], .agg #[.int .i64 y.f0, .int .i64 y.f1, .int .i64 y.f2, .slice B3 y.f3.length d3, .slice B4 y.f4.length d4]] W fun e w' => e = .returned (.bool b) ∧ Below W.heap.size W w'
noncomputable def eqL (l m : List S25) : Bool := @decide (l = m) (Classical.propDecidable _)
theorem eqL_true {l m : List S25} (h : l = m) : eqL l m = true := by unfold eqL; simp [h]
theorem eqL_false {l m : List S25} (h : ¬ l = m) : eqL l m = false := by unfold eqL; simp [h]
set_option maxHeartbeats 2000000 in
theorem equalFunc (l m : List S25) (A : Option Addr) (c : Nat) (B : Option Addr) (d : Nat) (W : World) (hN : ∀ x ∈ l, ∀ y ∈ m, NodeE (eqT x y) x y) (hr : Kd.C k25 W A l.length l) (hq : Kd.C k25 W B m.length m) :
    Calls Tryd.prog 27 #[.slice A l.length c, .slice B m.length d, .func (.func 12) #[] #[]] W fun e w' => e = .returned (.bool (eqL l m)) ∧ Below W.heap.size W w' := by
  have HR := Lib.hid hr; have HQ := Lib.hid hq; have HN := Lib.hid hN
  have hl : l.length ≤ 9223372036854775807 := hr.2.1
  have hm : m.length ≤ 9223372036854775807 := hq.2.1
  clear hr hq hN
  by_cases hlm : l.length = m.length
  · have hneq : ((l.length : Int) != (m.length : Int)) = false := by rw [hlm]; simp
    have HLM := Lib.hid hlm
    clear hlm
    go_enter Tryd.func27, Tryd.ntmps27
    go_wp2_with fail
    clear hneq
    go_loopw [17] (fun i wr => ∃ j : Nat, j ≤ l.length ∧ i = .int .i64 j ∧ Hid (l.take j = m.take j) ∧ Hid (Below W.heap.size W wr)) (fun i _ => l.length - (intOf i).toNat)
    case atStart => exact ⟨0, Nat.zero_le _, rfl, Lib.hid (by simp), Lib.hid (Below.refl _ _)⟩
    case round =>
      obtain ⟨j, hj, rfl, htk, hB⟩ := hrel
      by_cases hlt : j < l.length
      · have hlt2 : j < m.length := by have := HLM.out; omega
        obtain ⟨ad, A3, c3, A4, c4, e, h0, h1, h2, h3, h4, l3, g3, l4, g4⟩ := at_T25 (Kd.C_below HR.out hB.out) (j : Int) (by omega) (by omega)
        subst e
        obtain ⟨bd, B3, d3, B4, d4, e, i0, i1, i2, i3, i4, k3, f3, k4, f4⟩ := at_T25 (Kd.C_below HQ.out hB.out) (j : Int) (by omega) (by omega)
        subst e
        rw [rdT_at l j hlt] at h0 h1 h2 h3 h4 l3 g3 l4 g4
        rw [rdT_at m j hlt2] at i0 i1 i2 i3 i4 k3 f3 k4 f4
        simp only [Int.toNat_natCast] at h0 h1 h2 h3 h4 i0 i1 i2 i3 i4
        have hxy := HN.out _ (List.getElem_mem hlt) _ (List.getElem_mem hlt2)
        obtain ⟨x, ex⟩ : ∃ x, Hid (l[j] = x) := ⟨l[j], Lib.hid rfl⟩
        obtain ⟨y, ey⟩ : ∃ y, Hid (m[j] = y) := ⟨m[j], Lib.hid rfl⟩
        rw [ex.out] at h0 h1 h2 h3 h4 l3 g3 l4 g4
        rw [ey.out] at i0 i1 i2 i3 i4 k3 f3 k4 f4
        rw [ex.out, ey.out] at hxy
        have lb : (bd.add (j * 5)).block < wr.heap.size := World.block_lt_of_cell? _ _ i0
        have G3 := Lib.hid g3; have G4 := Lib.hid g4; have F3 := Lib.hid f3; have F4 := Lib.hid f4; have HX := Lib.hid hxy
        clear g3 g4 f3 f4 hxy
        go_wp2_with fail
        refine calls_at (fun W1 hW => ?_)
        have hb : Below wr.heap.size wr W1 := by rw [hW]; exact ((Below.refl _ _).alloc (Nat.le_refl _) _).alloc (by simp) _
        clear hW
        refine (HX.out _ _ _ _ _ _ _ _ W1 (Kd.C_below G3.out hb) l3 (Kd.C_below G4.out hb) l4 (Kd.C_below F3.out hb) k3 (Kd.C_below F4.out hb) k4).mono ?_
        rintro e w1 ⟨rfl, hb1⟩
        have hB1 := Lib.hid (hB.out.trans ((hb.trans (hb1.mono hb.size)).mono hB.out.size))
        have hx1 : Hid (eqT x y = true → l.take (j + 1) = m.take (j + 1)) := fun h => take_next hlt hlt2 htk.out (by rw [ex.out, ey.out]; exact eqT_iff.1 h)
        have hx2 : Hid (eqT x y = false → eqL l m = false) := fun h => eqL_false fun e => by
          subst e
          have : x = y := by rw [← ex.out, ← ey.out]
          rw [eqT_true this] at h
          cases h
        obtain ⟨b, hbb⟩ : ∃ b, Hid (eqT x y = b) := ⟨_, rfl⟩
        rw [hbb.out] at hx1 hx2 ⊢
        cases b with
        | true =>
          go_wp2
          go_roundw
          case rel => exact ⟨j + 1, by omega, by go_num, Lib.hid (hx1.out (by first | trivial | rfl)), hB1⟩
          case measure => simp [intOf]; omega
        | false =>
          go_wp2
          go_ret
          exact ⟨by rw [hx2.out (by first | trivial | rfl)]; rfl, hB1.out⟩
      · have ht : l = m := by
          have := htk.out
          have hh := HLM.out
          rwa [List.take_of_length_le (by omega), List.take_of_length_le (by omega)] at this
        have HTK := Lib.hid ht
        clear ht
        go_wp2
        go_ret
        exact ⟨by rw [eqL_true HTK.out]; rfl, hB.out⟩
  · have hneq : ((l.length : Int) != (m.length : Int)) = true := by rw [bne_iff_ne]; omega
    have HF := Lib.hid (eqL_false (fun h : l = m => hlm (by rw [h])))
    clear hlm
    go_enter Tryd.func27, Tryd.ntmps27
    go_wp2
    go_ret
    exact ⟨by rw [HF.out]; rfl, Below.refl _ _⟩
set_option maxHeartbeats 2000000 in
theorem equal_step (x y : S25) (hx : ∀ b ∈ x.f3, 0 ≤ b ∧ b ≤ 255) (hy : ∀ b ∈ y.f3, 0 ≤ b ∧ b ≤ 255) (hN : ∀ a ∈ x.f4, ∀ b ∈ y.f4, NodeE (eqT a b) a b) : NodeE (eqT x y) x y := by
  intro A3 c3 A4 c4 B3 d3 B4 d4 W h3 l3 h4 l4 k3 m3 k4 m4
  have H3 := Lib.hid h3; have H4 := Lib.hid h4; have K3 := Lib.hid k3; have K4 := Lib.hid k4; have HN := Lib.hid hN; have HX := Lib.hid hx; have HY := Lib.hid hy
  clear h3 h4 k3 k4 hN hx hy
  by_cases q0 : x.f0 = y.f0
  · have g0 : (x.f0 == y.f0) = true := beq_iff_eq.2 q0
    have Q0 := Lib.hid q0; clear q0
    by_cases q1 : x.f1 = y.f1
    · have g1 : (x.f1 == y.f1) = true := beq_iff_eq.2 q1
      have Q1 := Lib.hid q1; clear q1
      by_cases q2 : x.f2 = y.f2
      · have g2 : (x.f2 == y.f2) = true := beq_iff_eq.2 q2
        have Q2 := Lib.hid q2; clear q2
        go_enter Tryd.func12, Tryd.ntmps12
        go_wp2_with fail
        refine calls_at (fun W1 hW => ?_)
        have hb : Below W.heap.size W W1 := by rw [hW]; exact ((Below.refl _ _).alloc (Nat.le_refl _) _).alloc (by simp) _
        have hB1 : W1.heap[W.heap.size]? = some (.cells #[.int .i64 x.f0, .int .i64 x.f1, .int .i64 x.f2, .slice A3 x.f3.length c3, .slice A4 x.f4.length c4] 25 (0, 0)) := by rw [hW]; exact blk_alloc (heap_alloc_new _ _) _
        have hB2 : W1.heap[W.heap.size + 1]? = some (.cells #[.int .i64 y.f0, .int .i64 y.f1, .int .i64 y.f2, .slice B3 y.f3.length d3, .slice B4 y.f4.length d4] 25 (0, 0)) := by rw [hW]; exact blk_new _ _ _ (by simp)
        clear hW
        refine (bytes_Equal.calls A3 c3 x.f3 B3 d3 y.f3 (decide (x.f3 = y.f3)) W1 (Kd.C_below H3.out hb) l3 (Kd.C_below K3.out hb) m3 (by unfold bytes_Equal.f; rw [same_bytes HX.out HY.out])).mono ?_
        rintro e w1 ⟨rfl, hd⟩
        have hb1 := hd.below
        have hb2 := hb.trans (hb1.mono hb.size)
        have c1 := blk_below hB1 hb1
        have c2 := blk_below hB2 hb1
        have u4 : w1.cell? ⟨W.heap.size, 4, none⟩ = some (.slice A4 x.f4.length c4) := (blk_cell c1 4).trans rfl
        have v4 : w1.cell? ⟨W.heap.size + 1, 4, none⟩ = some (.slice B4 y.f4.length d4) := (blk_cell c2 4).trans rfl
        have lu := blk_lt c1; have lv := blk_lt c2
        clear hd hB1 hB2 c1 c2
        by_cases q3 : x.f3 = y.f3
        · have Q3 := Lib.hid q3
          rw [decide_eq_true q3]
          clear q3
          have HB1 := Lib.hid hb1; have HB2 := Lib.hid hb2; clear hb1 hb2
          go_wp2_with fail
          refine (equalFunc x.f4 y.f4 A4 c4 B4 d4 w1 HN.out (Kd.C_below H4.out HB2.out) (Kd.C_below K4.out HB2.out)).mono ?_
          rintro e w2 ⟨rfl, hb3⟩
          have he : eqL x.f4 y.f4 = eqT x y := by
            by_cases q4 : x.f4 = y.f4
            · rw [eqL_true q4, eqT_true (S25.same Q0.out Q1.out Q2.out Q3.out q4)]
            · rw [eqL_false q4, eqT_false (fun h => q4 (by rw [h]))]
          have HE := Lib.hid he
          clear he
          go_wp2
          go_ret
          exact ⟨by rw [← HE.out]; rfl, HB2.out.trans (hb3.mono HB2.out.size)⟩
        · have HF := Lib.hid (eqT_false (fun h : x = y => q3 (by rw [h])))
          rw [decide_eq_false q3]
          clear q3
          go_wp2
          go_ret
          exact ⟨by rw [HF.out]; rfl, hb2⟩
      · have g2 : (x.f2 == y.f2) = false := beq_eq_false_iff_ne.2 q2
        have HF := Lib.hid (eqT_false (fun h : x = y => q2 (by rw [h])))
        clear q2
        go_enter Tryd.func12, Tryd.ntmps12
        go_wp2
        go_ret
        exact ⟨by rw [HF.out]; rfl, ((Below.refl _ _).alloc (Nat.le_refl _) _).alloc (by simp) _⟩
    · have g1 : (x.f1 == y.f1) = false := beq_eq_false_iff_ne.2 q1
      have HF := Lib.hid (eqT_false (fun h : x = y => q1 (by rw [h])))
      clear q1
      go_enter Tryd.func12, Tryd.ntmps12
      go_wp2
      go_ret
      exact ⟨by rw [HF.out]; rfl, ((Below.refl _ _).alloc (Nat.le_refl _) _).alloc (by simp) _⟩
  · have g0 : (x.f0 == y.f0) = false := beq_eq_false_iff_ne.2 q0
    have HF := Lib.hid (eqT_false (fun h : x = y => q0 (by rw [h])))
    clear q0
    go_enter Tryd.func12, Tryd.ntmps12
    go_wp2
    go_ret
    exact ⟨by rw [HF.out]; rfl, ((Below.refl _ _).alloc (Nat.le_refl _) _).alloc (by simp) _⟩
theorem nequal_all (x : S25) : ∀ y : S25, okT x → okT y → NodeE (eqT x y) x y := by
  refine S25.ind (P := fun x => ∀ y : S25, okT x → okT y → NodeE (eqT x y) x y) (fun x ih y hx hy => ?_) x
  exact equal_step x y hx.here hy.here fun a ha b hb => ih a ha b (hx.kids a ha) (hy.kids b hb)
end Go.Proofs.YtmbockhcmhghlaaDoor.Pr
end
section
namespace Go.Proofs.YtmbockhcmhghlaaDoor.Pr
open Go.RowKit Go.Proofs.YtmbockhcmhghlaaDoorW.PrintWords Go.Proofs.YtmbockhcmhghlaaDoorW.PrintLast Go.Proofs.YtmbockhcmhghlaaDoorW.PrintMore
attribute [local go_sem] max2_int min2_int max_two min_two max_three min_three max_four min_four
set_option linter.unusedVariables false
set_option linter.unusedSimpArgs false
mutual
def capnpref10_Targets.j0 : Nat → Bool → Int → Int → Int → List Int → List (S25) → Option ((List (S25)))
 | 0, _, _, _, _, _, _ => none
 | k + 1, x12, x140000, x140001, x140002, x140003, x140004 => if x12 = true then (some x140004) else (capnpref10_Targets.l0 k ([] : List (S25)) 0 x140000 x140001 x140002 x140003 x140004)
def capnpref10_Targets.l0 : Nat → List (S25) → Int → Int → Int → Int → List Int → List (S25) → Option ((List (S25)))
 | 0, _, _, _, _, _, _, _ => none
 | k + 1, x3, x4, x140000, x140001, x140002, x140003, x140004 => if x4 < (x140004.length : Int) then (if 0 ≤ x4 then (if x3.length + ((rd_T25 x140004 x4).f4).length < 1954687338268 then (capnpref10_Targets.l0 k (x3 ++ ((rd_T25 x140004 x4).f4)) (wrap64 (x4 + 1)) x140000 x140001 x140002 x140003 x140004) else (none)) else (none)) else (some x3)
end
def capnpref10_Targets.f (k : Nat) (a0_0 : Int) (a0_1 : Int) (a0_2 : Int) (l0_3 : List Int) (l0_4 : List (S25)) : Option ((List (S25))) := if a0_0 = 2 then (capnpref10_Targets.j0 k (a0_1 != 7) a0_0 a0_1 a0_2 l0_3 l0_4) else (capnpref10_Targets.j0 k true a0_0 a0_1 a0_2 l0_3 l0_4)
set_option maxHeartbeats 8000000 in
set_option maxRecDepth 100000 in
theorem capnpref10_Targets.calls (k : Nat) (a0_0 : Int) (a0_1 : Int) (a0_2 : Int) (A0_3 : Option Addr) (c0_3 : Nat) (l0_3 : List Int) (P0_4_ : Nat → Prop) (A0_4 : Option Addr) (c0_4 : Nat) (l0_4 : List (S25)) (r : List (S25)) (w : World) (hr0_3 : Kd.C (Kd.int .u8) w A0_3 l0_3.length l0_3) (hc0_3 : l0_3.length ≤ c0_3) (hs0_4 : Kd.V k25 25 w w.heap.size (fun k_ => P0_4_ k_) (.slice A0_4 l0_4.length c0_4) l0_4) (h : capnpref10_Targets.f k a0_0 a0_1 a0_2 l0_3 l0_4 = some r) :
  Calls Tryd.prog 29 #[.agg #[.int .i64 a0_0, .int .i64 a0_1, .int .i64 a0_2, .slice A0_3 l0_3.length c0_3, .slice A0_4 l0_4.length c0_4]] w fun e w' => ∃ v0_ : Value, e = .returned (v0_) ∧ Kd.V k25 25 w' w.heap.size (fun k_ => (P0_4_ k_ ∨ w.heap.size ≤ k_)) v0_ r ∧ Below w.heap.size w w' := by
 have hu25 := Tryd.underlying25
 have HR0_3 := Aside0.mk hr0_3
 have HC0_3 := Aside0.mk hc0_3
 clear hr0_3 hc0_3
 have HO0_4 := Aside0.mk (show Kd.V k25 25 w w.heap.size (fun k_ => (P0_4_ k_ ∨ w.heap.size ≤ k_)) (.slice A0_4 l0_4.length c0_4) l0_4 from Kd.V_mono hs0_4 (fun k_ hk => .inl hk))
 have HB := Aside0.mk (Below.refl w.heap.size w)
 have H : (if a0_0 = 2 then (capnpref10_Targets.j0 k (a0_1 != 7) a0_0 a0_1 a0_2 l0_3 l0_4) else (capnpref10_Targets.j0 k true a0_0 a0_1 a0_2 l0_3 l0_4)) = some r := h
 clear h
 have HC2 := Aside0.mk H
 clear H
 go_enter Tryd.func29, Tryd.ntmps29
 go_upto_region 1 with (first | ((with_reducible refine gate_dst (N := 1) rfl ?_); refine box_event ?hg (N := 1) ?hd (cs := #[.int .i64 a0_0, .int .i64 a0_1, .int .i64 a0_2, .slice A0_3 l0_3.length c0_3, .slice A0_4 l0_4.length c0_4]) (t := 25) ?hr ?_; (case hd => rfl); (case hg => rfl); (case hr => first | (go_simp; done) | (go_simp; rfl)); intro gb139 hg w3 hbox hb; have n0_ := Aside0.mk (Kd.V_below (Kd.V_elderB (by (with_reducible repeat (first | apply Kd.V_alloc | apply Kd.V_drewN | apply Kd.V_drew)); exact HO0_4.out) gb139 (Nat.le_of_eq hg.symm)) hb); have n1_ := Aside0.mk (below_step (by repeat (first | (with_reducible first | exact HB.out | apply below_alloc | apply pw_below_drewN | apply below_drew1) | exact HB.out)) hb); have n2_ := Aside0.mk (hbox); have n3_ := Aside0.mk ((by rw [hg]; exact (below_size (by repeat (first | (with_reducible first | exact HB.out | apply below_alloc | apply pw_below_drewN | apply below_drew1) | exact HB.out))) : w.heap.size ≤ gb139)); have n4_ := Aside0.mk ((by rw [hg]; exact (below_size (by repeat (first | (with_reducible first | exact HB.out | apply below_alloc | apply pw_below_drewN | apply below_drew1) | exact HB.out))) : w.heap.size ≤ gb139)); clear HO0_4; clear HB; have HO0_4 := n0_; have HB := n1_; have BK139 := n2_; have GW139 := n3_; have GE139 := n4_; clear n0_ n1_ n2_ n3_ n4_; clear hb hbox hg))
 (try simp only [Act.put, List.setIfInBounds_toArray, List.set_cons_zero, List.set_cons_succ])
 go_cut [12] (fun v12 wc => ∃ (kq : Nat) (x12_1 : Bool), v12 = .bool x12_1 ∧ Aside0 (capnpref10_Targets.j0 kq x12_1 a0_0 a0_1 a0_2 l0_3 l0_4 = some r) ∧ Aside0 (kq ≤ k) ∧ Aside0 (Kd.V k25 25 wc w.heap.size (fun k_ => (P0_4_ k_ ∨ w.heap.size ≤ k_) ∧ k_ ≠ gb139) (.slice A0_4 l0_4.length c0_4) l0_4) ∧ Aside0 (wc.heap[gb139]? = some (.cells #[.int .i64 a0_0, .int .i64 a0_1, .int .i64 a0_2, (.slice A0_3 l0_3.length c0_3), (.slice A0_4 l0_4.length c0_4)] 25 (0, 0))) ∧ Aside0 (Below w.heap.size w wc))
 case first =>
  have H := HC2.out
  clear HC2
  by_cases c4 : a0_0 = 2
  ·rw [if_pos c4] at H
   have c4b0 : (a0_0 == 2) = true := beq_iff_eq.mpr c4
   have c4b1 : (a0_0 != 2) = false := bne_eq_false_iff_eq.mpr c4
   clear c4
   (first | rw [c4b0] | (simp only [i64_w, i32_w]; rw [c4b0]) | skip)
   have H' := Aside0.mk H
   clear H
   have hcz5_0 : w3.cell? ⟨gb139, 0, none⟩ = some (.int .i64 a0_0) := (blk_cell BK139.out 0).trans rfl
   have hcz5_1 : w3.cell? ⟨gb139, 1, none⟩ = some (.int .i64 a0_1) := (blk_cell BK139.out 1).trans rfl
   have hcz5_2 : w3.cell? ⟨gb139, 2, none⟩ = some (.int .i64 a0_2) := (blk_cell BK139.out 2).trans rfl
   have hcz5_3 : w3.cell? ⟨gb139, 3, none⟩ = some (.slice A0_3 l0_3.length c0_3) := (blk_cell BK139.out 3).trans rfl
   have hcz5_4 : w3.cell? ⟨gb139, 4, none⟩ = some (.slice A0_4 l0_4.length c0_4) := (blk_cell BK139.out 4).trans rfl
   have hfz5_0 := blk_frozen BK139.out 0
   have hfz5_1 := blk_frozen BK139.out 1
   have hfz5_2 := blk_frozen BK139.out 2
   have hfz5_3 := blk_frozen BK139.out 3
   have hfz5_4 := blk_frozen BK139.out 4
   go_wp2
   go_meet
   case rel => exact ⟨_, ((a0_1 != 7)), (by first | rfl | (simp; done) | (simp [*]; done)), H', ⟨by first | omega | exact Nat.le_refl _⟩, ⟨by (with_reducible repeat (first | apply Kd.V_alloc | apply Kd.V_drewN | apply Kd.V_drew)); exact HO0_4.out⟩, ⟨by (with_reducible repeat (first | refine blk_drewN ?_ _ | refine blk_drew ?_ | refine blk_alloc ?_ _)); exact BK139.out⟩, ⟨by repeat (first | (with_reducible first | exact HB.out | apply below_alloc | apply pw_below_drewN | apply below_drew1 | refine below_set ?_ GE139.out) | exact HB.out)⟩⟩
  ·rw [if_neg c4] at H
   have c4b0 : (a0_0 == 2) = false := beq_eq_false_iff_ne.mpr c4
   have c4b1 : (a0_0 != 2) = true := bne_iff_ne.mpr c4
   (first | rw [c4b0] | (simp only [i64_w, i32_w]; rw [c4b0]) | skip)
   have H' := Aside0.mk H
   clear H
   have hcz6_0 : w3.cell? ⟨gb139, 0, none⟩ = some (.int .i64 a0_0) := (blk_cell BK139.out 0).trans rfl
   have hcz6_1 : w3.cell? ⟨gb139, 1, none⟩ = some (.int .i64 a0_1) := (blk_cell BK139.out 1).trans rfl
   have hcz6_2 : w3.cell? ⟨gb139, 2, none⟩ = some (.int .i64 a0_2) := (blk_cell BK139.out 2).trans rfl
   have hcz6_3 : w3.cell? ⟨gb139, 3, none⟩ = some (.slice A0_3 l0_3.length c0_3) := (blk_cell BK139.out 3).trans rfl
   have hcz6_4 : w3.cell? ⟨gb139, 4, none⟩ = some (.slice A0_4 l0_4.length c0_4) := (blk_cell BK139.out 4).trans rfl
   have hfz6_0 := blk_frozen BK139.out 0
   have hfz6_1 := blk_frozen BK139.out 1
   have hfz6_2 := blk_frozen BK139.out 2
   have hfz6_3 := blk_frozen BK139.out 3
   have hfz6_4 := blk_frozen BK139.out 4
   go_wp2
   go_meet
   case rel => exact ⟨_, (true), (by first | rfl | (simp; done) | (simp [*]; done)), H', ⟨by first | omega | exact Nat.le_refl _⟩, ⟨by (with_reducible repeat (first | apply Kd.V_alloc | apply Kd.V_drewN | apply Kd.V_drew)); exact HO0_4.out⟩, ⟨by (with_reducible repeat (first | refine blk_drewN ?_ _ | refine blk_drew ?_ | refine blk_alloc ?_ _)); exact BK139.out⟩, ⟨by repeat (first | (with_reducible first | exact HB.out | apply below_alloc | apply pw_below_drewN | apply below_drew1 | refine below_set ?_ GE139.out) | exact HB.out)⟩⟩
 case rest =>
  clear HC2
  try clear c2
  try clear p2
  try clear c4
  try clear c4b0
  try clear c4b1
  try clear hcz5_0
  try clear hcz5_1
  try clear hcz5_2
  try clear hcz5_3
  try clear hcz5_4
  try clear hcz6_0
  try clear hcz6_1
  try clear hcz6_2
  try clear hcz6_3
  try clear hcz6_4
  try clear hfz5_0
  try clear hfz5_1
  try clear hfz5_2
  try clear hfz5_3
  try clear hfz5_4
  try clear hfz6_0
  try clear hfz6_1
  try clear hfz6_2
  try clear hfz6_3
  try clear hfz6_4
  obtain ⟨kq, x12_1, rfl, HA, HJ1, HO_140004, BK139, HB⟩ := hcut
  cases kq with
  | zero => exact absurd HA.out (by simp [capnpref10_Targets.j0])
  | succ kj1 =>
   have H := HA.out
   clear HA
   simp only [capnpref10_Targets.j0] at H
   by_cases c7 : x12_1 = true
   ·subst c7
    have H1 : (some l0_4) = some r := by rw [if_pos rfl] at H; exact H
    clear H
    have H := H1
    clear H1
    obtain rfl := Option.some.inj H
    have hcz8_0 : wc.cell? ⟨gb139, 0, none⟩ = some (.int .i64 a0_0) := (blk_cell BK139.out 0).trans rfl
    have hcz8_1 : wc.cell? ⟨gb139, 1, none⟩ = some (.int .i64 a0_1) := (blk_cell BK139.out 1).trans rfl
    have hcz8_2 : wc.cell? ⟨gb139, 2, none⟩ = some (.int .i64 a0_2) := (blk_cell BK139.out 2).trans rfl
    have hcz8_3 : wc.cell? ⟨gb139, 3, none⟩ = some (.slice A0_3 l0_3.length c0_3) := (blk_cell BK139.out 3).trans rfl
    have hcz8_4 : wc.cell? ⟨gb139, 4, none⟩ = some (.slice A0_4 l0_4.length c0_4) := (blk_cell BK139.out 4).trans rfl
    have hfz8_0 := blk_frozen BK139.out 0
    have hfz8_1 := blk_frozen BK139.out 1
    have hfz8_2 := blk_frozen BK139.out 2
    have hfz8_3 := blk_frozen BK139.out 3
    have hfz8_4 := blk_frozen BK139.out 4
    go_wp2
    go_ret
    exact ⟨_, by first | rfl | (simp [errW_none, errW_some] <;> rfl) | (simp [*, errW_none, errW_some] <;> rfl), by (with_reducible repeat (first | apply Kd.V_alloc | apply Kd.V_drewN | apply Kd.V_drew)); exact Kd.V_mono HO_140004.out (fun _ hk => hk.1), by repeat (first | (with_reducible first | exact HB.out | apply below_alloc | apply pw_below_drewN | apply below_drew1 | refine below_set ?_ GE139.out) | exact HB.out)⟩
   ·replace c7 := Bool.eq_false_iff.mpr c7
    subst c7
    have H1 : (capnpref10_Targets.l0 kj1 ([] : List (S25)) 0 a0_0 a0_1 a0_2 l0_3 l0_4) = some r := by rw [if_neg (show ¬ (false = true) by decide)] at H; exact H
    clear H
    have H := H1
    clear H1
    have H' := Aside0.mk H
    clear H
    go_wp2
    go_loopg [3, 4] kj1 (fun kq v3 v4 w' => ∃ (x3_2 : List (S25)) (x4_2 : Int), v4 = .int .i64 x4_2 ∧ Aside0 (capnpref10_Targets.l0 kq x3_2 x4_2 a0_0 a0_1 a0_2 l0_3 l0_4 = some r) ∧ Aside0 (kq ≤ kj1) ∧ Aside0 (Kd.N k25 25 w' w.heap.size (fun k_ => (P0_4_ k_ ∨ w.heap.size ≤ k_) ∧ k_ ≠ gb139) v3 x3_2) ∧ Aside0 (Kd.V k25 25 w' w.heap.size (fun k_ => (P0_4_ k_ ∨ w.heap.size ≤ k_) ∧ some k_ ≠ (v3 : Value).ownBlock ∧ k_ ≠ gb139) (.slice A0_4 l0_4.length c0_4) l0_4) ∧ Aside0 (w'.heap[gb139]? = some (.cells #[.int .i64 a0_0, .int .i64 a0_1, .int .i64 a0_2, (.slice A0_3 l0_3.length c0_3), (.slice A0_4 l0_4.length c0_4)] 25 (0, 0))) ∧ Aside0 (Below w.heap.size w w'))
    case atStart => exact ⟨(([] : List (S25))), (0), (by first | rfl | (simp; done) | (simp [*]; done)), H', ⟨Nat.le_refl _⟩, ⟨by first | exact Kd.R_nil _ _ _ _ _ | exact Kd.N_nil _ _ _ _ _ | exact Kd.V_nil _ _ _ _ _ | exact Kd.Q_nil _ _ _ _ _ | exact Kd.S_nil _ _ _ _ _⟩, ⟨by (with_reducible repeat (first | apply Kd.V_alloc | apply Kd.V_drewN | apply Kd.V_drew)); exact Kd.V_mono HO_140004.out (fun _ hk => ⟨hk.1, ⟨(by simp [Value.ownBlock]), hk.2⟩⟩)⟩, ⟨by (with_reducible repeat (first | refine blk_drewN ?_ _ | refine blk_drew ?_ | refine blk_alloc ?_ _)); exact BK139.out⟩, ⟨by repeat (first | (with_reducible first | exact HB.out | apply below_alloc | apply pw_below_drewN | apply below_drew1 | refine below_set ?_ GE139.out) | exact HB.out)⟩⟩
    case round =>
     clear H'
     try clear c2
     try clear p2
     try clear c4
     try clear c4b0
     try clear c4b1
     try clear c7
     try clear hcz5_0
     try clear hcz5_1
     try clear hcz5_2
     try clear hcz5_3
     try clear hcz5_4
     try clear hcz6_0
     try clear hcz6_1
     try clear hcz6_2
     try clear hcz6_3
     try clear hcz6_4
     try clear hcz8_0
     try clear hcz8_1
     try clear hcz8_2
     try clear hcz8_3
     try clear hcz8_4
     try clear hfz5_0
     try clear hfz5_1
     try clear hfz5_2
     try clear hfz5_3
     try clear hfz5_4
     try clear hfz6_0
     try clear hfz6_1
     try clear hfz6_2
     try clear hfz6_3
     try clear hfz6_4
     try clear hfz8_0
     try clear hfz8_1
     try clear hfz8_2
     try clear hfz8_3
     try clear hfz8_4
     try clear p2
     try clear BK139
     obtain ⟨x3_2, x4_2, rfl, HA, HK2, HO_3, HO_140004, BK139, HB⟩ := hrel
     cases gk with
     | zero => exact absurd HA.out (by simp [capnpref10_Targets.l0])
     | succ k2 =>
      have H := HA.out
      clear HA
      simp only [capnpref10_Targets.l0] at H
      by_cases c9 : x4_2 < (l0_4.length : Int)
      ·rw [if_pos c9] at H
       have c9b0 : decide (x4_2 < (l0_4.length : Int)) = true := decide_eq_true c9
       clear c9
       by_cases c10 : 0 ≤ x4_2
       ·rw [if_pos c10] at H
        have c10b0 : decide (0 ≤ x4_2) = true := decide_eq_true c10
        clear c10
        by_cases c11 : x3_2.length + ((rd_T25 l0_4 x4_2).f4).length < 1954687338268
        ·rw [if_pos c11] at H
         have LMc11 := Aside0.mk c11
         clear c11
         obtain ⟨y141, hy141⟩ : ∃ y_ : List (S25), y_ = (x3_2 ++ ((rd_T25 l0_4 x4_2).f4)) := ⟨_, rfl⟩
         replace H : (capnpref10_Targets.l0 k2 y141 (wrap64 (x4_2 + 1)) a0_0 a0_1 a0_2 l0_3 l0_4) = some r := by first | (rw [hy141]; with_reducible exact H) | (have H2_ := (Option.bind_some _ _).symm.trans H; rw [hy141]; with_reducible exact H2_) | (have H2_ := (Option.bind_some _ _).symm.trans H; with_reducible exact H2_) | with_reducible exact H | (rw [hy141]; exact H) | exact H
         have Ny141 := Aside0.mk hy141
         clear hy141
         have H' := Aside0.mk H
         clear H
         have hcz12_0 : wr.cell? ⟨gb139, 0, none⟩ = some (.int .i64 a0_0) := (blk_cell BK139.out 0).trans rfl
         have hcz12_1 : wr.cell? ⟨gb139, 1, none⟩ = some (.int .i64 a0_1) := (blk_cell BK139.out 1).trans rfl
         have hcz12_2 : wr.cell? ⟨gb139, 2, none⟩ = some (.int .i64 a0_2) := (blk_cell BK139.out 2).trans rfl
         have hcz12_3 : wr.cell? ⟨gb139, 3, none⟩ = some (.slice A0_3 l0_3.length c0_3) := (blk_cell BK139.out 3).trans rfl
         have hcz12_4 : wr.cell? ⟨gb139, 4, none⟩ = some (.slice A0_4 l0_4.length c0_4) := (blk_cell BK139.out 4).trans rfl
         have hfz12_0 := blk_frozen BK139.out 0
         have hfz12_1 := blk_frozen BK139.out 1
         have hfz12_2 := blk_frozen BK139.out 2
         have hfz12_3 := blk_frozen BK139.out 3
         have hfz12_4 := blk_frozen BK139.out 4
         have p140 : 0 ≤ (x4_2 : Int) := of_decide_eq_true (by first | (with_reducible assumption) | assumption)
         have q140 : x4_2 < (l0_4.length : Int) := of_decide_eq_true (by first | (with_reducible assumption) | assumption)
         obtain ⟨ad140, A140_3, c140_3, A140_4, c140_4, e140, hx140_0, hx140_1, hx140_2, hx140_3, hx140_4, hl140_3, hi140_3, hl140_4, hi140_4⟩ := at_T25 (Kd.V_reads' HO_140004.out).2.2 x4_2 p140 q140
         cases e140
         obtain ⟨ce140, hce140, hMe140, hcc140⟩ := Kd.V_get HO_140004.out z25 x4_2 p140 (by first | exact q140 | exact of_decide_eq_true (by first | (with_reducible assumption) | assumption) | (have e_ := (Kd.V_reads' HO_140004.out).1; omega))
         obtain ⟨ua140_3, uc140_3, ua140_4, uc140_4, rfl, ul140_3, ge140_3, ul140_4, ge140_4⟩ := k25_openF hMe140
         have hv140_3 := hcc140 3 _ rfl
         rw [add_field _ _ 3 (by omega)] at hv140_3
         replace hv140_3 := Option.some.inj (hv140_3.symm.trans hx140_3)
         injection hv140_3 with hva_ hvn_ hvc_
         rw [hva_] at ge140_3
         rw [hvc_] at ul140_3
         have HL140_3 := Aside0.mk (show Kd.V (Kd.int .u8) 5 _ w.heap.size _ _ ((rd_T25 l0_4 x4_2).f3) from Kd.V_mk ul140_3 ge140_3)
         clear hva_ hvn_ hvc_ ge140_3 ul140_3
         have hv140_4 := hcc140 4 _ rfl
         rw [add_field _ _ 4 (by omega)] at hv140_4
         replace hv140_4 := Option.some.inj (hv140_4.symm.trans hx140_4)
         injection hv140_4 with hva_ hvn_ hvc_
         rw [hva_] at ge140_4
         rw [hvc_] at ul140_4
         have HL140_4 := Aside0.mk (show Kd.V k25 25 _ w.heap.size _ _ ((rd_T25 l0_4 x4_2).f4) from Kd.V_mk ul140_4 ge140_4)
         clear hva_ hvn_ hvc_ ge140_4 ul140_4
         clear hcc140 hce140
         have HR140_3 := Aside0.mk hi140_3
         have HC140_3 := Aside0.mk hl140_3
         clear hi140_3 hl140_3
         have HR140_4 := Aside0.mk hi140_4
         have HC140_4 := Aside0.mk hl140_4
         clear hi140_4 hl140_4
         replace p140 := eq_true p140
         replace q140 := eq_true q140
         go_wp2_with (first | ((with_reducible refine gate_builtin (b := .append) (xs := #[.tmp 22, .tmp 28]) rfl ?_); at_builtin; refine Kd.N_append_rows k25 (w0 := w) w.heap.size rfl (.tmp 22) (.tmp 28) 23 25 (.agg #[(.int .i64 0), (.int .i64 0), (.int .i64 0), (.slice none 0 0), (.slice none 0 0)]) 72 rfl Tryd.underlying23 info25 rfl (by decide) (by omega) u3 x3_2 ((rd_T25 l0_4 x4_2).f4) _ _ _ (fun k_ => (P0_4_ k_ ∨ w.heap.size ≤ k_) ∧ k_ ≠ gb139) (fun k_ => ((fun k_ => (P0_4_ k_ ∨ w.heap.size ≤ k_) ∧ k_ ≠ gb139)) k_ ∧ some k_ ≠ (u3 : Value).ownBlock) rfl rfl ?aO ?aR (fun _ hk => hk) ?aF ?aB ?aS ?aL ?_; (case aR => exact (by skip; exact Kd.V_F (Kd.V_mono (ok' := (fun k_ => ((fun k_ => (P0_4_ k_ ∨ w.heap.size ≤ k_) ∧ k_ ≠ gb139)) k_ ∧ some k_ ≠ (u3 : Value).ownBlock)) (HL140_4.out) (fun k_ hk => ⟨⟨hk.1, hk.2.2⟩, hk.2.1⟩)))); (case aB => exact (by repeat (first | (with_reducible first | exact HB.out | apply below_alloc | apply pw_below_drewN | apply below_drew1 | refine below_set ?_ GE139.out) | exact HB.out))); (case aF => exact (fun k_ hk => ⟨(.inr (Nat.le_trans (below_size (by repeat (first | (with_reducible first | exact HB.out | apply below_alloc | apply pw_below_drewN | apply below_drew1 | refine below_set ?_ GE139.out) | exact HB.out))) hk)), Kd.freshB (g := gb139) (o := .cells #[.int .i64 a0_0, .int .i64 a0_1, .int .i64 a0_2, .slice A0_3 l0_3.length c0_3, .slice (some ad140) l0_4.length c0_4] 25 (0, 0)) (by (with_reducible repeat (first | refine blk_drewN ?_ _ | refine blk_drew ?_ | refine blk_alloc ?_ _)); exact BK139.out) k_ hk⟩)); (case aO => exact (by (with_reducible repeat (first | apply Kd.N_alloc | apply Kd.N_drewN | apply Kd.N_drew)); exact HO_3.out)); (case aS => exact (below_size (by repeat (first | (with_reducible first | exact HB.out | apply below_alloc | apply pw_below_drewN | apply below_drew1 | refine below_set ?_ GE139.out) | exact HB.out)))); (case aL => have := LMc11.out; omega); intro v142 w13 ho hb hg hat; rw [← Ny141.out] at ho; have n0_ := Aside0.mk (Kd.V_afterv (ok := (fun k_ => (P0_4_ k_ ∨ w.heap.size ≤ k_) ∧ k_ ≠ gb139)) (by (with_reducible repeat (first | apply Kd.V_alloc | apply Kd.V_drewN | apply Kd.V_drew)); exact Kd.V_mono HO_140004.out (fun _ hk => ⟨⟨hk.1, hk.2.2⟩, hk.2.1⟩)) hg hat); have n1_ := Aside0.mk (blk_grown (g := gb139) (o := .cells #[.int .i64 a0_0, .int .i64 a0_1, .int .i64 a0_2, .slice A0_3 l0_3.length c0_3, .slice (some ad140) l0_4.length c0_4] 25 (0, 0)) (by (with_reducible repeat (first | refine blk_drewN ?_ _ | refine blk_drew ?_ | refine blk_alloc ?_ _)); exact BK139.out) hg (Kd.N_away HO_3.out (fun _ hk => hk.2))); have n2_ := Aside0.mk (Kd.V_afterv (ok := (fun k_ => (P0_4_ k_ ∨ w.heap.size ≤ k_) ∧ k_ ≠ gb139)) (by (with_reducible repeat (first | apply Kd.V_alloc | apply Kd.V_drewN | apply Kd.V_drew)); exact Kd.V_mono HL140_3.out (fun _ hk => ⟨⟨hk.1, hk.2.2⟩, hk.2.1⟩)) hg hat); have n3_ := Aside0.mk (Kd.V_afterv (ok := (fun k_ => (P0_4_ k_ ∨ w.heap.size ≤ k_) ∧ k_ ≠ gb139)) (by (with_reducible repeat (first | apply Kd.V_alloc | apply Kd.V_drewN | apply Kd.V_drew)); exact Kd.V_mono HL140_4.out (fun _ hk => ⟨⟨hk.1, hk.2.2⟩, hk.2.1⟩)) hg hat); have n4_ := Aside0.mk (hb); have n5_ := Aside0.mk (ho); clear HO_140004; clear BK139; clear HL140_3; clear HL140_4; clear HB; clear HO_3; have HO_140004 := n0_; have BK139 := n1_; have HL140_3 := n2_; have HL140_4 := n3_; have HB := n4_; have HO143 := n5_; clear n0_ n1_ n2_ n3_ n4_ n5_; clear ho hb hg hat))
         go_roundg k2
         case measure => have := HJ1.out; have := HK2.out; omega
         case rel => exact ⟨(y141), (wrap64 (x4_2 + 1)), (by first | rfl | (simp; done) | (simp [*]; done)), H', ⟨by have := HJ1.out; have := HK2.out; omega⟩, ⟨by (with_reducible repeat (first | apply Kd.N_alloc | apply Kd.N_drewN | apply Kd.N_drew)); exact HO143.out⟩, ⟨by (with_reducible repeat (first | apply Kd.V_alloc | apply Kd.V_drewN | apply Kd.V_drew)); exact Kd.V_mono HO_140004.out (fun _ hk => ⟨hk.1.1, ⟨hk.2, hk.1.2⟩⟩)⟩, ⟨by (with_reducible repeat (first | refine blk_drewN ?_ _ | refine blk_drew ?_ | refine blk_alloc ?_ _)); exact BK139.out⟩, ⟨by repeat (first | (with_reducible first | exact HB.out | apply below_alloc | apply pw_below_drewN | apply below_drew1 | refine below_set ?_ GE139.out) | exact HB.out)⟩⟩
        ·rw [if_neg c11] at H
         exact absurd H (by simp)
       ·rw [if_neg c10] at H
        exact absurd H (by simp)
      ·rw [if_neg c9] at H
       have c9b0 : decide (x4_2 < (l0_4.length : Int)) = false := decide_eq_false c9
       clear c9
       obtain rfl := Option.some.inj H
       have hcz14_0 : wr.cell? ⟨gb139, 0, none⟩ = some (.int .i64 a0_0) := (blk_cell BK139.out 0).trans rfl
       have hcz14_1 : wr.cell? ⟨gb139, 1, none⟩ = some (.int .i64 a0_1) := (blk_cell BK139.out 1).trans rfl
       have hcz14_2 : wr.cell? ⟨gb139, 2, none⟩ = some (.int .i64 a0_2) := (blk_cell BK139.out 2).trans rfl
       have hcz14_3 : wr.cell? ⟨gb139, 3, none⟩ = some (.slice A0_3 l0_3.length c0_3) := (blk_cell BK139.out 3).trans rfl
       have hcz14_4 : wr.cell? ⟨gb139, 4, none⟩ = some (.slice A0_4 l0_4.length c0_4) := (blk_cell BK139.out 4).trans rfl
       have hfz14_0 := blk_frozen BK139.out 0
       have hfz14_1 := blk_frozen BK139.out 1
       have hfz14_2 := blk_frozen BK139.out 2
       have hfz14_3 := blk_frozen BK139.out 3
       have hfz14_4 := blk_frozen BK139.out 4
       go_wp2
       go_ret
       exact ⟨_, by first | rfl | (simp [errW_none, errW_some] <;> rfl) | (simp [*, errW_none, errW_some] <;> rfl), Kd.N_V (by (with_reducible repeat (first | apply Kd.N_alloc | apply Kd.N_drewN | apply Kd.N_drew)); exact Kd.N_mono HO_3.out (fun _ hk => hk.1)), by repeat (first | (with_reducible first | exact HB.out | apply below_alloc | apply pw_below_drewN | apply below_drew1 | refine below_set ?_ GE139.out) | exact HB.out)⟩
mutual
def capnpref10_Depth.l0 : Nat → List (S25) → Int → Int → Option (Int)
 | 0, _, _, _ => none
 | k + 1, x3, x4, x5 => if x5 < (x3.length : Int) then (if 0 ≤ x5 then ((capnpref10_Depth.f k ((rd_T25 x3 x5).f0) ((rd_T25 x3 x5).f1) ((rd_T25 x3 x5).f2) ((rd_T25 x3 x5).f3) ((rd_T25 x3 x5).f4)).bind fun t149 => (if t149 > x4 then (capnpref10_Depth.l0 k x3 t149 (wrap64 (x5 + 1))) else (capnpref10_Depth.l0 k x3 x4 (wrap64 (x5 + 1))))) else (none)) else (some (wrap64 (1 + x4)))
def capnpref10_Depth.f : Nat → Int → Int → Int → List Int → List (S25) → Option (Int)
 | 0, _, _, _, _, _ => none
 | k + 1, a0_0, a0_1, a0_2, l0_3, l0_4 => if a0_0 = 0 then (some 0) else ((capnpref10_Targets.f k a0_0 a0_1 a0_2 l0_3 l0_4).bind fun t145 => (capnpref10_Depth.l0 k t145 0 0))
end
end Go.Proofs.YtmbockhcmhghlaaDoor.Pr
end
