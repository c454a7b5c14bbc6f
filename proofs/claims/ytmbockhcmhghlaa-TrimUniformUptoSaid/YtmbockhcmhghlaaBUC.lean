/- A part of the proof of YtmbockhcmhghlaaUniformRow (the texts that it stands on, gathered; declarations that nothing uses are left out). -/
import Derived.Test.YtmbockhcmhghlaaBUB
import Derived.Below
import Derived.Deep.Draws
import Derived.Deep.AppendLies
import Derived.Maps.AppendAt
import Derived.OwnWalk
import Derived.Laws.BytesArg
import Derived.Laws.MakeOwn
import Derived.Laws.OwnMore
import Derived.Deep.OwnRows
import Derived.Tactics
import Derived.Lib.ConvBytes
import Derived.Laws.Slices
import Derived.WalkKit
import Derived.KernelRfl
import Derived.RowKit3
import Derived.Deep.LoopGhost
import Derived.Deep.QuietTactic
import Derived.BigQuiet
import Derived.WideLaws
import Derived.Deep.DeepCutAuto
import Derived.Deep.CutBlock
import Derived.Deep.RegionHeld3
import Derived.Laws.Rows
import Derived.Lib.AppendStr
import Derived.ArgAppend
import Derived.Laws.IdiomCopy
import Derived.RowKit
import Derived.OrdersHeld
import Derived.Laws.BitsLemmas
import Derived.Laws.StructEq
import Derived.SizedLaws
import Derived.ChangeSlices
import Derived.Test.YtmbockhcmhghlaaProg
import Derived.Lib.Hide
import Derived.IntWalk
import Derived.Test.YtmbockhcmhghlaaRows
import Derived.ProofKit
import Derived.OpenShut
import Derived.ChangeOld
import Derived.Lib.SmallJoins
import Derived.DataReads
import Derived.ShutString
import Derived.JoinedCond
section
namespace Go.Proofs.Ytmbockhcmhghlaa.Pr
open Go.RowKit Go.Proofs.YtmbockhcmhghlaaW.PrintWords Go.Proofs.YtmbockhcmhghlaaW.PrintLast Go.Proofs.YtmbockhcmhghlaaW.PrintMore
attribute [local go_sem] max2_int min2_int max_two min_two max_three min_three max_four min_four
set_option linter.unusedVariables false
set_option linter.unusedSimpArgs false
set_option maxHeartbeats 8000000 in
set_option maxRecDepth 100000 in
theorem capnpref10_Valid.calls (k : Nat) : ∀ (a0_0 : Int) (a0_1 : Int) (a0_2 : Int) (A0_3 : Option Addr) (c0_3 : Nat) (l0_3 : List Int) (A0_4 : Option Addr) (c0_4 : Nat) (l0_4 : List (S25)) (r : Bool) (w : World) (hr0_3 : Kd.C (Kd.int .u8) w A0_3 l0_3.length l0_3) (hc0_3 : l0_3.length ≤ c0_3) (hr0_4 : Kd.C k25 w A0_4 l0_4.length l0_4) (hc0_4 : l0_4.length ≤ c0_4) (h : capnpref10_Valid.f k a0_0 a0_1 a0_2 l0_3 l0_4 = some r),
  Calls Try.prog 10 #[.agg #[.int .i64 a0_0, .int .i64 a0_1, .int .i64 a0_2, .slice A0_3 l0_3.length c0_3, .slice A0_4 l0_4.length c0_4]] w fun e w' => e = .returned (.bool r) ∧ Below w.heap.size w w' := by
 induction k using Nat.strongRecOn with
 | _ k ih =>
 intro a0_0 a0_1 a0_2 A0_3 c0_3 l0_3 A0_4 c0_4 l0_4 r w hr0_3 hc0_3 hr0_4 hc0_4 h
 cases k with
 | zero => exact absurd h (by simp [capnpref10_Valid.f])
 | succ k =>
 simp only [capnpref10_Valid.f] at h
 have hu25 := Try.underlying25
 have HR0_3 := Aside0.mk hr0_3
 have HC0_3 := Aside0.mk hc0_3
 clear hr0_3 hc0_3
 have HR0_4 := Aside0.mk hr0_4
 have HC0_4 := Aside0.mk hc0_4
 clear hr0_4 hc0_4
 have HB := Aside0.mk (Below.refl w.heap.size w)
 have H : (capnpref10_Valid.l0 k 0 a0_0 a0_1 a0_2 l0_3 l0_4) = some r := h
 clear h
 have H' := Aside0.mk H
 clear H
 go_enter Try.func10, Try.ntmps10
 go_wp2_with (first | ((with_reducible refine gate_dst (N := 1) rfl ?_); (try (refine gate_guard (by rfl) ?_; dsimp only)); refine box_event ?hg (N := 1) ?hd (cs := #[.int .i64 a0_0, .int .i64 a0_1, .int .i64 a0_2, .slice A0_3 l0_3.length c0_3, .slice A0_4 l0_4.length c0_4]) (t := 25) ?hr ?_; (case hd => rfl); (case hg => rfl); (case hr => first | (go_simp; done) | (go_simp; rfl)); intro gb157 hg w2 hbox hb; have n0_ := Aside0.mk (below_step (by repeat (first | (with_reducible first | exact HB.out | apply below_alloc | apply pw_below_drewN | apply below_drew1) | exact HB.out)) hb); have n1_ := Aside0.mk (hbox); have n2_ := Aside0.mk ((by rw [hg]; exact (below_size (by repeat (first | (with_reducible first | exact HB.out | apply below_alloc | apply pw_below_drewN | apply below_drew1) | exact HB.out))) : w.heap.size ≤ gb157)); have n3_ := Aside0.mk ((by rw [hg]; exact (below_size (by repeat (first | (with_reducible first | exact HB.out | apply below_alloc | apply pw_below_drewN | apply below_drew1) | exact HB.out))) : w.heap.size ≤ gb157)); clear HB; have HB := n0_; have BK157 := n1_; have GW157 := n2_; have GE157 := n3_; clear n0_ n1_ n2_ n3_; clear hb hbox hg))
 go_loopg [3] k (fun kq v3 w' => ∃ (x3_1 : Int), v3 = .int .i64 x3_1 ∧ Aside0 (capnpref10_Valid.l0 kq x3_1 a0_0 a0_1 a0_2 l0_3 l0_4 = some r) ∧ Aside0 (kq ≤ k) ∧ Aside0 (w'.heap[gb157]? = some (.cells #[.int .i64 a0_0, .int .i64 a0_1, .int .i64 a0_2, (.slice A0_3 l0_3.length c0_3), (.slice A0_4 l0_4.length c0_4)] 25 (0, 0))) ∧ Aside0 (Below w.heap.size w w'))
 case atStart => exact ⟨(0), (by first | rfl | (simp; done) | (simp [*]; done)), H', ⟨Nat.le_refl _⟩, ⟨by (with_reducible repeat (first | refine blk_drewN ?_ _ | refine blk_drew ?_ | refine blk_alloc ?_ _)); exact BK157.out⟩, ⟨by repeat (first | (with_reducible first | exact HB.out | apply below_alloc | apply pw_below_drewN | apply below_drew1 | refine below_set ?_ GE157.out) | exact HB.out)⟩⟩
 case round =>
  clear H'
  try clear c1
  try clear p2
  try clear BK157
  obtain ⟨x3_1, rfl, HA, HK1, BK157, HB⟩ := hrel
  cases gk with
  | zero => exact absurd HA.out (by simp [capnpref10_Valid.l0])
  | succ k1 =>
   have H := HA.out
   clear HA
   simp only [capnpref10_Valid.l0] at H
   by_cases c3 : x3_1 < (l0_4.length : Int)
   ·rw [if_pos c3] at H
    have c3b0 : decide (x3_1 < (l0_4.length : Int)) = true := decide_eq_true c3
    clear c3
    by_cases c4 : 0 ≤ x3_1
    ·rw [if_pos c4] at H
     have c4b0 : decide (0 ≤ x3_1) = true := decide_eq_true c4
     clear c4
     replace H := Option.bind_eq_some_iff.mp H
     obtain ⟨t159, A50, H⟩ := H
     replace H : (if t159 = true then (if a0_0 = 2 then (if a0_1 = 7 then (if ((rd_T25 l0_4 x3_1).f0) = 1 then (capnpref10_Valid.l0 k1 (wrap64 (x3_1 + 1)) a0_0 a0_1 a0_2 l0_3 l0_4) else (some false)) else (capnpref10_Valid.l0 k1 (wrap64 (x3_1 + 1)) a0_0 a0_1 a0_2 l0_3 l0_4)) else (capnpref10_Valid.l0 k1 (wrap64 (x3_1 + 1)) a0_0 a0_1 a0_2 l0_3 l0_4)) else (some false)) = some r := H
     have A5 := Aside0.mk A50
     clear A50
     by_cases c6 : t159 = true
     ·subst c6
      have H1 : (if a0_0 = 2 then (if a0_1 = 7 then (if ((rd_T25 l0_4 x3_1).f0) = 1 then (capnpref10_Valid.l0 k1 (wrap64 (x3_1 + 1)) a0_0 a0_1 a0_2 l0_3 l0_4) else (some false)) else (capnpref10_Valid.l0 k1 (wrap64 (x3_1 + 1)) a0_0 a0_1 a0_2 l0_3 l0_4)) else (capnpref10_Valid.l0 k1 (wrap64 (x3_1 + 1)) a0_0 a0_1 a0_2 l0_3 l0_4)) = some r := by rw [if_pos rfl] at H; exact H
      clear H
      have H := H1
      clear H1
      by_cases c7 : a0_0 = 2
      ·rw [if_pos c7] at H
       have c7b0 : (a0_0 == 2) = true := beq_iff_eq.mpr c7
       have c7b1 : (a0_0 != 2) = false := bne_eq_false_iff_eq.mpr c7
       clear c7
       by_cases c8 : a0_1 = 7
       ·rw [if_pos c8] at H
        have c8b0 : (a0_1 == 7) = true := beq_iff_eq.mpr c8
        have c8b1 : (a0_1 != 7) = false := bne_eq_false_iff_eq.mpr c8
        clear c8
        by_cases c9 : ((rd_T25 l0_4 x3_1).f0) = 1
        ·rw [if_pos c9] at H
         have c9b0 : (((rd_T25 l0_4 x3_1).f0) == 1) = true := beq_iff_eq.mpr c9
         have c9b1 : (((rd_T25 l0_4 x3_1).f0) != 1) = false := bne_eq_false_iff_eq.mpr c9
         clear c9
         have H' := Aside0.mk H
         clear H
         have hcz10_0 : wr.cell? ⟨gb157, 0, none⟩ = some (.int .i64 a0_0) := (blk_cell BK157.out 0).trans rfl
         have hcz10_1 : wr.cell? ⟨gb157, 1, none⟩ = some (.int .i64 a0_1) := (blk_cell BK157.out 1).trans rfl
         have hcz10_2 : wr.cell? ⟨gb157, 2, none⟩ = some (.int .i64 a0_2) := (blk_cell BK157.out 2).trans rfl
         have hcz10_3 : wr.cell? ⟨gb157, 3, none⟩ = some (.slice A0_3 l0_3.length c0_3) := (blk_cell BK157.out 3).trans rfl
         have hcz10_4 : wr.cell? ⟨gb157, 4, none⟩ = some (.slice A0_4 l0_4.length c0_4) := (blk_cell BK157.out 4).trans rfl
         have hfz10_0 := blk_frozen BK157.out 0
         have hfz10_1 := blk_frozen BK157.out 1
         have hfz10_2 := blk_frozen BK157.out 2
         have hfz10_3 := blk_frozen BK157.out 3
         have hfz10_4 := blk_frozen BK157.out 4
         have p158 : 0 ≤ (x3_1 : Int) := of_decide_eq_true (by first | (with_reducible assumption) | assumption)
         have q158 : x3_1 < (l0_4.length : Int) := of_decide_eq_true (by first | (with_reducible assumption) | assumption)
         obtain ⟨ad158, A158_3, c158_3, A158_4, c158_4, e158, hx158_0, hx158_1, hx158_2, hx158_3, hx158_4, hl158_3, hi158_3, hl158_4, hi158_4⟩ := at_T25 HR0_4.out x3_1 p158 q158
         cases e158
         replace hx158_0 := (HB.out.cell (World.block_lt_of_cell? w _ hx158_0)).trans hx158_0
         replace hx158_1 := (HB.out.cell (World.block_lt_of_cell? w _ hx158_1)).trans hx158_1
         replace hx158_2 := (HB.out.cell (World.block_lt_of_cell? w _ hx158_2)).trans hx158_2
         replace hx158_3 := (HB.out.cell (World.block_lt_of_cell? w _ hx158_3)).trans hx158_3
         replace hx158_4 := (HB.out.cell (World.block_lt_of_cell? w _ hx158_4)).trans hx158_4
         have HR158_3 := Aside0.mk hi158_3
         have HC158_3 := Aside0.mk hl158_3
         clear hi158_3 hl158_3
         have HR158_4 := Aside0.mk hi158_4
         have HC158_4 := Aside0.mk hl158_4
         clear hi158_4 hl158_4
         replace p158 := eq_true p158
         replace q158 := eq_true q158
         go_wp2_with (first | ((with_reducible refine gate_callee (f := 10) rfl ?_); refine goesL_ (some 16) rfl rfl Try.func10 (by kernel_rfl) rfl #[.agg #[.int .i64 ((rd_T25 l0_4 x3_1).f0), .int .i64 ((rd_T25 l0_4 x3_1).f1), .int .i64 ((rd_T25 l0_4 x3_1).f2), .slice A158_3 ((rd_T25 l0_4 x3_1).f3).length c158_3, .slice A158_4 ((rd_T25 l0_4 x3_1).f4).length c158_4]] rfl (by (try simp only [List.map_toArray, List.map_cons, List.map_nil]); first | done | rfl | (simp only [List.length_drop, List.length_take]; rfl)) ?_; (with_reducible refine (ih k1 (by have := HK1.out; omega) ((rd_T25 l0_4 x3_1).f0) ((rd_T25 l0_4 x3_1).f1) ((rd_T25 l0_4 x3_1).f2) _ _ ((rd_T25 l0_4 x3_1).f3) _ _ ((rd_T25 l0_4 x3_1).f4) true _ ?side1 ?side2 ?side3 ?side4 A5.out).mono ?_); (case side1 => repeat (first | exact (Kd.C_below HR158_3.out HB.out) | (with_reducible refine Kd.C_alloc ?_ _) | (with_reducible refine Kd.C_drewN ?_ _) | (with_reducible refine Kd.C_drew ?_))); (case side2 => exact HC158_3.out); (case side3 => repeat (first | exact (Kd.C_below HR158_4.out HB.out) | (with_reducible refine Kd.C_alloc ?_ _) | (with_reducible refine Kd.C_drewN ?_ _) | (with_reducible refine Kd.C_drew ?_))); (case side4 => exact HC158_4.out); rintro e w11 ⟨rfl, hb⟩; refine ⟨_, rfl, ?_⟩; have n0_ := Aside0.mk (blk_below (g := gb157) (o := .cells #[.int .i64 a0_0, .int .i64 a0_1, .int .i64 a0_2, .slice A0_3 l0_3.length c0_3, .slice (some ad158) l0_4.length c0_4] 25 (0, 0)) (by (with_reducible repeat (first | refine blk_drewN ?_ _ | refine blk_drew ?_ | refine blk_alloc ?_ _)); exact BK157.out) hb); have n1_ := Aside0.mk (below_step (by repeat (first | (with_reducible first | exact HB.out | apply below_alloc | apply pw_below_drewN | apply below_drew1 | refine below_set ?_ GE157.out) | exact HB.out)) hb); clear BK157; clear HB; have BK157 := n0_; have HB := n1_; clear n0_ n1_; (try clear hb); (try clear hb2); (try clear hk); (try clear hi); have hcz12_0 : w11.cell? ⟨gb157, 0, none⟩ = some (.int .i64 a0_0) := (blk_cell BK157.out 0).trans rfl; have hcz12_1 : w11.cell? ⟨gb157, 1, none⟩ = some (.int .i64 a0_1) := (blk_cell BK157.out 1).trans rfl; have hcz12_2 : w11.cell? ⟨gb157, 2, none⟩ = some (.int .i64 a0_2) := (blk_cell BK157.out 2).trans rfl; have hcz12_3 : w11.cell? ⟨gb157, 3, none⟩ = some (.slice A0_3 l0_3.length c0_3) := (blk_cell BK157.out 3).trans rfl; have hcz12_4 : w11.cell? ⟨gb157, 4, none⟩ = some (.slice (some ad158) l0_4.length c0_4) := (blk_cell BK157.out 4).trans rfl; have hfz12_0 := blk_frozen BK157.out 0; have hfz12_1 := blk_frozen BK157.out 1; have hfz12_2 := blk_frozen BK157.out 2; have hfz12_3 := blk_frozen BK157.out 3; have hfz12_4 := blk_frozen BK157.out 4; have p160 : 0 ≤ (x3_1 : Int) := of_decide_eq_true (by first | (with_reducible assumption) | assumption); have q160 : x3_1 < (l0_4.length : Int) := of_decide_eq_true (by first | (with_reducible assumption) | assumption); obtain ⟨ad160, A160_3, c160_3, A160_4, c160_4, e160, hx160_0, hx160_1, hx160_2, hx160_3, hx160_4, hl160_3, hi160_3, hl160_4, hi160_4⟩ := at_T25 HR0_4.out x3_1 p160 q160; obtain rfl : ad158 = ad160 := (by injection e160); replace hx160_0 := (HB.out.cell (World.block_lt_of_cell? w _ hx160_0)).trans hx160_0; replace hx160_1 := (HB.out.cell (World.block_lt_of_cell? w _ hx160_1)).trans hx160_1; replace hx160_2 := (HB.out.cell (World.block_lt_of_cell? w _ hx160_2)).trans hx160_2; replace hx160_3 := (HB.out.cell (World.block_lt_of_cell? w _ hx160_3)).trans hx160_3; replace hx160_4 := (HB.out.cell (World.block_lt_of_cell? w _ hx160_4)).trans hx160_4; have HR160_3 := Aside0.mk hi160_3; have HC160_3 := Aside0.mk hl160_3; clear hi160_3 hl160_3; have HR160_4 := Aside0.mk hi160_4; have HC160_4 := Aside0.mk hl160_4; clear hi160_4 hl160_4; replace p160 := eq_true p160; replace q160 := eq_true q160))
         go_roundg k1
         case measure => have := HK1.out; omega
         case rel => exact ⟨(wrap64 (x3_1 + 1)), (by first | rfl | (simp; done) | (simp [*]; done)), H', ⟨by have := HK1.out; omega⟩, ⟨by (with_reducible repeat (first | refine blk_drewN ?_ _ | refine blk_drew ?_ | refine blk_alloc ?_ _)); exact BK157.out⟩, ⟨by repeat (first | (with_reducible first | exact HB.out | apply below_alloc | apply pw_below_drewN | apply below_drew1 | refine below_set ?_ GE157.out) | exact HB.out)⟩⟩
        ·rw [if_neg c9] at H
         have c9b0 : (((rd_T25 l0_4 x3_1).f0) == 1) = false := beq_eq_false_iff_ne.mpr c9
         have c9b1 : (((rd_T25 l0_4 x3_1).f0) != 1) = true := bne_iff_ne.mpr c9
         obtain rfl := Option.some.inj H
         have hcz13_0 : wr.cell? ⟨gb157, 0, none⟩ = some (.int .i64 a0_0) := (blk_cell BK157.out 0).trans rfl
         have hcz13_1 : wr.cell? ⟨gb157, 1, none⟩ = some (.int .i64 a0_1) := (blk_cell BK157.out 1).trans rfl
         have hcz13_2 : wr.cell? ⟨gb157, 2, none⟩ = some (.int .i64 a0_2) := (blk_cell BK157.out 2).trans rfl
         have hcz13_3 : wr.cell? ⟨gb157, 3, none⟩ = some (.slice A0_3 l0_3.length c0_3) := (blk_cell BK157.out 3).trans rfl
         have hcz13_4 : wr.cell? ⟨gb157, 4, none⟩ = some (.slice A0_4 l0_4.length c0_4) := (blk_cell BK157.out 4).trans rfl
         have hfz13_0 := blk_frozen BK157.out 0
         have hfz13_1 := blk_frozen BK157.out 1
         have hfz13_2 := blk_frozen BK157.out 2
         have hfz13_3 := blk_frozen BK157.out 3
         have hfz13_4 := blk_frozen BK157.out 4
         have p158 : 0 ≤ (x3_1 : Int) := of_decide_eq_true (by first | (with_reducible assumption) | assumption)
         have q158 : x3_1 < (l0_4.length : Int) := of_decide_eq_true (by first | (with_reducible assumption) | assumption)
         obtain ⟨ad158, A158_3, c158_3, A158_4, c158_4, e158, hx158_0, hx158_1, hx158_2, hx158_3, hx158_4, hl158_3, hi158_3, hl158_4, hi158_4⟩ := at_T25 HR0_4.out x3_1 p158 q158
         cases e158
         replace hx158_0 := (HB.out.cell (World.block_lt_of_cell? w _ hx158_0)).trans hx158_0
         replace hx158_1 := (HB.out.cell (World.block_lt_of_cell? w _ hx158_1)).trans hx158_1
         replace hx158_2 := (HB.out.cell (World.block_lt_of_cell? w _ hx158_2)).trans hx158_2
         replace hx158_3 := (HB.out.cell (World.block_lt_of_cell? w _ hx158_3)).trans hx158_3
         replace hx158_4 := (HB.out.cell (World.block_lt_of_cell? w _ hx158_4)).trans hx158_4
         have HR158_3 := Aside0.mk hi158_3
         have HC158_3 := Aside0.mk hl158_3
         clear hi158_3 hl158_3
         have HR158_4 := Aside0.mk hi158_4
         have HC158_4 := Aside0.mk hl158_4
         clear hi158_4 hl158_4
         replace p158 := eq_true p158
         replace q158 := eq_true q158
         go_wp2_with (first | ((with_reducible refine gate_callee (f := 10) rfl ?_); refine goesL_ (some 16) rfl rfl Try.func10 (by kernel_rfl) rfl #[.agg #[.int .i64 ((rd_T25 l0_4 x3_1).f0), .int .i64 ((rd_T25 l0_4 x3_1).f1), .int .i64 ((rd_T25 l0_4 x3_1).f2), .slice A158_3 ((rd_T25 l0_4 x3_1).f3).length c158_3, .slice A158_4 ((rd_T25 l0_4 x3_1).f4).length c158_4]] rfl (by (try simp only [List.map_toArray, List.map_cons, List.map_nil]); first | done | rfl | (simp only [List.length_drop, List.length_take]; rfl)) ?_; (with_reducible refine (ih k1 (by have := HK1.out; omega) ((rd_T25 l0_4 x3_1).f0) ((rd_T25 l0_4 x3_1).f1) ((rd_T25 l0_4 x3_1).f2) _ _ ((rd_T25 l0_4 x3_1).f3) _ _ ((rd_T25 l0_4 x3_1).f4) true _ ?side1 ?side2 ?side3 ?side4 A5.out).mono ?_); (case side1 => repeat (first | exact (Kd.C_below HR158_3.out HB.out) | (with_reducible refine Kd.C_alloc ?_ _) | (with_reducible refine Kd.C_drewN ?_ _) | (with_reducible refine Kd.C_drew ?_))); (case side2 => exact HC158_3.out); (case side3 => repeat (first | exact (Kd.C_below HR158_4.out HB.out) | (with_reducible refine Kd.C_alloc ?_ _) | (with_reducible refine Kd.C_drewN ?_ _) | (with_reducible refine Kd.C_drew ?_))); (case side4 => exact HC158_4.out); rintro e w14 ⟨rfl, hb⟩; refine ⟨_, rfl, ?_⟩; have n0_ := Aside0.mk (blk_below (g := gb157) (o := .cells #[.int .i64 a0_0, .int .i64 a0_1, .int .i64 a0_2, .slice A0_3 l0_3.length c0_3, .slice (some ad158) l0_4.length c0_4] 25 (0, 0)) (by (with_reducible repeat (first | refine blk_drewN ?_ _ | refine blk_drew ?_ | refine blk_alloc ?_ _)); exact BK157.out) hb); have n1_ := Aside0.mk (below_step (by repeat (first | (with_reducible first | exact HB.out | apply below_alloc | apply pw_below_drewN | apply below_drew1 | refine below_set ?_ GE157.out) | exact HB.out)) hb); clear BK157; clear HB; have BK157 := n0_; have HB := n1_; clear n0_ n1_; (try clear hb); (try clear hb2); (try clear hk); (try clear hi); have hcz15_0 : w14.cell? ⟨gb157, 0, none⟩ = some (.int .i64 a0_0) := (blk_cell BK157.out 0).trans rfl; have hcz15_1 : w14.cell? ⟨gb157, 1, none⟩ = some (.int .i64 a0_1) := (blk_cell BK157.out 1).trans rfl; have hcz15_2 : w14.cell? ⟨gb157, 2, none⟩ = some (.int .i64 a0_2) := (blk_cell BK157.out 2).trans rfl; have hcz15_3 : w14.cell? ⟨gb157, 3, none⟩ = some (.slice A0_3 l0_3.length c0_3) := (blk_cell BK157.out 3).trans rfl; have hcz15_4 : w14.cell? ⟨gb157, 4, none⟩ = some (.slice (some ad158) l0_4.length c0_4) := (blk_cell BK157.out 4).trans rfl; have hfz15_0 := blk_frozen BK157.out 0; have hfz15_1 := blk_frozen BK157.out 1; have hfz15_2 := blk_frozen BK157.out 2; have hfz15_3 := blk_frozen BK157.out 3; have hfz15_4 := blk_frozen BK157.out 4; have p160 : 0 ≤ (x3_1 : Int) := of_decide_eq_true (by first | (with_reducible assumption) | assumption); have q160 : x3_1 < (l0_4.length : Int) := of_decide_eq_true (by first | (with_reducible assumption) | assumption); obtain ⟨ad160, A160_3, c160_3, A160_4, c160_4, e160, hx160_0, hx160_1, hx160_2, hx160_3, hx160_4, hl160_3, hi160_3, hl160_4, hi160_4⟩ := at_T25 HR0_4.out x3_1 p160 q160; obtain rfl : ad158 = ad160 := (by injection e160); replace hx160_0 := (HB.out.cell (World.block_lt_of_cell? w _ hx160_0)).trans hx160_0; replace hx160_1 := (HB.out.cell (World.block_lt_of_cell? w _ hx160_1)).trans hx160_1; replace hx160_2 := (HB.out.cell (World.block_lt_of_cell? w _ hx160_2)).trans hx160_2; replace hx160_3 := (HB.out.cell (World.block_lt_of_cell? w _ hx160_3)).trans hx160_3; replace hx160_4 := (HB.out.cell (World.block_lt_of_cell? w _ hx160_4)).trans hx160_4; have HR160_3 := Aside0.mk hi160_3; have HC160_3 := Aside0.mk hl160_3; clear hi160_3 hl160_3; have HR160_4 := Aside0.mk hi160_4; have HC160_4 := Aside0.mk hl160_4; clear hi160_4 hl160_4; replace p160 := eq_true p160; replace q160 := eq_true q160))
         go_ret
         exact ⟨by first | rfl | (simp [errW_none, errW_some] <;> rfl) | (simp [*, errW_none, errW_some] <;> rfl), by repeat (first | (with_reducible first | exact HB.out | apply below_alloc | apply pw_below_drewN | apply below_drew1 | refine below_set ?_ GE157.out) | exact HB.out)⟩
       ·rw [if_neg c8] at H
        have c8b0 : (a0_1 == 7) = false := beq_eq_false_iff_ne.mpr c8
        have c8b1 : (a0_1 != 7) = true := bne_iff_ne.mpr c8
        have H' := Aside0.mk H
        clear H
        have hcz16_0 : wr.cell? ⟨gb157, 0, none⟩ = some (.int .i64 a0_0) := (blk_cell BK157.out 0).trans rfl
        have hcz16_1 : wr.cell? ⟨gb157, 1, none⟩ = some (.int .i64 a0_1) := (blk_cell BK157.out 1).trans rfl
        have hcz16_2 : wr.cell? ⟨gb157, 2, none⟩ = some (.int .i64 a0_2) := (blk_cell BK157.out 2).trans rfl
        have hcz16_3 : wr.cell? ⟨gb157, 3, none⟩ = some (.slice A0_3 l0_3.length c0_3) := (blk_cell BK157.out 3).trans rfl
        have hcz16_4 : wr.cell? ⟨gb157, 4, none⟩ = some (.slice A0_4 l0_4.length c0_4) := (blk_cell BK157.out 4).trans rfl
        have hfz16_0 := blk_frozen BK157.out 0
        have hfz16_1 := blk_frozen BK157.out 1
        have hfz16_2 := blk_frozen BK157.out 2
        have hfz16_3 := blk_frozen BK157.out 3
        have hfz16_4 := blk_frozen BK157.out 4
        have p158 : 0 ≤ (x3_1 : Int) := of_decide_eq_true (by first | (with_reducible assumption) | assumption)
        have q158 : x3_1 < (l0_4.length : Int) := of_decide_eq_true (by first | (with_reducible assumption) | assumption)
        obtain ⟨ad158, A158_3, c158_3, A158_4, c158_4, e158, hx158_0, hx158_1, hx158_2, hx158_3, hx158_4, hl158_3, hi158_3, hl158_4, hi158_4⟩ := at_T25 HR0_4.out x3_1 p158 q158
        cases e158
        replace hx158_0 := (HB.out.cell (World.block_lt_of_cell? w _ hx158_0)).trans hx158_0
        replace hx158_1 := (HB.out.cell (World.block_lt_of_cell? w _ hx158_1)).trans hx158_1
        replace hx158_2 := (HB.out.cell (World.block_lt_of_cell? w _ hx158_2)).trans hx158_2
        replace hx158_3 := (HB.out.cell (World.block_lt_of_cell? w _ hx158_3)).trans hx158_3
        replace hx158_4 := (HB.out.cell (World.block_lt_of_cell? w _ hx158_4)).trans hx158_4
        have HR158_3 := Aside0.mk hi158_3
        have HC158_3 := Aside0.mk hl158_3
        clear hi158_3 hl158_3
        have HR158_4 := Aside0.mk hi158_4
        have HC158_4 := Aside0.mk hl158_4
        clear hi158_4 hl158_4
        replace p158 := eq_true p158
        replace q158 := eq_true q158
        go_wp2_with (first | ((with_reducible refine gate_callee (f := 10) rfl ?_); refine goesL_ (some 16) rfl rfl Try.func10 (by kernel_rfl) rfl #[.agg #[.int .i64 ((rd_T25 l0_4 x3_1).f0), .int .i64 ((rd_T25 l0_4 x3_1).f1), .int .i64 ((rd_T25 l0_4 x3_1).f2), .slice A158_3 ((rd_T25 l0_4 x3_1).f3).length c158_3, .slice A158_4 ((rd_T25 l0_4 x3_1).f4).length c158_4]] rfl (by (try simp only [List.map_toArray, List.map_cons, List.map_nil]); first | done | rfl | (simp only [List.length_drop, List.length_take]; rfl)) ?_; (with_reducible refine (ih k1 (by have := HK1.out; omega) ((rd_T25 l0_4 x3_1).f0) ((rd_T25 l0_4 x3_1).f1) ((rd_T25 l0_4 x3_1).f2) _ _ ((rd_T25 l0_4 x3_1).f3) _ _ ((rd_T25 l0_4 x3_1).f4) true _ ?side1 ?side2 ?side3 ?side4 A5.out).mono ?_); (case side1 => repeat (first | exact (Kd.C_below HR158_3.out HB.out) | (with_reducible refine Kd.C_alloc ?_ _) | (with_reducible refine Kd.C_drewN ?_ _) | (with_reducible refine Kd.C_drew ?_))); (case side2 => exact HC158_3.out); (case side3 => repeat (first | exact (Kd.C_below HR158_4.out HB.out) | (with_reducible refine Kd.C_alloc ?_ _) | (with_reducible refine Kd.C_drewN ?_ _) | (with_reducible refine Kd.C_drew ?_))); (case side4 => exact HC158_4.out); rintro e w17 ⟨rfl, hb⟩; refine ⟨_, rfl, ?_⟩; have n0_ := Aside0.mk (blk_below (g := gb157) (o := .cells #[.int .i64 a0_0, .int .i64 a0_1, .int .i64 a0_2, .slice A0_3 l0_3.length c0_3, .slice (some ad158) l0_4.length c0_4] 25 (0, 0)) (by (with_reducible repeat (first | refine blk_drewN ?_ _ | refine blk_drew ?_ | refine blk_alloc ?_ _)); exact BK157.out) hb); have n1_ := Aside0.mk (below_step (by repeat (first | (with_reducible first | exact HB.out | apply below_alloc | apply pw_below_drewN | apply below_drew1 | refine below_set ?_ GE157.out) | exact HB.out)) hb); clear BK157; clear HB; have BK157 := n0_; have HB := n1_; clear n0_ n1_; (try clear hb); (try clear hb2); (try clear hk); (try clear hi); have hcz18_0 : w17.cell? ⟨gb157, 0, none⟩ = some (.int .i64 a0_0) := (blk_cell BK157.out 0).trans rfl; have hcz18_1 : w17.cell? ⟨gb157, 1, none⟩ = some (.int .i64 a0_1) := (blk_cell BK157.out 1).trans rfl; have hcz18_2 : w17.cell? ⟨gb157, 2, none⟩ = some (.int .i64 a0_2) := (blk_cell BK157.out 2).trans rfl; have hcz18_3 : w17.cell? ⟨gb157, 3, none⟩ = some (.slice A0_3 l0_3.length c0_3) := (blk_cell BK157.out 3).trans rfl; have hcz18_4 : w17.cell? ⟨gb157, 4, none⟩ = some (.slice (some ad158) l0_4.length c0_4) := (blk_cell BK157.out 4).trans rfl; have hfz18_0 := blk_frozen BK157.out 0; have hfz18_1 := blk_frozen BK157.out 1; have hfz18_2 := blk_frozen BK157.out 2; have hfz18_3 := blk_frozen BK157.out 3; have hfz18_4 := blk_frozen BK157.out 4))
        go_roundg k1
        case measure => have := HK1.out; omega
        case rel => exact ⟨(wrap64 (x3_1 + 1)), (by first | rfl | (simp; done) | (simp [*]; done)), H', ⟨by have := HK1.out; omega⟩, ⟨by (with_reducible repeat (first | refine blk_drewN ?_ _ | refine blk_drew ?_ | refine blk_alloc ?_ _)); exact BK157.out⟩, ⟨by repeat (first | (with_reducible first | exact HB.out | apply below_alloc | apply pw_below_drewN | apply below_drew1 | refine below_set ?_ GE157.out) | exact HB.out)⟩⟩
      ·rw [if_neg c7] at H
       have c7b0 : (a0_0 == 2) = false := beq_eq_false_iff_ne.mpr c7
       have c7b1 : (a0_0 != 2) = true := bne_iff_ne.mpr c7
       have H' := Aside0.mk H
       clear H
       have hcz19_0 : wr.cell? ⟨gb157, 0, none⟩ = some (.int .i64 a0_0) := (blk_cell BK157.out 0).trans rfl
       have hcz19_1 : wr.cell? ⟨gb157, 1, none⟩ = some (.int .i64 a0_1) := (blk_cell BK157.out 1).trans rfl
       have hcz19_2 : wr.cell? ⟨gb157, 2, none⟩ = some (.int .i64 a0_2) := (blk_cell BK157.out 2).trans rfl
       have hcz19_3 : wr.cell? ⟨gb157, 3, none⟩ = some (.slice A0_3 l0_3.length c0_3) := (blk_cell BK157.out 3).trans rfl
       have hcz19_4 : wr.cell? ⟨gb157, 4, none⟩ = some (.slice A0_4 l0_4.length c0_4) := (blk_cell BK157.out 4).trans rfl
       have hfz19_0 := blk_frozen BK157.out 0
       have hfz19_1 := blk_frozen BK157.out 1
       have hfz19_2 := blk_frozen BK157.out 2
       have hfz19_3 := blk_frozen BK157.out 3
       have hfz19_4 := blk_frozen BK157.out 4
       have p158 : 0 ≤ (x3_1 : Int) := of_decide_eq_true (by first | (with_reducible assumption) | assumption)
       have q158 : x3_1 < (l0_4.length : Int) := of_decide_eq_true (by first | (with_reducible assumption) | assumption)
       obtain ⟨ad158, A158_3, c158_3, A158_4, c158_4, e158, hx158_0, hx158_1, hx158_2, hx158_3, hx158_4, hl158_3, hi158_3, hl158_4, hi158_4⟩ := at_T25 HR0_4.out x3_1 p158 q158
       cases e158
       replace hx158_0 := (HB.out.cell (World.block_lt_of_cell? w _ hx158_0)).trans hx158_0
       replace hx158_1 := (HB.out.cell (World.block_lt_of_cell? w _ hx158_1)).trans hx158_1
       replace hx158_2 := (HB.out.cell (World.block_lt_of_cell? w _ hx158_2)).trans hx158_2
       replace hx158_3 := (HB.out.cell (World.block_lt_of_cell? w _ hx158_3)).trans hx158_3
       replace hx158_4 := (HB.out.cell (World.block_lt_of_cell? w _ hx158_4)).trans hx158_4
       have HR158_3 := Aside0.mk hi158_3
       have HC158_3 := Aside0.mk hl158_3
       clear hi158_3 hl158_3
       have HR158_4 := Aside0.mk hi158_4
       have HC158_4 := Aside0.mk hl158_4
       clear hi158_4 hl158_4
       replace p158 := eq_true p158
       replace q158 := eq_true q158
       go_wp2_with (first | ((with_reducible refine gate_callee (f := 10) rfl ?_); refine goesL_ (some 16) rfl rfl Try.func10 (by kernel_rfl) rfl #[.agg #[.int .i64 ((rd_T25 l0_4 x3_1).f0), .int .i64 ((rd_T25 l0_4 x3_1).f1), .int .i64 ((rd_T25 l0_4 x3_1).f2), .slice A158_3 ((rd_T25 l0_4 x3_1).f3).length c158_3, .slice A158_4 ((rd_T25 l0_4 x3_1).f4).length c158_4]] rfl (by (try simp only [List.map_toArray, List.map_cons, List.map_nil]); first | done | rfl | (simp only [List.length_drop, List.length_take]; rfl)) ?_; (with_reducible refine (ih k1 (by have := HK1.out; omega) ((rd_T25 l0_4 x3_1).f0) ((rd_T25 l0_4 x3_1).f1) ((rd_T25 l0_4 x3_1).f2) _ _ ((rd_T25 l0_4 x3_1).f3) _ _ ((rd_T25 l0_4 x3_1).f4) true _ ?side1 ?side2 ?side3 ?side4 A5.out).mono ?_); (case side1 => repeat (first | exact (Kd.C_below HR158_3.out HB.out) | (with_reducible refine Kd.C_alloc ?_ _) | (with_reducible refine Kd.C_drewN ?_ _) | (with_reducible refine Kd.C_drew ?_))); (case side2 => exact HC158_3.out); (case side3 => repeat (first | exact (Kd.C_below HR158_4.out HB.out) | (with_reducible refine Kd.C_alloc ?_ _) | (with_reducible refine Kd.C_drewN ?_ _) | (with_reducible refine Kd.C_drew ?_))); (case side4 => exact HC158_4.out); rintro e w20 ⟨rfl, hb⟩; refine ⟨_, rfl, ?_⟩; have n0_ := Aside0.mk (blk_below (g := gb157) (o := .cells #[.int .i64 a0_0, .int .i64 a0_1, .int .i64 a0_2, .slice A0_3 l0_3.length c0_3, .slice (some ad158) l0_4.length c0_4] 25 (0, 0)) (by (with_reducible repeat (first | refine blk_drewN ?_ _ | refine blk_drew ?_ | refine blk_alloc ?_ _)); exact BK157.out) hb); have n1_ := Aside0.mk (below_step (by repeat (first | (with_reducible first | exact HB.out | apply below_alloc | apply pw_below_drewN | apply below_drew1 | refine below_set ?_ GE157.out) | exact HB.out)) hb); clear BK157; clear HB; have BK157 := n0_; have HB := n1_; clear n0_ n1_; (try clear hb); (try clear hb2); (try clear hk); (try clear hi); have hcz21_0 : w20.cell? ⟨gb157, 0, none⟩ = some (.int .i64 a0_0) := (blk_cell BK157.out 0).trans rfl; have hcz21_1 : w20.cell? ⟨gb157, 1, none⟩ = some (.int .i64 a0_1) := (blk_cell BK157.out 1).trans rfl; have hcz21_2 : w20.cell? ⟨gb157, 2, none⟩ = some (.int .i64 a0_2) := (blk_cell BK157.out 2).trans rfl; have hcz21_3 : w20.cell? ⟨gb157, 3, none⟩ = some (.slice A0_3 l0_3.length c0_3) := (blk_cell BK157.out 3).trans rfl; have hcz21_4 : w20.cell? ⟨gb157, 4, none⟩ = some (.slice (some ad158) l0_4.length c0_4) := (blk_cell BK157.out 4).trans rfl; have hfz21_0 := blk_frozen BK157.out 0; have hfz21_1 := blk_frozen BK157.out 1; have hfz21_2 := blk_frozen BK157.out 2; have hfz21_3 := blk_frozen BK157.out 3; have hfz21_4 := blk_frozen BK157.out 4))
       go_roundg k1
       case measure => have := HK1.out; omega
       case rel => exact ⟨(wrap64 (x3_1 + 1)), (by first | rfl | (simp; done) | (simp [*]; done)), H', ⟨by have := HK1.out; omega⟩, ⟨by (with_reducible repeat (first | refine blk_drewN ?_ _ | refine blk_drew ?_ | refine blk_alloc ?_ _)); exact BK157.out⟩, ⟨by repeat (first | (with_reducible first | exact HB.out | apply below_alloc | apply pw_below_drewN | apply below_drew1 | refine below_set ?_ GE157.out) | exact HB.out)⟩⟩
     ·replace c6 := Bool.eq_false_iff.mpr c6
      subst c6
      have H1 : (some false) = some r := by rw [if_neg (show ¬ (false = true) by decide)] at H; exact H
      clear H
      have H := H1
      clear H1
      obtain rfl := Option.some.inj H
      have hcz22_0 : wr.cell? ⟨gb157, 0, none⟩ = some (.int .i64 a0_0) := (blk_cell BK157.out 0).trans rfl
      have hcz22_1 : wr.cell? ⟨gb157, 1, none⟩ = some (.int .i64 a0_1) := (blk_cell BK157.out 1).trans rfl
      have hcz22_2 : wr.cell? ⟨gb157, 2, none⟩ = some (.int .i64 a0_2) := (blk_cell BK157.out 2).trans rfl
      have hcz22_3 : wr.cell? ⟨gb157, 3, none⟩ = some (.slice A0_3 l0_3.length c0_3) := (blk_cell BK157.out 3).trans rfl
      have hcz22_4 : wr.cell? ⟨gb157, 4, none⟩ = some (.slice A0_4 l0_4.length c0_4) := (blk_cell BK157.out 4).trans rfl
      have hfz22_0 := blk_frozen BK157.out 0
      have hfz22_1 := blk_frozen BK157.out 1
      have hfz22_2 := blk_frozen BK157.out 2
      have hfz22_3 := blk_frozen BK157.out 3
      have hfz22_4 := blk_frozen BK157.out 4
      have p158 : 0 ≤ (x3_1 : Int) := of_decide_eq_true (by first | (with_reducible assumption) | assumption)
      have q158 : x3_1 < (l0_4.length : Int) := of_decide_eq_true (by first | (with_reducible assumption) | assumption)
      obtain ⟨ad158, A158_3, c158_3, A158_4, c158_4, e158, hx158_0, hx158_1, hx158_2, hx158_3, hx158_4, hl158_3, hi158_3, hl158_4, hi158_4⟩ := at_T25 HR0_4.out x3_1 p158 q158
      cases e158
      replace hx158_0 := (HB.out.cell (World.block_lt_of_cell? w _ hx158_0)).trans hx158_0
      replace hx158_1 := (HB.out.cell (World.block_lt_of_cell? w _ hx158_1)).trans hx158_1
      replace hx158_2 := (HB.out.cell (World.block_lt_of_cell? w _ hx158_2)).trans hx158_2
      replace hx158_3 := (HB.out.cell (World.block_lt_of_cell? w _ hx158_3)).trans hx158_3
      replace hx158_4 := (HB.out.cell (World.block_lt_of_cell? w _ hx158_4)).trans hx158_4
      have HR158_3 := Aside0.mk hi158_3
      have HC158_3 := Aside0.mk hl158_3
      clear hi158_3 hl158_3
      have HR158_4 := Aside0.mk hi158_4
      have HC158_4 := Aside0.mk hl158_4
      clear hi158_4 hl158_4
      replace p158 := eq_true p158
      replace q158 := eq_true q158
      go_wp2_with (first | ((with_reducible refine gate_callee (f := 10) rfl ?_); refine goesL_ (some 16) rfl rfl Try.func10 (by kernel_rfl) rfl #[.agg #[.int .i64 ((rd_T25 l0_4 x3_1).f0), .int .i64 ((rd_T25 l0_4 x3_1).f1), .int .i64 ((rd_T25 l0_4 x3_1).f2), .slice A158_3 ((rd_T25 l0_4 x3_1).f3).length c158_3, .slice A158_4 ((rd_T25 l0_4 x3_1).f4).length c158_4]] rfl (by (try simp only [List.map_toArray, List.map_cons, List.map_nil]); first | done | rfl | (simp only [List.length_drop, List.length_take]; rfl)) ?_; (with_reducible refine (ih k1 (by have := HK1.out; omega) ((rd_T25 l0_4 x3_1).f0) ((rd_T25 l0_4 x3_1).f1) ((rd_T25 l0_4 x3_1).f2) _ _ ((rd_T25 l0_4 x3_1).f3) _ _ ((rd_T25 l0_4 x3_1).f4) false _ ?side1 ?side2 ?side3 ?side4 A5.out).mono ?_); (case side1 => repeat (first | exact (Kd.C_below HR158_3.out HB.out) | (with_reducible refine Kd.C_alloc ?_ _) | (with_reducible refine Kd.C_drewN ?_ _) | (with_reducible refine Kd.C_drew ?_))); (case side2 => exact HC158_3.out); (case side3 => repeat (first | exact (Kd.C_below HR158_4.out HB.out) | (with_reducible refine Kd.C_alloc ?_ _) | (with_reducible refine Kd.C_drewN ?_ _) | (with_reducible refine Kd.C_drew ?_))); (case side4 => exact HC158_4.out); rintro e w23 ⟨rfl, hb⟩; refine ⟨_, rfl, ?_⟩; have n0_ := Aside0.mk (blk_below (g := gb157) (o := .cells #[.int .i64 a0_0, .int .i64 a0_1, .int .i64 a0_2, .slice A0_3 l0_3.length c0_3, .slice (some ad158) l0_4.length c0_4] 25 (0, 0)) (by (with_reducible repeat (first | refine blk_drewN ?_ _ | refine blk_drew ?_ | refine blk_alloc ?_ _)); exact BK157.out) hb); have n1_ := Aside0.mk (below_step (by repeat (first | (with_reducible first | exact HB.out | apply below_alloc | apply pw_below_drewN | apply below_drew1 | refine below_set ?_ GE157.out) | exact HB.out)) hb); clear BK157; clear HB; have BK157 := n0_; have HB := n1_; clear n0_ n1_; (try clear hb); (try clear hb2); (try clear hk); (try clear hi)))
      go_ret
      exact ⟨by first | rfl | (simp [errW_none, errW_some] <;> rfl) | (simp [*, errW_none, errW_some] <;> rfl), by repeat (first | (with_reducible first | exact HB.out | apply below_alloc | apply pw_below_drewN | apply below_drew1 | refine below_set ?_ GE157.out) | exact HB.out)⟩
    ·rw [if_neg c4] at H
     exact absurd H (by simp)
   ·rw [if_neg c3] at H
    have c3b0 : decide (x3_1 < (l0_4.length : Int)) = false := decide_eq_false c3
    clear c3
    by_cases c24 : a0_0 = 0
    ·rw [if_pos c24] at H
     have c24b0 : (a0_0 == 0) = true := beq_iff_eq.mpr c24
     have c24b1 : (a0_0 != 0) = false := bne_eq_false_iff_eq.mpr c24
     clear c24
     by_cases c25 : a0_1 = 0
     ·rw [if_pos c25] at H
      have c25b0 : (a0_1 == 0) = true := beq_iff_eq.mpr c25
      have c25b1 : (a0_1 != 0) = false := bne_eq_false_iff_eq.mpr c25
      clear c25
      by_cases c26 : a0_2 = 0
      ·rw [if_pos c26] at H
       have c26b0 : (a0_2 == 0) = true := beq_iff_eq.mpr c26
       have c26b1 : (a0_2 != 0) = false := bne_eq_false_iff_eq.mpr c26
       clear c26
       by_cases c27 : (l0_3.length : Int) = 0
       ·rw [if_pos c27] at H
        have c27b0 : ((l0_3.length : Int) == 0) = true := beq_iff_eq.mpr c27
        have c27b1 : ((l0_3.length : Int) != 0) = false := bne_eq_false_iff_eq.mpr c27
        clear c27
        obtain rfl := Option.some.inj H
        have hcz28_0 : wr.cell? ⟨gb157, 0, none⟩ = some (.int .i64 a0_0) := (blk_cell BK157.out 0).trans rfl
        have hcz28_1 : wr.cell? ⟨gb157, 1, none⟩ = some (.int .i64 a0_1) := (blk_cell BK157.out 1).trans rfl
        have hcz28_2 : wr.cell? ⟨gb157, 2, none⟩ = some (.int .i64 a0_2) := (blk_cell BK157.out 2).trans rfl
        have hcz28_3 : wr.cell? ⟨gb157, 3, none⟩ = some (.slice A0_3 l0_3.length c0_3) := (blk_cell BK157.out 3).trans rfl
        have hcz28_4 : wr.cell? ⟨gb157, 4, none⟩ = some (.slice A0_4 l0_4.length c0_4) := (blk_cell BK157.out 4).trans rfl
        have hfz28_0 := blk_frozen BK157.out 0
        have hfz28_1 := blk_frozen BK157.out 1
        have hfz28_2 := blk_frozen BK157.out 2
        have hfz28_3 := blk_frozen BK157.out 3
        have hfz28_4 := blk_frozen BK157.out 4
        go_wp2
        go_ret
        exact ⟨by first | rfl | (simp [errW_none, errW_some] <;> rfl) | (simp [*, errW_none, errW_some] <;> rfl), by repeat (first | (with_reducible first | exact HB.out | apply below_alloc | apply pw_below_drewN | apply below_drew1 | refine below_set ?_ GE157.out) | exact HB.out)⟩
       ·rw [if_neg c27] at H
        have c27b0 : ((l0_3.length : Int) == 0) = false := beq_eq_false_iff_ne.mpr c27
        have c27b1 : ((l0_3.length : Int) != 0) = true := bne_iff_ne.mpr c27
        have c27b2 : ¬ (l0_3 = []) := fun h_ => c27 (by rw [h_]; rfl)
        obtain rfl := Option.some.inj H
        have hcz29_0 : wr.cell? ⟨gb157, 0, none⟩ = some (.int .i64 a0_0) := (blk_cell BK157.out 0).trans rfl
        have hcz29_1 : wr.cell? ⟨gb157, 1, none⟩ = some (.int .i64 a0_1) := (blk_cell BK157.out 1).trans rfl
        have hcz29_2 : wr.cell? ⟨gb157, 2, none⟩ = some (.int .i64 a0_2) := (blk_cell BK157.out 2).trans rfl
        have hcz29_3 : wr.cell? ⟨gb157, 3, none⟩ = some (.slice A0_3 l0_3.length c0_3) := (blk_cell BK157.out 3).trans rfl
        have hcz29_4 : wr.cell? ⟨gb157, 4, none⟩ = some (.slice A0_4 l0_4.length c0_4) := (blk_cell BK157.out 4).trans rfl
        have hfz29_0 := blk_frozen BK157.out 0
        have hfz29_1 := blk_frozen BK157.out 1
        have hfz29_2 := blk_frozen BK157.out 2
        have hfz29_3 := blk_frozen BK157.out 3
        have hfz29_4 := blk_frozen BK157.out 4
        go_wp2
        go_ret
        exact ⟨by first | rfl | (simp [errW_none, errW_some] <;> rfl) | (simp [*, errW_none, errW_some] <;> rfl), by repeat (first | (with_reducible first | exact HB.out | apply below_alloc | apply pw_below_drewN | apply below_drew1 | refine below_set ?_ GE157.out) | exact HB.out)⟩
      ·rw [if_neg c26] at H
       have c26b0 : (a0_2 == 0) = false := beq_eq_false_iff_ne.mpr c26
       have c26b1 : (a0_2 != 0) = true := bne_iff_ne.mpr c26
       obtain rfl := Option.some.inj H
       have hcz30_0 : wr.cell? ⟨gb157, 0, none⟩ = some (.int .i64 a0_0) := (blk_cell BK157.out 0).trans rfl
       have hcz30_1 : wr.cell? ⟨gb157, 1, none⟩ = some (.int .i64 a0_1) := (blk_cell BK157.out 1).trans rfl
       have hcz30_2 : wr.cell? ⟨gb157, 2, none⟩ = some (.int .i64 a0_2) := (blk_cell BK157.out 2).trans rfl
       have hcz30_3 : wr.cell? ⟨gb157, 3, none⟩ = some (.slice A0_3 l0_3.length c0_3) := (blk_cell BK157.out 3).trans rfl
       have hcz30_4 : wr.cell? ⟨gb157, 4, none⟩ = some (.slice A0_4 l0_4.length c0_4) := (blk_cell BK157.out 4).trans rfl
       have hfz30_0 := blk_frozen BK157.out 0
       have hfz30_1 := blk_frozen BK157.out 1
       have hfz30_2 := blk_frozen BK157.out 2
       have hfz30_3 := blk_frozen BK157.out 3
       have hfz30_4 := blk_frozen BK157.out 4
       go_wp2
       go_ret
       exact ⟨by first | rfl | (simp [errW_none, errW_some] <;> rfl) | (simp [*, errW_none, errW_some] <;> rfl), by repeat (first | (with_reducible first | exact HB.out | apply below_alloc | apply pw_below_drewN | apply below_drew1 | refine below_set ?_ GE157.out) | exact HB.out)⟩
     ·rw [if_neg c25] at H
      have c25b0 : (a0_1 == 0) = false := beq_eq_false_iff_ne.mpr c25
      have c25b1 : (a0_1 != 0) = true := bne_iff_ne.mpr c25
      obtain rfl := Option.some.inj H
      have hcz31_0 : wr.cell? ⟨gb157, 0, none⟩ = some (.int .i64 a0_0) := (blk_cell BK157.out 0).trans rfl
      have hcz31_1 : wr.cell? ⟨gb157, 1, none⟩ = some (.int .i64 a0_1) := (blk_cell BK157.out 1).trans rfl
      have hcz31_2 : wr.cell? ⟨gb157, 2, none⟩ = some (.int .i64 a0_2) := (blk_cell BK157.out 2).trans rfl
      have hcz31_3 : wr.cell? ⟨gb157, 3, none⟩ = some (.slice A0_3 l0_3.length c0_3) := (blk_cell BK157.out 3).trans rfl
      have hcz31_4 : wr.cell? ⟨gb157, 4, none⟩ = some (.slice A0_4 l0_4.length c0_4) := (blk_cell BK157.out 4).trans rfl
      have hfz31_0 := blk_frozen BK157.out 0
      have hfz31_1 := blk_frozen BK157.out 1
      have hfz31_2 := blk_frozen BK157.out 2
      have hfz31_3 := blk_frozen BK157.out 3
      have hfz31_4 := blk_frozen BK157.out 4
      go_wp2
      go_ret
      exact ⟨by first | rfl | (simp [errW_none, errW_some] <;> rfl) | (simp [*, errW_none, errW_some] <;> rfl), by repeat (first | (with_reducible first | exact HB.out | apply below_alloc | apply pw_below_drewN | apply below_drew1 | refine below_set ?_ GE157.out) | exact HB.out)⟩
    ·rw [if_neg c24] at H
     have c24b0 : (a0_0 == 0) = false := beq_eq_false_iff_ne.mpr c24
     have c24b1 : (a0_0 != 0) = true := bne_iff_ne.mpr c24
     by_cases c32 : a0_0 = 1
     ·rw [if_pos c32] at H
      have c32b0 : (a0_0 == 1) = true := beq_iff_eq.mpr c32
      have c32b1 : (a0_0 != 1) = false := bne_eq_false_iff_eq.mpr c32
      clear c32
      by_cases c33 : a0_1 = 0
      ·rw [if_pos c33] at H
       have c33b0 : (a0_1 == 0) = true := beq_iff_eq.mpr c33
       have c33b1 : (a0_1 != 0) = false := bne_eq_false_iff_eq.mpr c33
       clear c33
       by_cases c34 : a0_2 = 0
       ·rw [if_pos c34] at H
        have c34b0 : (a0_2 == 0) = true := beq_iff_eq.mpr c34
        have c34b1 : (a0_2 != 0) = false := bne_eq_false_iff_eq.mpr c34
        clear c34
        by_cases c35 : ((l0_3.length : Int) % 8) = 0
        ·rw [if_pos c35] at H
         have c35b0 : (((l0_3.length : Int) % 8) == 0) = true := beq_iff_eq.mpr c35
         have c35b1 : (((l0_3.length : Int) % 8) != 0) = false := bne_eq_false_iff_eq.mpr c35
         clear c35
         by_cases c36 : (l0_3.length : Int) ≤ 524280
         ·rw [if_pos c36] at H
          have c36b0 : decide ((l0_3.length : Int) ≤ 524280) = true := decide_eq_true c36
          have c36b1 : decide (l0_3.length ≤ 524280) = true := decide_eq_true (by omega)
          clear c36
          obtain rfl := Option.some.inj H
          have hcz37_0 : wr.cell? ⟨gb157, 0, none⟩ = some (.int .i64 a0_0) := (blk_cell BK157.out 0).trans rfl
          have hcz37_1 : wr.cell? ⟨gb157, 1, none⟩ = some (.int .i64 a0_1) := (blk_cell BK157.out 1).trans rfl
          have hcz37_2 : wr.cell? ⟨gb157, 2, none⟩ = some (.int .i64 a0_2) := (blk_cell BK157.out 2).trans rfl
          have hcz37_3 : wr.cell? ⟨gb157, 3, none⟩ = some (.slice A0_3 l0_3.length c0_3) := (blk_cell BK157.out 3).trans rfl
          have hcz37_4 : wr.cell? ⟨gb157, 4, none⟩ = some (.slice A0_4 l0_4.length c0_4) := (blk_cell BK157.out 4).trans rfl
          have hfz37_0 := blk_frozen BK157.out 0
          have hfz37_1 := blk_frozen BK157.out 1
          have hfz37_2 := blk_frozen BK157.out 2
          have hfz37_3 := blk_frozen BK157.out 3
          have hfz37_4 := blk_frozen BK157.out 4
          go_wp2
          go_ret
          exact ⟨by first | rfl | (simp [errW_none, errW_some] <;> rfl) | (simp [*, errW_none, errW_some] <;> rfl), by repeat (first | (with_reducible first | exact HB.out | apply below_alloc | apply pw_below_drewN | apply below_drew1 | refine below_set ?_ GE157.out) | exact HB.out)⟩
         ·rw [if_neg c36] at H
          have c36b0 : decide ((l0_3.length : Int) ≤ 524280) = false := decide_eq_false c36
          have c36b1 : decide (l0_3.length ≤ 524280) = false := decide_eq_false (by omega)
          clear c36
          obtain rfl := Option.some.inj H
          have hcz38_0 : wr.cell? ⟨gb157, 0, none⟩ = some (.int .i64 a0_0) := (blk_cell BK157.out 0).trans rfl
          have hcz38_1 : wr.cell? ⟨gb157, 1, none⟩ = some (.int .i64 a0_1) := (blk_cell BK157.out 1).trans rfl
          have hcz38_2 : wr.cell? ⟨gb157, 2, none⟩ = some (.int .i64 a0_2) := (blk_cell BK157.out 2).trans rfl
          have hcz38_3 : wr.cell? ⟨gb157, 3, none⟩ = some (.slice A0_3 l0_3.length c0_3) := (blk_cell BK157.out 3).trans rfl
          have hcz38_4 : wr.cell? ⟨gb157, 4, none⟩ = some (.slice A0_4 l0_4.length c0_4) := (blk_cell BK157.out 4).trans rfl
          have hfz38_0 := blk_frozen BK157.out 0
          have hfz38_1 := blk_frozen BK157.out 1
          have hfz38_2 := blk_frozen BK157.out 2
          have hfz38_3 := blk_frozen BK157.out 3
          have hfz38_4 := blk_frozen BK157.out 4
          go_wp2
          go_ret
          exact ⟨by first | rfl | (simp [errW_none, errW_some] <;> rfl) | (simp [*, errW_none, errW_some] <;> rfl), by repeat (first | (with_reducible first | exact HB.out | apply below_alloc | apply pw_below_drewN | apply below_drew1 | refine below_set ?_ GE157.out) | exact HB.out)⟩
        ·rw [if_neg c35] at H
         have c35b0 : (((l0_3.length : Int) % 8) == 0) = false := beq_eq_false_iff_ne.mpr c35
         have c35b1 : (((l0_3.length : Int) % 8) != 0) = true := bne_iff_ne.mpr c35
         obtain rfl := Option.some.inj H
         have hcz39_0 : wr.cell? ⟨gb157, 0, none⟩ = some (.int .i64 a0_0) := (blk_cell BK157.out 0).trans rfl
         have hcz39_1 : wr.cell? ⟨gb157, 1, none⟩ = some (.int .i64 a0_1) := (blk_cell BK157.out 1).trans rfl
         have hcz39_2 : wr.cell? ⟨gb157, 2, none⟩ = some (.int .i64 a0_2) := (blk_cell BK157.out 2).trans rfl
         have hcz39_3 : wr.cell? ⟨gb157, 3, none⟩ = some (.slice A0_3 l0_3.length c0_3) := (blk_cell BK157.out 3).trans rfl
         have hcz39_4 : wr.cell? ⟨gb157, 4, none⟩ = some (.slice A0_4 l0_4.length c0_4) := (blk_cell BK157.out 4).trans rfl
         have hfz39_0 := blk_frozen BK157.out 0
         have hfz39_1 := blk_frozen BK157.out 1
         have hfz39_2 := blk_frozen BK157.out 2
         have hfz39_3 := blk_frozen BK157.out 3
         have hfz39_4 := blk_frozen BK157.out 4
         go_wp2
         go_ret
         exact ⟨by first | rfl | (simp [errW_none, errW_some] <;> rfl) | (simp [*, errW_none, errW_some] <;> rfl), by repeat (first | (with_reducible first | exact HB.out | apply below_alloc | apply pw_below_drewN | apply below_drew1 | refine below_set ?_ GE157.out) | exact HB.out)⟩
       ·rw [if_neg c34] at H
        have c34b0 : (a0_2 == 0) = false := beq_eq_false_iff_ne.mpr c34
        have c34b1 : (a0_2 != 0) = true := bne_iff_ne.mpr c34
        obtain rfl := Option.some.inj H
        have hcz40_0 : wr.cell? ⟨gb157, 0, none⟩ = some (.int .i64 a0_0) := (blk_cell BK157.out 0).trans rfl
        have hcz40_1 : wr.cell? ⟨gb157, 1, none⟩ = some (.int .i64 a0_1) := (blk_cell BK157.out 1).trans rfl
        have hcz40_2 : wr.cell? ⟨gb157, 2, none⟩ = some (.int .i64 a0_2) := (blk_cell BK157.out 2).trans rfl
        have hcz40_3 : wr.cell? ⟨gb157, 3, none⟩ = some (.slice A0_3 l0_3.length c0_3) := (blk_cell BK157.out 3).trans rfl
        have hcz40_4 : wr.cell? ⟨gb157, 4, none⟩ = some (.slice A0_4 l0_4.length c0_4) := (blk_cell BK157.out 4).trans rfl
        have hfz40_0 := blk_frozen BK157.out 0
        have hfz40_1 := blk_frozen BK157.out 1
        have hfz40_2 := blk_frozen BK157.out 2
        have hfz40_3 := blk_frozen BK157.out 3
        have hfz40_4 := blk_frozen BK157.out 4
        go_wp2
        go_ret
        exact ⟨by first | rfl | (simp [errW_none, errW_some] <;> rfl) | (simp [*, errW_none, errW_some] <;> rfl), by repeat (first | (with_reducible first | exact HB.out | apply below_alloc | apply pw_below_drewN | apply below_drew1 | refine below_set ?_ GE157.out) | exact HB.out)⟩
      ·rw [if_neg c33] at H
       have c33b0 : (a0_1 == 0) = false := beq_eq_false_iff_ne.mpr c33
       have c33b1 : (a0_1 != 0) = true := bne_iff_ne.mpr c33
       obtain rfl := Option.some.inj H
       have hcz41_0 : wr.cell? ⟨gb157, 0, none⟩ = some (.int .i64 a0_0) := (blk_cell BK157.out 0).trans rfl
       have hcz41_1 : wr.cell? ⟨gb157, 1, none⟩ = some (.int .i64 a0_1) := (blk_cell BK157.out 1).trans rfl
       have hcz41_2 : wr.cell? ⟨gb157, 2, none⟩ = some (.int .i64 a0_2) := (blk_cell BK157.out 2).trans rfl
       have hcz41_3 : wr.cell? ⟨gb157, 3, none⟩ = some (.slice A0_3 l0_3.length c0_3) := (blk_cell BK157.out 3).trans rfl
       have hcz41_4 : wr.cell? ⟨gb157, 4, none⟩ = some (.slice A0_4 l0_4.length c0_4) := (blk_cell BK157.out 4).trans rfl
       have hfz41_0 := blk_frozen BK157.out 0
       have hfz41_1 := blk_frozen BK157.out 1
       have hfz41_2 := blk_frozen BK157.out 2
       have hfz41_3 := blk_frozen BK157.out 3
       have hfz41_4 := blk_frozen BK157.out 4
       go_wp2
       go_ret
       exact ⟨by first | rfl | (simp [errW_none, errW_some] <;> rfl) | (simp [*, errW_none, errW_some] <;> rfl), by repeat (first | (with_reducible first | exact HB.out | apply below_alloc | apply pw_below_drewN | apply below_drew1 | refine below_set ?_ GE157.out) | exact HB.out)⟩
     ·rw [if_neg c32] at H
      have c32b0 : (a0_0 == 1) = false := beq_eq_false_iff_ne.mpr c32
      have c32b1 : (a0_0 != 1) = true := bne_iff_ne.mpr c32
      by_cases c42 : a0_0 = 2
      ·rw [if_pos c42] at H
       have c42b0 : (a0_0 == 2) = true := beq_iff_eq.mpr c42
       have c42b1 : (a0_0 != 2) = false := bne_eq_false_iff_eq.mpr c42
       clear c42
       have HC43 := Aside0.mk H
       clear H
       have hcz44_0 : wr.cell? ⟨gb157, 0, none⟩ = some (.int .i64 a0_0) := (blk_cell BK157.out 0).trans rfl
       have hcz44_1 : wr.cell? ⟨gb157, 1, none⟩ = some (.int .i64 a0_1) := (blk_cell BK157.out 1).trans rfl
       have hcz44_2 : wr.cell? ⟨gb157, 2, none⟩ = some (.int .i64 a0_2) := (blk_cell BK157.out 2).trans rfl
       have hcz44_3 : wr.cell? ⟨gb157, 3, none⟩ = some (.slice A0_3 l0_3.length c0_3) := (blk_cell BK157.out 3).trans rfl
       have hcz44_4 : wr.cell? ⟨gb157, 4, none⟩ = some (.slice A0_4 l0_4.length c0_4) := (blk_cell BK157.out 4).trans rfl
       have hfz44_0 := blk_frozen BK157.out 0
       have hfz44_1 := blk_frozen BK157.out 1
       have hfz44_2 := blk_frozen BK157.out 2
       have hfz44_3 := blk_frozen BK157.out 3
       have hfz44_4 := blk_frozen BK157.out 4
       go_upto_region 12 with (fail)
       go_cut [109] (fun v109 wc => ∃ (kq : Nat) (x109_42 : Bool), v109 = .bool x109_42 ∧ Aside0 (capnpref10_Valid.j1 kq x109_42 a0_0 a0_1 a0_2 l0_3 l0_4 = some r) ∧ Aside0 (kq ≤ k1) ∧ Aside0 (wc.heap[gb157]? = some (.cells #[.int .i64 a0_0, .int .i64 a0_1, .int .i64 a0_2, (.slice A0_3 l0_3.length c0_3), (.slice A0_4 l0_4.length c0_4)] 25 (0, 0))) ∧ Aside0 (Below w.heap.size w wc))
       case first =>
        have H := HC43.out
        clear HC43
        by_cases c45 : a0_2 < 0
        ·rw [if_pos c45] at H
         have c45b0 : decide (a0_2 < 0) = true := decide_eq_true c45
         clear c45
         (first | rw [c45b0] | (simp only [i64_w, i32_w]; rw [c45b0]) | skip)
         have H' := Aside0.mk H
         clear H
         have hcz46_0 : wr.cell? ⟨gb157, 0, none⟩ = some (.int .i64 a0_0) := (blk_cell BK157.out 0).trans rfl
         have hcz46_1 : wr.cell? ⟨gb157, 1, none⟩ = some (.int .i64 a0_1) := (blk_cell BK157.out 1).trans rfl
         have hcz46_2 : wr.cell? ⟨gb157, 2, none⟩ = some (.int .i64 a0_2) := (blk_cell BK157.out 2).trans rfl
         have hcz46_3 : wr.cell? ⟨gb157, 3, none⟩ = some (.slice A0_3 l0_3.length c0_3) := (blk_cell BK157.out 3).trans rfl
         have hcz46_4 : wr.cell? ⟨gb157, 4, none⟩ = some (.slice A0_4 l0_4.length c0_4) := (blk_cell BK157.out 4).trans rfl
         have hfz46_0 := blk_frozen BK157.out 0
         have hfz46_1 := blk_frozen BK157.out 1
         have hfz46_2 := blk_frozen BK157.out 2
         have hfz46_3 := blk_frozen BK157.out 3
         have hfz46_4 := blk_frozen BK157.out 4
         go_wp2
         go_meet
         case rel => exact ⟨_, (true), (by first | rfl | (simp; done) | (simp [*]; done)), H', ⟨by have := HK1.out; first | omega | exact Nat.le_refl _⟩, ⟨by (with_reducible repeat (first | refine blk_drewN ?_ _ | refine blk_drew ?_ | refine blk_alloc ?_ _)); exact BK157.out⟩, ⟨by repeat (first | (with_reducible first | exact HB.out | apply below_alloc | apply pw_below_drewN | apply below_drew1 | refine below_set ?_ GE157.out) | exact HB.out)⟩⟩
        ·rw [if_neg c45] at H
         have c45b0 : decide (a0_2 < 0) = false := decide_eq_false c45
         clear c45
         (first | rw [c45b0] | (simp only [i64_w, i32_w]; rw [c45b0]) | skip)
         by_cases c47 : a0_2 > 536870911
         ·rw [if_pos c47] at H
          have c47b0 : decide (536870911 < a0_2) = true := decide_eq_true c47
          clear c47
          have H' := Aside0.mk H
          clear H
          have hcz48_0 : wr.cell? ⟨gb157, 0, none⟩ = some (.int .i64 a0_0) := (blk_cell BK157.out 0).trans rfl
          have hcz48_1 : wr.cell? ⟨gb157, 1, none⟩ = some (.int .i64 a0_1) := (blk_cell BK157.out 1).trans rfl
          have hcz48_2 : wr.cell? ⟨gb157, 2, none⟩ = some (.int .i64 a0_2) := (blk_cell BK157.out 2).trans rfl
          have hcz48_3 : wr.cell? ⟨gb157, 3, none⟩ = some (.slice A0_3 l0_3.length c0_3) := (blk_cell BK157.out 3).trans rfl
          have hcz48_4 : wr.cell? ⟨gb157, 4, none⟩ = some (.slice A0_4 l0_4.length c0_4) := (blk_cell BK157.out 4).trans rfl
          have hfz48_0 := blk_frozen BK157.out 0
          have hfz48_1 := blk_frozen BK157.out 1
          have hfz48_2 := blk_frozen BK157.out 2
          have hfz48_3 := blk_frozen BK157.out 3
          have hfz48_4 := blk_frozen BK157.out 4
          go_wp2
          go_meet
          case rel => exact ⟨_, (true), (by first | rfl | (simp; done) | (simp [*]; done)), H', ⟨by have := HK1.out; first | omega | exact Nat.le_refl _⟩, ⟨by (with_reducible repeat (first | refine blk_drewN ?_ _ | refine blk_drew ?_ | refine blk_alloc ?_ _)); exact BK157.out⟩, ⟨by repeat (first | (with_reducible first | exact HB.out | apply below_alloc | apply pw_below_drewN | apply below_drew1 | refine below_set ?_ GE157.out) | exact HB.out)⟩⟩
         ·rw [if_neg c47] at H
          have c47b0 : decide (536870911 < a0_2) = false := decide_eq_false c47
          clear c47
          by_cases c49 : a0_1 < 0
          ·rw [if_pos c49] at H
           have c49b0 : decide (a0_1 < 0) = true := decide_eq_true c49
           clear c49
           have H' := Aside0.mk H
           clear H
           have hcz50_0 : wr.cell? ⟨gb157, 0, none⟩ = some (.int .i64 a0_0) := (blk_cell BK157.out 0).trans rfl
           have hcz50_1 : wr.cell? ⟨gb157, 1, none⟩ = some (.int .i64 a0_1) := (blk_cell BK157.out 1).trans rfl
           have hcz50_2 : wr.cell? ⟨gb157, 2, none⟩ = some (.int .i64 a0_2) := (blk_cell BK157.out 2).trans rfl
           have hcz50_3 : wr.cell? ⟨gb157, 3, none⟩ = some (.slice A0_3 l0_3.length c0_3) := (blk_cell BK157.out 3).trans rfl
           have hcz50_4 : wr.cell? ⟨gb157, 4, none⟩ = some (.slice A0_4 l0_4.length c0_4) := (blk_cell BK157.out 4).trans rfl
           have hfz50_0 := blk_frozen BK157.out 0
           have hfz50_1 := blk_frozen BK157.out 1
           have hfz50_2 := blk_frozen BK157.out 2
           have hfz50_3 := blk_frozen BK157.out 3
           have hfz50_4 := blk_frozen BK157.out 4
           go_wp2
           go_meet
           case rel => exact ⟨_, (true), (by first | rfl | (simp; done) | (simp [*]; done)), H', ⟨by have := HK1.out; first | omega | exact Nat.le_refl _⟩, ⟨by (with_reducible repeat (first | refine blk_drewN ?_ _ | refine blk_drew ?_ | refine blk_alloc ?_ _)); exact BK157.out⟩, ⟨by repeat (first | (with_reducible first | exact HB.out | apply below_alloc | apply pw_below_drewN | apply below_drew1 | refine below_set ?_ GE157.out) | exact HB.out)⟩⟩
          ·rw [if_neg c49] at H
           have c49b0 : decide (a0_1 < 0) = false := decide_eq_false c49
           clear c49
           have H' := Aside0.mk H
           clear H
           have hcz51_0 : wr.cell? ⟨gb157, 0, none⟩ = some (.int .i64 a0_0) := (blk_cell BK157.out 0).trans rfl
           have hcz51_1 : wr.cell? ⟨gb157, 1, none⟩ = some (.int .i64 a0_1) := (blk_cell BK157.out 1).trans rfl
           have hcz51_2 : wr.cell? ⟨gb157, 2, none⟩ = some (.int .i64 a0_2) := (blk_cell BK157.out 2).trans rfl
           have hcz51_3 : wr.cell? ⟨gb157, 3, none⟩ = some (.slice A0_3 l0_3.length c0_3) := (blk_cell BK157.out 3).trans rfl
           have hcz51_4 : wr.cell? ⟨gb157, 4, none⟩ = some (.slice A0_4 l0_4.length c0_4) := (blk_cell BK157.out 4).trans rfl
           have hfz51_0 := blk_frozen BK157.out 0
           have hfz51_1 := blk_frozen BK157.out 1
           have hfz51_2 := blk_frozen BK157.out 2
           have hfz51_3 := blk_frozen BK157.out 3
           have hfz51_4 := blk_frozen BK157.out 4
           go_wp2
           go_meet
           case rel => exact ⟨_, (decide (a0_1 > 7)), (by first | rfl | (simp; done) | (simp [*]; done)), H', ⟨by have := HK1.out; first | omega | exact Nat.le_refl _⟩, ⟨by (with_reducible repeat (first | refine blk_drewN ?_ _ | refine blk_drew ?_ | refine blk_alloc ?_ _)); exact BK157.out⟩, ⟨by repeat (first | (with_reducible first | exact HB.out | apply below_alloc | apply pw_below_drewN | apply below_drew1 | refine below_set ?_ GE157.out) | exact HB.out)⟩⟩
       case rest =>
        clear HC43
        try clear c1
        try clear p1
        try clear q1
        try clear hx1
        try clear c2
        try clear p2
        try clear c3
        try clear c3b0
        try clear c4
        try clear c4b0
        try clear c6
        try clear p6
        try clear c7
        try clear c7b0
        try clear c7b1
        try clear c8
        try clear c8b0
        try clear c8b1
        try clear c9
        try clear c9b0
        try clear c9b1
        try clear c10
        try clear c15
        try clear p15
        try clear q15
        try clear hx15
        try clear c16
        try clear p16
        try clear q16
        try clear hx16
        try clear c24
        try clear c24b0
        try clear c24b1
        try clear c25
        try clear c25b0
        try clear c25b1
        try clear c26
        try clear c26b0
        try clear c26b1
        try clear c27
        try clear c27b0
        try clear c27b1
        try clear c27b2
        try clear c32
        try clear c32b0
        try clear c32b1
        try clear c33
        try clear c33b0
        try clear c33b1
        try clear c34
        try clear c34b0
        try clear c34b1
        try clear c35
        try clear c35b0
        try clear c35b1
        try clear c36
        try clear c36b0
        try clear c36b1
        try clear c42
        try clear c42b0
        try clear c42b1
        try clear c45
        try clear c45b0
        try clear c47
        try clear c47b0
        try clear c49
        try clear c49b0
        try clear hcz10_0
        try clear hcz10_1
        try clear hcz10_2
        try clear hcz10_3
        try clear hcz10_4
        try clear hcz12_0
        try clear hcz12_1
        try clear hcz12_2
        try clear hcz12_3
        try clear hcz12_4
        try clear hcz13_0
        try clear hcz13_1
        try clear hcz13_2
        try clear hcz13_3
        try clear hcz13_4
        try clear hcz15_0
        try clear hcz15_1
        try clear hcz15_2
        try clear hcz15_3
        try clear hcz15_4
        try clear hcz16_0
        try clear hcz16_1
        try clear hcz16_2
        try clear hcz16_3
        try clear hcz16_4
        try clear hcz18_0
        try clear hcz18_1
        try clear hcz18_2
        try clear hcz18_3
        try clear hcz18_4
        try clear hcz19_0
        try clear hcz19_1
        try clear hcz19_2
        try clear hcz19_3
        try clear hcz19_4
        try clear hcz21_0
        try clear hcz21_1
        try clear hcz21_2
        try clear hcz21_3
        try clear hcz21_4
        try clear hcz22_0
        try clear hcz22_1
        try clear hcz22_2
        try clear hcz22_3
        try clear hcz22_4
        try clear hcz28_0
        try clear hcz28_1
        try clear hcz28_2
        try clear hcz28_3
        try clear hcz28_4
        try clear hcz29_0
        try clear hcz29_1
        try clear hcz29_2
        try clear hcz29_3
        try clear hcz29_4
        try clear hcz30_0
        try clear hcz30_1
        try clear hcz30_2
        try clear hcz30_3
        try clear hcz30_4
        try clear hcz31_0
        try clear hcz31_1
        try clear hcz31_2
        try clear hcz31_3
        try clear hcz31_4
        try clear hcz37_0
        try clear hcz37_1
        try clear hcz37_2
        try clear hcz37_3
        try clear hcz37_4
        try clear hcz38_0
        try clear hcz38_1
        try clear hcz38_2
        try clear hcz38_3
        try clear hcz38_4
        try clear hcz39_0
        try clear hcz39_1
        try clear hcz39_2
        try clear hcz39_3
        try clear hcz39_4
        try clear hcz40_0
        try clear hcz40_1
        try clear hcz40_2
        try clear hcz40_3
        try clear hcz40_4
        try clear hcz41_0
        try clear hcz41_1
        try clear hcz41_2
        try clear hcz41_3
        try clear hcz41_4
        try clear hcz44_0
        try clear hcz44_1
        try clear hcz44_2
        try clear hcz44_3
        try clear hcz44_4
        try clear hcz46_0
        try clear hcz46_1
        try clear hcz46_2
        try clear hcz46_3
        try clear hcz46_4
        try clear hcz48_0
        try clear hcz48_1
        try clear hcz48_2
        try clear hcz48_3
        try clear hcz48_4
        try clear hcz50_0
        try clear hcz50_1
        try clear hcz50_2
        try clear hcz50_3
        try clear hcz50_4
        try clear hcz51_0
        try clear hcz51_1
        try clear hcz51_2
        try clear hcz51_3
        try clear hcz51_4
        try clear hfz10_0
        try clear hfz10_1
        try clear hfz10_2
        try clear hfz10_3
        try clear hfz10_4
        try clear hfz12_0
        try clear hfz12_1
        try clear hfz12_2
        try clear hfz12_3
        try clear hfz12_4
        try clear hfz13_0
        try clear hfz13_1
        try clear hfz13_2
        try clear hfz13_3
        try clear hfz13_4
        try clear hfz15_0
        try clear hfz15_1
        try clear hfz15_2
        try clear hfz15_3
        try clear hfz15_4
        try clear hfz16_0
        try clear hfz16_1
        try clear hfz16_2
        try clear hfz16_3
        try clear hfz16_4
        try clear hfz18_0
        try clear hfz18_1
        try clear hfz18_2
        try clear hfz18_3
        try clear hfz18_4
        try clear hfz19_0
        try clear hfz19_1
        try clear hfz19_2
        try clear hfz19_3
        try clear hfz19_4
        try clear hfz21_0
        try clear hfz21_1
        try clear hfz21_2
        try clear hfz21_3
        try clear hfz21_4
        try clear hfz22_0
        try clear hfz22_1
        try clear hfz22_2
        try clear hfz22_3
        try clear hfz22_4
        try clear hfz28_0
        try clear hfz28_1
        try clear hfz28_2
        try clear hfz28_3
        try clear hfz28_4
        try clear hfz29_0
        try clear hfz29_1
        try clear hfz29_2
        try clear hfz29_3
        try clear hfz29_4
        try clear hfz30_0
        try clear hfz30_1
        try clear hfz30_2
        try clear hfz30_3
        try clear hfz30_4
        try clear hfz31_0
        try clear hfz31_1
        try clear hfz31_2
        try clear hfz31_3
        try clear hfz31_4
        try clear hfz37_0
        try clear hfz37_1
        try clear hfz37_2
        try clear hfz37_3
        try clear hfz37_4
        try clear hfz38_0
        try clear hfz38_1
        try clear hfz38_2
        try clear hfz38_3
        try clear hfz38_4
        try clear hfz39_0
        try clear hfz39_1
        try clear hfz39_2
        try clear hfz39_3
        try clear hfz39_4
        try clear hfz40_0
        try clear hfz40_1
        try clear hfz40_2
        try clear hfz40_3
        try clear hfz40_4
        try clear hfz41_0
        try clear hfz41_1
        try clear hfz41_2
        try clear hfz41_3
        try clear hfz41_4
        try clear hfz44_0
        try clear hfz44_1
        try clear hfz44_2
        try clear hfz44_3
        try clear hfz44_4
        try clear hfz46_0
        try clear hfz46_1
        try clear hfz46_2
        try clear hfz46_3
        try clear hfz46_4
        try clear hfz48_0
        try clear hfz48_1
        try clear hfz48_2
        try clear hfz48_3
        try clear hfz48_4
        try clear hfz50_0
        try clear hfz50_1
        try clear hfz50_2
        try clear hfz50_3
        try clear hfz50_4
        try clear hfz51_0
        try clear hfz51_1
        try clear hfz51_2
        try clear hfz51_3
        try clear hfz51_4
        try clear hx158_0
        try clear hx158_1
        try clear hx158_2
        try clear hx158_3
        try clear hx158_4
        try clear hx160_0
        try clear hx160_1
        try clear hx160_2
        try clear hx160_3
        try clear hx160_4
        try clear p158
        try clear p160
        try clear p2
        try clear q158
        try clear q160
        obtain ⟨kq, x109_42, rfl, HA, HJ42, BK157, HB⟩ := hcut
        cases kq with
        | zero => exact absurd HA.out (by simp [capnpref10_Valid.j1])
        | succ kj42 =>
         have H := HA.out
         clear HA
         simp only [capnpref10_Valid.j1] at H
         by_cases c52 : x109_42 = true
         ·subst c52
          have H1 : (some false) = some r := by rw [if_pos rfl] at H; exact H
          clear H
          have H := H1
          clear H1
          obtain rfl := Option.some.inj H
          go_wp2
          go_ret
          exact ⟨by first | rfl | (simp [errW_none, errW_some] <;> rfl) | (simp [*, errW_none, errW_some] <;> rfl), by repeat (first | (with_reducible first | exact HB.out | apply below_alloc | apply pw_below_drewN | apply below_drew1 | refine below_set ?_ GE157.out) | exact HB.out)⟩
         ·replace c52 := Bool.eq_false_iff.mpr c52
          subst c52
          have H1 : (if a0_1 ≥ 6 then (if (l0_3.length : Int) = 0 then (some ((l0_4.length : Int) == a0_2)) else (some false)) else (if (l0_4.length : Int) = 0 then ((capnpref06_Bytes.f a0_1 a0_2).bind fun t161 => (capnpref10_Valid.j2 kj42 ((l0_3.length : Int) != t161) a0_0 a0_1 a0_2 l0_3 l0_4)) else (capnpref10_Valid.j2 kj42 true a0_0 a0_1 a0_2 l0_3 l0_4))) = some r := by rw [if_neg (show ¬ (false = true) by decide)] at H; exact H
          clear H
          have H := H1
          clear H1
          by_cases c53 : a0_1 ≥ 6
          ·rw [if_pos c53] at H
           have c53b0 : decide (6 ≤ a0_1) = true := decide_eq_true c53
           clear c53
           by_cases c54 : (l0_3.length : Int) = 0
           ·rw [if_pos c54] at H
            have c54b0 : ((l0_3.length : Int) == 0) = true := beq_iff_eq.mpr c54
            have c54b1 : ((l0_3.length : Int) != 0) = false := bne_eq_false_iff_eq.mpr c54
            clear c54
            obtain rfl := Option.some.inj H
            have hcz55_0 : wc.cell? ⟨gb157, 0, none⟩ = some (.int .i64 a0_0) := (blk_cell BK157.out 0).trans rfl
            have hcz55_1 : wc.cell? ⟨gb157, 1, none⟩ = some (.int .i64 a0_1) := (blk_cell BK157.out 1).trans rfl
            have hcz55_2 : wc.cell? ⟨gb157, 2, none⟩ = some (.int .i64 a0_2) := (blk_cell BK157.out 2).trans rfl
            have hcz55_3 : wc.cell? ⟨gb157, 3, none⟩ = some (.slice A0_3 l0_3.length c0_3) := (blk_cell BK157.out 3).trans rfl
            have hcz55_4 : wc.cell? ⟨gb157, 4, none⟩ = some (.slice A0_4 l0_4.length c0_4) := (blk_cell BK157.out 4).trans rfl
            have hfz55_0 := blk_frozen BK157.out 0
            have hfz55_1 := blk_frozen BK157.out 1
            have hfz55_2 := blk_frozen BK157.out 2
            have hfz55_3 := blk_frozen BK157.out 3
            have hfz55_4 := blk_frozen BK157.out 4
            go_wp2
            go_ret
            exact ⟨by first | rfl | (simp [errW_none, errW_some] <;> rfl) | (simp [*, errW_none, errW_some] <;> rfl), by repeat (first | (with_reducible first | exact HB.out | apply below_alloc | apply pw_below_drewN | apply below_drew1 | refine below_set ?_ GE157.out) | exact HB.out)⟩
           ·rw [if_neg c54] at H
            have c54b0 : ((l0_3.length : Int) == 0) = false := beq_eq_false_iff_ne.mpr c54
            have c54b1 : ((l0_3.length : Int) != 0) = true := bne_iff_ne.mpr c54
            have c54b2 : ¬ (l0_3 = []) := fun h_ => c54 (by rw [h_]; rfl)
            obtain rfl := Option.some.inj H
            have hcz56_0 : wc.cell? ⟨gb157, 0, none⟩ = some (.int .i64 a0_0) := (blk_cell BK157.out 0).trans rfl
            have hcz56_1 : wc.cell? ⟨gb157, 1, none⟩ = some (.int .i64 a0_1) := (blk_cell BK157.out 1).trans rfl
            have hcz56_2 : wc.cell? ⟨gb157, 2, none⟩ = some (.int .i64 a0_2) := (blk_cell BK157.out 2).trans rfl
            have hcz56_3 : wc.cell? ⟨gb157, 3, none⟩ = some (.slice A0_3 l0_3.length c0_3) := (blk_cell BK157.out 3).trans rfl
            have hcz56_4 : wc.cell? ⟨gb157, 4, none⟩ = some (.slice A0_4 l0_4.length c0_4) := (blk_cell BK157.out 4).trans rfl
            have hfz56_0 := blk_frozen BK157.out 0
            have hfz56_1 := blk_frozen BK157.out 1
            have hfz56_2 := blk_frozen BK157.out 2
            have hfz56_3 := blk_frozen BK157.out 3
            have hfz56_4 := blk_frozen BK157.out 4
            go_wp2
            go_ret
            exact ⟨by first | rfl | (simp [errW_none, errW_some] <;> rfl) | (simp [*, errW_none, errW_some] <;> rfl), by repeat (first | (with_reducible first | exact HB.out | apply below_alloc | apply pw_below_drewN | apply below_drew1 | refine below_set ?_ GE157.out) | exact HB.out)⟩
          ·rw [if_neg c53] at H
           have c53b0 : decide (6 ≤ a0_1) = false := decide_eq_false c53
           clear c53
           have HC57 := Aside0.mk H
           clear H
           have hcz58_0 : wc.cell? ⟨gb157, 0, none⟩ = some (.int .i64 a0_0) := (blk_cell BK157.out 0).trans rfl
           have hcz58_1 : wc.cell? ⟨gb157, 1, none⟩ = some (.int .i64 a0_1) := (blk_cell BK157.out 1).trans rfl
           have hcz58_2 : wc.cell? ⟨gb157, 2, none⟩ = some (.int .i64 a0_2) := (blk_cell BK157.out 2).trans rfl
           have hcz58_3 : wc.cell? ⟨gb157, 3, none⟩ = some (.slice A0_3 l0_3.length c0_3) := (blk_cell BK157.out 3).trans rfl
           have hcz58_4 : wc.cell? ⟨gb157, 4, none⟩ = some (.slice A0_4 l0_4.length c0_4) := (blk_cell BK157.out 4).trans rfl
           have hfz58_0 := blk_frozen BK157.out 0
           have hfz58_1 := blk_frozen BK157.out 1
           have hfz58_2 := blk_frozen BK157.out 2
           have hfz58_3 := blk_frozen BK157.out 3
           have hfz58_4 := blk_frozen BK157.out 4
           go_upto_region 16 with (fail)
           go_cut [139] (fun v139 wc => ∃ (kq : Nat) (x139_56 : Bool), v139 = .bool x139_56 ∧ Aside0 (capnpref10_Valid.j2 kq x139_56 a0_0 a0_1 a0_2 l0_3 l0_4 = some r) ∧ Aside0 (kq ≤ kj42) ∧ Aside0 (wc.heap[gb157]? = some (.cells #[.int .i64 a0_0, .int .i64 a0_1, .int .i64 a0_2, (.slice A0_3 l0_3.length c0_3), (.slice A0_4 l0_4.length c0_4)] 25 (0, 0))) ∧ Aside0 (Below w.heap.size w wc))
           case first =>
            have H := HC57.out
            clear HC57
            by_cases c59 : (l0_4.length : Int) = 0
            ·rw [if_pos c59] at H
             have c59b0 : ((l0_4.length : Int) == 0) = true := beq_iff_eq.mpr c59
             have c59b1 : ((l0_4.length : Int) != 0) = false := bne_eq_false_iff_eq.mpr c59
             clear c59
             (first | rw [c59b0] | (simp only [i64_w, i32_w]; rw [c59b0]) | skip)
             replace H := Option.bind_eq_some_iff.mp H
             obtain ⟨t161, A600, H⟩ := H
             replace H : (capnpref10_Valid.j2 kj42 ((l0_3.length : Int) != t161) a0_0 a0_1 a0_2 l0_3 l0_4) = some r := H
             have A60 := Aside0.mk A600
             clear A600
             have H' := Aside0.mk H
             clear H
             try go_wp2
             have n0_ := Aside0.mk (blk_drew BK157.out)
             have n1_ := Aside0.mk (below_drew1 HB.out)
             clear BK157
             clear HB
             have BK157 := n0_
             have HB := n1_
             clear n0_ n1_
             refine start_ (n := 15) (S := fun w' => w'.cell? ⟨gb157, 0, none⟩ = some (.int .i64 a0_0) ∧ w'.cell? ⟨gb157, 1, none⟩ = some (.int .i64 a0_1) ∧ w'.cell? ⟨gb157, 2, none⟩ = some (.int .i64 a0_2) ∧ w'.cell? ⟨gb157, 3, none⟩ = some (.slice A0_3 l0_3.length c0_3) ∧ w'.cell? ⟨gb157, 4, none⟩ = some (.slice A0_4 l0_4.length c0_4)) (ds := []) #[false, false, false, false, false, false, false, false, false, false, false, false, false, false, false] (by kernel_rfl) rfl rfl ⟨(blk_cell BK157.out 0).trans rfl, (blk_cell BK157.out 1).trans rfl, (blk_cell BK157.out 2).trans rfl, (blk_cell BK157.out 3).trans rfl, (blk_cell BK157.out 4).trans rfl⟩ (fun hHeld => ?_); refine with_tabW capnpref10_Valid.tab16 capnpref10_Valid.bits16 (fun HT_ HW_ => ?_)
             generalize wc.drew = w61 at BK157 HB hHeld ⊢
             refine pure_ (i := 0) (N := some 125) (v := ?_) (a' := ?_) #[true, false, false, false, false, false, false, false, false, false, false, false, false, false, false] rfl rfl (any_of HT_.out (by kernel_rfl)) (fun _ _ _ h => h) (Or.inl ⟨by rfl, ?_⟩) ?_ ?_
             rotate_left
             ·intro w'
              go_simp
              with_reducible rfl
             rotate_left
             ·simp only [Act.put, List.setIfInBounds_toArray, List.set_cons_zero, List.set_cons_succ, i64_w, i32_w]
              rfl
             refine take_ (i := 1) (N := some 126) (v := ?_) (a' := ?_) #[true, true, false, false, false, false, false, false, false, false, false, false, false, false, false] rfl rfl (take_ofW HT_.out HW_.out (by kernel_rfl)) (fun _ _ _ h => h) (Or.inl ⟨by rfl, ?_⟩) hHeld ?_ ?_
             rotate_left
             ·rintro w' ⟨s0, s1, s2, s3, s4⟩
              go_simp
              with_reducible rfl
             rotate_left
             ·simp only [Act.put, List.setIfInBounds_toArray, List.set_cons_zero, List.set_cons_succ, i64_w, i32_w]
              rfl
             refine pure_ (i := 2) (N := some 127) (v := ?_) (a' := ?_) #[true, true, true, false, false, false, false, false, false, false, false, false, false, false, false] rfl rfl (any_of HT_.out (by kernel_rfl)) (fun _ _ _ h => h) (Or.inl ⟨by rfl, ?_⟩) ?_ ?_
             rotate_left
             ·intro w'
              go_simp
              with_reducible rfl
             rotate_left
             ·simp only [Act.put, List.setIfInBounds_toArray, List.set_cons_zero, List.set_cons_succ, i64_w, i32_w]
              rfl
             refine pure_ (i := 3) (N := some 128) (v := ?_) (a' := ?_) #[true, true, true, true, false, false, false, false, false, false, false, false, false, false, false] rfl rfl (any_of HT_.out (by kernel_rfl)) (fun _ _ _ h => h) (Or.inl ⟨by rfl, ?_⟩) ?_ ?_
             rotate_left
             ·intro w'
              go_simp
              with_reducible rfl
             rotate_left
             ·simp only [Act.put, List.setIfInBounds_toArray, List.set_cons_zero, List.set_cons_succ, i64_w, i32_w]
              rfl
             refine pure_ (i := 4) (N := some 129) (v := ?_) (a' := ?_) #[true, true, true, true, true, false, false, false, false, false, false, false, false, false, false] rfl rfl (any_of HT_.out (by kernel_rfl)) (fun _ _ _ h => h) (Or.inl ⟨by rfl, ?_⟩) ?_ ?_
             rotate_left
             ·intro w'
              go_simp
              with_reducible rfl
             rotate_left
             ·simp only [Act.put, List.setIfInBounds_toArray, List.set_cons_zero, List.set_cons_succ, i64_w, i32_w]
              rfl
             refine pure_ (i := 5) (N := some 130) (v := ?_) (a' := ?_) #[true, true, true, true, true, true, false, false, false, false, false, false, false, false, false] rfl rfl (any_of HT_.out (by kernel_rfl)) (fun _ _ _ h => h) (Or.inl ⟨by rfl, ?_⟩) ?_ ?_
             rotate_left
             ·intro w'
              go_simp
              with_reducible rfl
             rotate_left
             ·simp only [Act.put, List.setIfInBounds_toArray, List.set_cons_zero, List.set_cons_succ, i64_w, i32_w]
              rfl
             refine pure_ (i := 8) (N := some 133) (v := ?_) (a' := ?_) #[true, true, true, true, true, true, false, false, true, false, false, false, false, false, false] rfl rfl (any_of HT_.out (by kernel_rfl)) (fun _ _ _ h => h) (Or.inl ⟨by rfl, ?_⟩) ?_ ?_
             rotate_left
             ·intro w'
              go_simp
              with_reducible rfl
             rotate_left
             ·simp only [Act.put, List.setIfInBounds_toArray, List.set_cons_zero, List.set_cons_succ, i64_w, i32_w]
              rfl
             refine pure_ (i := 10) (N := some 135) (v := ?_) (a' := ?_) #[true, true, true, true, true, true, false, false, true, false, true, false, false, false, false] rfl rfl (any_of HT_.out (by kernel_rfl)) (fun _ _ _ h => h) (Or.inl ⟨by rfl, ?_⟩) ?_ ?_
             rotate_left
             ·intro w'
              go_simp
              with_reducible rfl
             rotate_left
             ·simp only [Act.put, List.setIfInBounds_toArray, List.set_cons_zero, List.set_cons_succ, i64_w, i32_w]
              rfl
             refine take_ (i := 6) (N := some 131) (v := ?_) (a' := ?_) #[true, true, true, true, true, true, true, false, true, false, true, false, false, false, false] rfl rfl (take_ofW HT_.out HW_.out (by kernel_rfl)) (fun _ _ _ h => h) (Or.inl ⟨by rfl, ?_⟩) hHeld ?_ ?_
             rotate_left
             ·rintro w' ⟨s0, s1, s2, s3, s4⟩
              go_simp
              with_reducible rfl
             rotate_left
             ·simp only [Act.put, List.setIfInBounds_toArray, List.set_cons_zero, List.set_cons_succ, i64_w, i32_w]
              rfl
             refine pure_ (i := 7) (N := some 132) (v := ?_) (a' := ?_) #[true, true, true, true, true, true, true, true, true, false, true, false, false, false, false] rfl rfl (any_of HT_.out (by kernel_rfl)) (fun _ _ _ h => h) (Or.inl ⟨by rfl, ?_⟩) ?_ ?_
             rotate_left
             ·intro w'
              go_simp
              with_reducible rfl
             rotate_left
             ·simp only [Act.put, List.setIfInBounds_toArray, List.set_cons_zero, List.set_cons_succ, i64_w, i32_w]
              rfl
             refine take_ (i := 9) (N := some 134) (v := ?_) (a' := ?_) #[true, true, true, true, true, true, true, true, true, true, true, false, false, false, false] rfl rfl (take_ofW HT_.out HW_.out (by kernel_rfl)) (fun _ _ _ h => h) (Or.inl ⟨by rfl, ?_⟩) hHeld ?_ ?_
             rotate_left
             ·rintro w' ⟨s0, s1, s2, s3, s4⟩
              go_simp
              with_reducible rfl
             rotate_left
             ·simp only [Act.put, List.setIfInBounds_toArray, List.set_cons_zero, List.set_cons_succ, i64_w, i32_w]
              rfl
             refine take_ (i := 11) (N := some 136) (v := ?_) (a' := ?_) #[true, true, true, true, true, true, true, true, true, true, true, true, false, false, false] rfl rfl (take_ofW HT_.out HW_.out (by kernel_rfl)) (fun _ _ _ h => h) (Or.inl ⟨by rfl, ?_⟩) hHeld ?_ ?_
             rotate_left
             ·rintro w' ⟨s0, s1, s2, s3, s4⟩
              go_simp
              with_reducible rfl
             rotate_left
             ·simp only [Act.put, List.setIfInBounds_toArray, List.set_cons_zero, List.set_cons_succ, i64_w, i32_w]
              rfl
             refine one_ (i := 12) (N := some 137) #[true, true, true, true, true, true, true, true, true, true, true, true, true, false, false] rfl rfl (one_of HT_.out (by kernel_rfl)) (by decide) (fun K hK => ?_)
             refine goes_ Try.func26 (by kernel_rfl) rfl #[.int .i64 a0_1, .int .i64 a0_2] (by rfl) rfl rfl (by (try simp only [List.map_toArray, List.map_cons, List.map_nil]); first | done | rfl | (simp only [List.length_drop, List.length_take]; rfl)) ?_
             with_reducible refine (capnpref06_Bytes.calls a0_1 a0_2 t161 _ A60.out).mono ?_
             rintro e w' ⟨rfl, ⟨nd, rfl⟩⟩
             refine ⟨_, rfl, ?_⟩
             refine hK.out _ _ ⟨(blk_cell BK157.out 0).trans rfl, (blk_cell BK157.out 1).trans rfl, (blk_cell BK157.out 2).trans rfl, (blk_cell BK157.out 3).trans rfl, (blk_cell BK157.out 4).trans rfl⟩ (fun hHeld => ?_)
             clear hK K
             refine norm_ (a' := ?_) ?_ ?_
             rotate_left
             ·show Act.put _ (some 137) _ = _
              simp only [Act.put, List.setIfInBounds_toArray, List.set_cons_zero, List.set_cons_succ, i64_w, i32_w]
              rfl
             refine pure_ (i := 13) (N := some 138) (v := ?_) (a' := ?_) #[true, true, true, true, true, true, true, true, true, true, true, true, true, true, false] rfl rfl (any_of HT_.out (by kernel_rfl)) (fun _ _ _ h => h) (Or.inl ⟨by rfl, ?_⟩) ?_ ?_
             rotate_left
             ·intro w'
              go_simp
              with_reducible rfl
             rotate_left
             ·simp only [Act.put, List.setIfInBounds_toArray, List.set_cons_zero, List.set_cons_succ, i64_w, i32_w]
              rfl
             refine pure_ (i := 14) (N := some 139) (v := ?_) (a' := ?_) #[true, true, true, true, true, true, true, true, true, true, true, true, true, true, true] rfl rfl (any_of HT_.out (by kernel_rfl)) (fun _ _ _ h => h) (Or.inl ⟨by rfl, ?_⟩) ?_ ?_
             rotate_left
             ·intro w'
              go_simp
              with_reducible rfl
             rotate_left
             ·simp only [Act.put, List.setIfInBounds_toArray, List.set_cons_zero, List.set_cons_succ, i64_w, i32_w]
              rfl
             refine done_ (done_of HT_.out (by kernel_rfl)) ?_
             try go_wp2
             go_meet
             case rel => exact ⟨_, (((l0_3.length : Int) != t161)), (by first | rfl | (simp; done) | (simp [*]; done)), H', ⟨by have := HK1.out; have := HJ42.out; first | omega | exact Nat.le_refl _⟩, ⟨by (with_reducible repeat (first | refine blk_drewN ?_ _ | refine blk_drew ?_ | refine blk_alloc ?_ _)); exact BK157.out⟩, ⟨by repeat (first | (with_reducible first | exact HB.out | apply below_alloc | apply pw_below_drewN | apply below_drew1 | refine below_set ?_ GE157.out) | exact HB.out)⟩⟩
            ·rw [if_neg c59] at H
             have c59b0 : ((l0_4.length : Int) == 0) = false := beq_eq_false_iff_ne.mpr c59
             have c59b1 : ((l0_4.length : Int) != 0) = true := bne_iff_ne.mpr c59
             have c59b2 : ¬ (l0_4 = []) := fun h_ => c59 (by rw [h_]; rfl)
             (first | rw [c59b0] | (simp only [i64_w, i32_w]; rw [c59b0]) | skip)
             have H' := Aside0.mk H
             clear H
             try go_wp2
             have n0_ := Aside0.mk (blk_drew BK157.out)
             have n1_ := Aside0.mk (below_drew1 HB.out)
             clear BK157
             clear HB
             have BK157 := n0_
             have HB := n1_
             clear n0_ n1_
             refine start_ (n := 15) (S := fun w' => w'.cell? ⟨gb157, 0, none⟩ = some (.int .i64 a0_0) ∧ w'.cell? ⟨gb157, 1, none⟩ = some (.int .i64 a0_1) ∧ w'.cell? ⟨gb157, 2, none⟩ = some (.int .i64 a0_2) ∧ w'.cell? ⟨gb157, 3, none⟩ = some (.slice A0_3 l0_3.length c0_3) ∧ w'.cell? ⟨gb157, 4, none⟩ = some (.slice A0_4 l0_4.length c0_4)) (ds := []) #[false, false, false, false, false, false, false, false, false, false, false, false, false, false, false] (by kernel_rfl) rfl rfl ⟨(blk_cell BK157.out 0).trans rfl, (blk_cell BK157.out 1).trans rfl, (blk_cell BK157.out 2).trans rfl, (blk_cell BK157.out 3).trans rfl, (blk_cell BK157.out 4).trans rfl⟩ (fun hHeld => ?_); refine with_tabW capnpref10_Valid.tab16 capnpref10_Valid.bits16 (fun HT_ HW_ => ?_)
             generalize wc.drew = w62 at BK157 HB hHeld ⊢
             refine pure_ (i := 0) (N := some 125) (v := ?_) (a' := ?_) #[true, false, false, false, false, false, false, false, false, false, false, false, false, false, false] rfl rfl (any_of HT_.out (by kernel_rfl)) (fun _ _ _ h => h) (Or.inl ⟨by rfl, ?_⟩) ?_ ?_
             rotate_left
             ·intro w'
              go_simp
              with_reducible rfl
             rotate_left
             ·simp only [Act.put, List.setIfInBounds_toArray, List.set_cons_zero, List.set_cons_succ, i64_w, i32_w]
              rfl
             refine take_ (i := 1) (N := some 126) (v := ?_) (a' := ?_) #[true, true, false, false, false, false, false, false, false, false, false, false, false, false, false] rfl rfl (take_ofW HT_.out HW_.out (by kernel_rfl)) (fun _ _ _ h => h) (Or.inl ⟨by rfl, ?_⟩) hHeld ?_ ?_
             rotate_left
             ·rintro w' ⟨s0, s1, s2, s3, s4⟩
              go_simp
              with_reducible rfl
             rotate_left
             ·simp only [Act.put, List.setIfInBounds_toArray, List.set_cons_zero, List.set_cons_succ, i64_w, i32_w]
              rfl
             refine pure_ (i := 2) (N := some 127) (v := ?_) (a' := ?_) #[true, true, true, false, false, false, false, false, false, false, false, false, false, false, false] rfl rfl (any_of HT_.out (by kernel_rfl)) (fun _ _ _ h => h) (Or.inl ⟨by rfl, ?_⟩) ?_ ?_
             rotate_left
             ·intro w'
              go_simp
              with_reducible rfl
             rotate_left
             ·simp only [Act.put, List.setIfInBounds_toArray, List.set_cons_zero, List.set_cons_succ, i64_w, i32_w]
              rfl
             refine pure_ (i := 3) (N := some 128) (v := ?_) (a' := ?_) #[true, true, true, true, false, false, false, false, false, false, false, false, false, false, false] rfl rfl (any_of HT_.out (by kernel_rfl)) (fun _ _ _ h => h) (Or.inl ⟨by rfl, ?_⟩) ?_ ?_
             rotate_left
             ·intro w'
              go_simp
              with_reducible rfl
             rotate_left
             ·simp only [Act.put, List.setIfInBounds_toArray, List.set_cons_zero, List.set_cons_succ, i64_w, i32_w]
              rfl
             refine pure_ (i := 4) (N := some 129) (v := ?_) (a' := ?_) #[true, true, true, true, true, false, false, false, false, false, false, false, false, false, false] rfl rfl (any_of HT_.out (by kernel_rfl)) (fun _ _ _ h => h) (Or.inl ⟨by rfl, ?_⟩) ?_ ?_
             rotate_left
             ·intro w'
              go_simp
              with_reducible rfl
             rotate_left
             ·simp only [Act.put, List.setIfInBounds_toArray, List.set_cons_zero, List.set_cons_succ, i64_w, i32_w]
              rfl
             refine pure_ (i := 5) (N := some 130) (v := undef) (a' := ?_) #[true, true, true, true, true, true, false, false, false, false, false, false, false, false, false] rfl rfl (any_of HT_.out (by kernel_rfl)) (fun _ _ _ h => h) (Or.inr ⟨by rfl, rfl⟩) ?_ ?_
             rotate_left
             ·simp only [Act.put, List.setIfInBounds_toArray, List.set_cons_zero, List.set_cons_succ, i64_w, i32_w]
              rfl
             refine pure_ (i := 6) (N := some 131) (v := undef) (a' := ?_) #[true, true, true, true, true, true, true, false, false, false, false, false, false, false, false] rfl rfl (any_of HT_.out (by kernel_rfl)) (fun _ _ _ h => h) (Or.inr ⟨by rfl, rfl⟩) ?_ ?_
             rotate_left
             ·simp only [Act.put, List.setIfInBounds_toArray, List.set_cons_zero, List.set_cons_succ, i64_w, i32_w]
              rfl
             refine pure_ (i := 7) (N := some 132) (v := undef) (a' := ?_) #[true, true, true, true, true, true, true, true, false, false, false, false, false, false, false] rfl rfl (any_of HT_.out (by kernel_rfl)) (fun _ _ _ h => h) (Or.inr ⟨by rfl, rfl⟩) ?_ ?_
             rotate_left
             ·simp only [Act.put, List.setIfInBounds_toArray, List.set_cons_zero, List.set_cons_succ, i64_w, i32_w]
              rfl
             refine pure_ (i := 8) (N := some 133) (v := undef) (a' := ?_) #[true, true, true, true, true, true, true, true, true, false, false, false, false, false, false] rfl rfl (any_of HT_.out (by kernel_rfl)) (fun _ _ _ h => h) (Or.inr ⟨by rfl, rfl⟩) ?_ ?_
             rotate_left
             ·simp only [Act.put, List.setIfInBounds_toArray, List.set_cons_zero, List.set_cons_succ, i64_w, i32_w]
              rfl
             refine pure_ (i := 9) (N := some 134) (v := undef) (a' := ?_) #[true, true, true, true, true, true, true, true, true, true, false, false, false, false, false] rfl rfl (any_of HT_.out (by kernel_rfl)) (fun _ _ _ h => h) (Or.inr ⟨by rfl, rfl⟩) ?_ ?_
             rotate_left
             ·simp only [Act.put, List.setIfInBounds_toArray, List.set_cons_zero, List.set_cons_succ, i64_w, i32_w]
              rfl
             refine pure_ (i := 10) (N := some 135) (v := undef) (a' := ?_) #[true, true, true, true, true, true, true, true, true, true, true, false, false, false, false] rfl rfl (any_of HT_.out (by kernel_rfl)) (fun _ _ _ h => h) (Or.inr ⟨by rfl, rfl⟩) ?_ ?_
             rotate_left
             ·simp only [Act.put, List.setIfInBounds_toArray, List.set_cons_zero, List.set_cons_succ, i64_w, i32_w]
              rfl
             refine pure_ (i := 11) (N := some 136) (v := undef) (a' := ?_) #[true, true, true, true, true, true, true, true, true, true, true, true, false, false, false] rfl rfl (any_of HT_.out (by kernel_rfl)) (fun _ _ _ h => h) (Or.inr ⟨by rfl, rfl⟩) ?_ ?_
             rotate_left
             ·simp only [Act.put, List.setIfInBounds_toArray, List.set_cons_zero, List.set_cons_succ, i64_w, i32_w]
              rfl
             refine pure_ (i := 12) (N := some 137) (v := undef) (a' := ?_) #[true, true, true, true, true, true, true, true, true, true, true, true, true, false, false] rfl rfl (any_of HT_.out (by kernel_rfl)) (fun _ _ _ h => h) (Or.inr ⟨by rfl, rfl⟩) ?_ ?_
             rotate_left
             ·simp only [Act.put, List.setIfInBounds_toArray, List.set_cons_zero, List.set_cons_succ, i64_w, i32_w]
              rfl
             refine pure_ (i := 13) (N := some 138) (v := undef) (a' := ?_) #[true, true, true, true, true, true, true, true, true, true, true, true, true, true, false] rfl rfl (any_of HT_.out (by kernel_rfl)) (fun _ _ _ h => h) (Or.inr ⟨by rfl, rfl⟩) ?_ ?_
             rotate_left
             ·simp only [Act.put, List.setIfInBounds_toArray, List.set_cons_zero, List.set_cons_succ, i64_w, i32_w]
              rfl
             refine pure_ (i := 14) (N := some 139) (v := ?_) (a' := ?_) #[true, true, true, true, true, true, true, true, true, true, true, true, true, true, true] rfl rfl (any_of HT_.out (by kernel_rfl)) (fun _ _ _ h => h) (Or.inl ⟨by rfl, ?_⟩) ?_ ?_
             rotate_left
             ·intro w'
              go_simp
              with_reducible rfl
             rotate_left
             ·simp only [Act.put, List.setIfInBounds_toArray, List.set_cons_zero, List.set_cons_succ, i64_w, i32_w]
              rfl
             refine done_ (done_of HT_.out (by kernel_rfl)) ?_
             try go_wp2
             go_meet
             case rel => exact ⟨_, (true), (by first | rfl | (simp; done) | (simp [*]; done)), H', ⟨by have := HK1.out; have := HJ42.out; first | omega | exact Nat.le_refl _⟩, ⟨by (with_reducible repeat (first | refine blk_drewN ?_ _ | refine blk_drew ?_ | refine blk_alloc ?_ _)); exact BK157.out⟩, ⟨by repeat (first | (with_reducible first | exact HB.out | apply below_alloc | apply pw_below_drewN | apply below_drew1 | refine below_set ?_ GE157.out) | exact HB.out)⟩⟩
           case rest =>
            clear HC57
            try clear p1
            try clear q1
            try clear hx1
            try clear c2
            try clear p2
            try clear c3
            try clear c4
            try clear c5
            try clear p15
            try clear q15
            try clear hx15
            try clear p16
            try clear q16
            try clear hx16
            try clear c26
            try clear c35
            try clear c35b1
            try clear c36
            try clear c36b0
            try clear c36b1
            try clear c42
            try clear c42b0
            try clear c42b1
            try clear c45
            try clear c45b0
            try clear c47
            try clear c47b0
            try clear c49
            try clear c49b0
            try clear c52
            try clear c53
            try clear c53b0
            try clear c54
            try clear c54b0
            try clear c54b1
            try clear c54b2
            try clear c59
            try clear c59b0
            try clear c59b1
            try clear c59b2
            try clear hcz10_0
            try clear hcz10_1
            try clear hcz10_2
            try clear hcz10_3
            try clear hcz10_4
            try clear hcz12_0
            try clear hcz12_1
            try clear hcz12_2
            try clear hcz12_3
            try clear hcz12_4
            try clear hcz13_0
            try clear hcz13_1
            try clear hcz13_2
            try clear hcz13_3
            try clear hcz13_4
            try clear hcz15_0
            try clear hcz15_1
            try clear hcz15_2
            try clear hcz15_3
            try clear hcz15_4
            try clear hcz16_0
            try clear hcz16_1
            try clear hcz16_2
            try clear hcz16_3
            try clear hcz16_4
            try clear hcz18_0
            try clear hcz18_1
            try clear hcz18_2
            try clear hcz18_3
            try clear hcz18_4
            try clear hcz19_0
            try clear hcz19_1
            try clear hcz19_2
            try clear hcz19_3
            try clear hcz19_4
            try clear hcz21_0
            try clear hcz21_1
            try clear hcz21_2
            try clear hcz21_3
            try clear hcz21_4
            try clear hcz22_0
            try clear hcz22_1
            try clear hcz22_2
            try clear hcz22_3
            try clear hcz22_4
            try clear hcz28_0
            try clear hcz28_1
            try clear hcz28_2
            try clear hcz28_3
            try clear hcz28_4
            try clear hcz29_0
            try clear hcz29_1
            try clear hcz29_2
            try clear hcz29_3
            try clear hcz29_4
            try clear hcz30_0
            try clear hcz30_1
            try clear hcz30_2
            try clear hcz30_3
            try clear hcz30_4
            try clear hcz31_0
            try clear hcz31_1
            try clear hcz31_2
            try clear hcz31_3
            try clear hcz31_4
            try clear hcz37_0
            try clear hcz37_1
            try clear hcz37_2
            try clear hcz37_3
            try clear hcz37_4
            try clear hcz38_0
            try clear hcz38_1
            try clear hcz38_2
            try clear hcz38_3
            try clear hcz38_4
            try clear hcz39_0
            try clear hcz39_1
            try clear hcz39_2
            try clear hcz39_3
            try clear hcz39_4
            try clear hcz40_0
            try clear hcz40_1
            try clear hcz40_2
            try clear hcz40_3
            try clear hcz40_4
            try clear hcz41_0
            try clear hcz41_1
            try clear hcz41_2
            try clear hcz41_3
            try clear hcz41_4
            try clear hcz44_0
            try clear hcz44_1
            try clear hcz44_2
            try clear hcz44_3
            try clear hcz44_4
            try clear hcz46_0
            try clear hcz46_1
            try clear hcz46_2
            try clear hcz46_3
            try clear hcz46_4
            try clear hcz48_0
            try clear hcz48_1
            try clear hcz48_2
            try clear hcz48_3
            try clear hcz48_4
            try clear hcz50_0
            try clear hcz50_1
            try clear hcz50_2
            try clear hcz50_3
            try clear hcz50_4
            try clear hcz51_0
            try clear hcz51_1
            try clear hcz51_2
            try clear hcz51_3
            try clear hcz51_4
            try clear hcz55_0
            try clear hcz55_1
            try clear hcz55_2
            try clear hcz55_3
            try clear hcz55_4
            try clear hcz56_0
            try clear hcz56_1
            try clear hcz56_2
            try clear hcz56_3
            try clear hcz56_4
            try clear hcz58_0
            try clear hcz58_1
            try clear hcz58_2
            try clear hcz58_3
            try clear hcz58_4
            try clear hfz10_0
            try clear hfz10_1
            try clear hfz10_2
            try clear hfz10_3
            try clear hfz10_4
            try clear hfz12_0
            try clear hfz12_1
            try clear hfz12_2
            try clear hfz12_3
            try clear hfz12_4
            try clear hfz13_0
            try clear hfz13_1
            try clear hfz13_2
            try clear hfz13_3
            try clear hfz13_4
            try clear hfz15_0
            try clear hfz15_1
            try clear hfz15_2
            try clear hfz15_3
            try clear hfz15_4
            try clear hfz16_0
            try clear hfz16_1
            try clear hfz16_2
            try clear hfz16_3
            try clear hfz16_4
            try clear hfz18_0
            try clear hfz18_1
            try clear hfz18_2
            try clear hfz18_3
            try clear hfz18_4
            try clear hfz19_0
            try clear hfz19_1
            try clear hfz19_2
            try clear hfz19_3
            try clear hfz19_4
            try clear hfz21_0
            try clear hfz21_1
            try clear hfz21_2
            try clear hfz21_3
            try clear hfz21_4
            try clear hfz22_0
            try clear hfz22_1
            try clear hfz22_2
            try clear hfz22_3
            try clear hfz22_4
            try clear hfz28_0
            try clear hfz28_1
            try clear hfz28_2
            try clear hfz28_3
            try clear hfz28_4
            try clear hfz29_0
            try clear hfz29_1
            try clear hfz29_2
            try clear hfz29_3
            try clear hfz29_4
            try clear hfz30_0
            try clear hfz30_1
            try clear hfz30_2
            try clear hfz30_3
            try clear hfz30_4
            try clear hfz31_0
            try clear hfz31_1
            try clear hfz31_2
            try clear hfz31_3
            try clear hfz31_4
            try clear hfz37_0
            try clear hfz37_1
            try clear hfz37_2
            try clear hfz37_3
            try clear hfz37_4
            try clear hfz38_0
            try clear hfz38_1
            try clear hfz38_2
            try clear hfz38_3
            try clear hfz38_4
            try clear hfz39_0
            try clear hfz39_1
            try clear hfz39_2
            try clear hfz39_3
            try clear hfz39_4
            try clear hfz40_0
            try clear hfz40_1
            try clear hfz40_2
            try clear hfz40_3
            try clear hfz40_4
            try clear hfz41_0
            try clear hfz41_1
            try clear hfz41_2
            try clear hfz41_3
            try clear hfz41_4
            try clear hfz44_0
            try clear hfz44_1
            try clear hfz44_2
            try clear hfz44_3
            try clear hfz44_4
            try clear hfz46_0
            try clear hfz46_1
            try clear hfz46_2
            try clear hfz46_3
            try clear hfz46_4
            try clear hfz48_0
            try clear hfz48_1
            try clear hfz48_2
            try clear hfz48_3
            try clear hfz48_4
            try clear hfz50_0
            try clear hfz50_1
            try clear hfz50_2
            try clear hfz50_3
            try clear hfz50_4
            try clear hfz51_0
            try clear hfz51_1
            try clear hfz51_2
            try clear hfz51_3
            try clear hfz51_4
            try clear hfz55_0
            try clear hfz55_1
            try clear hfz55_2
            try clear hfz55_3
            try clear hfz55_4
            try clear hfz56_0
            try clear hfz56_1
            try clear hfz56_2
            try clear hfz56_3
            try clear hfz56_4
            try clear hfz58_0
            try clear hfz58_1
            try clear hfz58_2
            try clear hfz58_3
            try clear hfz58_4
            try clear hx158_0
            try clear hx158_1
            try clear hx158_2
            try clear hx158_3
            try clear hx158_4
            try clear hx160_0
            try clear hx160_1
            try clear hx160_2
            try clear hx160_3
            try clear hx160_4
            try clear p158
            try clear p160
            try clear p2
            try clear q158
            try clear q160
            obtain ⟨kq, x139_56, rfl, HA, HJ56, BK157, HB⟩ := hcut
            cases kq with
            | zero => exact absurd HA.out (by simp [capnpref10_Valid.j2])
            | succ kj56 =>
             have H := HA.out
             clear HA
             simp only [capnpref10_Valid.j2] at H
             by_cases c63 : x139_56 = true
             ·subst c63
              have H1 : (some false) = some r := by rw [if_pos rfl] at H; exact H
              clear H
              have H := H1
              clear H1
              obtain rfl := Option.some.inj H
              go_wp2
              go_ret
              exact ⟨by first | rfl | (simp [errW_none, errW_some] <;> rfl) | (simp [*, errW_none, errW_some] <;> rfl), by repeat (first | (with_reducible first | exact HB.out | apply below_alloc | apply pw_below_drewN | apply below_drew1 | refine below_set ?_ GE157.out) | exact HB.out)⟩
             ·replace c63 := Bool.eq_false_iff.mpr c63
              subst c63
              have H1 : ((capnpref06_Trim.f kj56 a0_1 a0_2 l0_3).bind fun t162 => ((capnpref01_Same.f kj56 t162 l0_3).bind fun t165 => (some t165))) = some r := by rw [if_neg (show ¬ (false = true) by decide)] at H; exact H
              clear H
              have H := H1
              clear H1
              replace H := Option.bind_eq_some_iff.mp H
              obtain ⟨t162, A640, H⟩ := H
              replace H : ((capnpref01_Same.f kj56 t162 l0_3).bind fun t165 => (some t165)) = some r := H
              have A64 := Aside0.mk A640
              clear A640
              replace H := Option.bind_eq_some_iff.mp H
              obtain ⟨t165, A650, H⟩ := H
              replace H : (some t165) = some r := H
              have A65 := Aside0.mk A650
              clear A650
              obtain rfl := Option.some.inj H
              try go_wp2
              have n0_ := Aside0.mk (blk_drew BK157.out)
              have n1_ := Aside0.mk (below_drew1 HB.out)
              clear BK157
              clear HB
              have BK157 := n0_
              have HB := n1_
              clear n0_ n1_
              refine start_ (n := 11) (S := fun w' => w'.cell? ⟨gb157, 0, none⟩ = some (.int .i64 a0_0) ∧ w'.cell? ⟨gb157, 1, none⟩ = some (.int .i64 a0_1) ∧ w'.cell? ⟨gb157, 2, none⟩ = some (.int .i64 a0_2) ∧ w'.cell? ⟨gb157, 3, none⟩ = some (.slice A0_3 l0_3.length c0_3) ∧ w'.cell? ⟨gb157, 4, none⟩ = some (.slice A0_4 l0_4.length c0_4)) (ds := []) #[false, false, false, false, false, false, false, false, false, false, false] (by kernel_rfl) rfl rfl ⟨(blk_cell BK157.out 0).trans rfl, (blk_cell BK157.out 1).trans rfl, (blk_cell BK157.out 2).trans rfl, (blk_cell BK157.out 3).trans rfl, (blk_cell BK157.out 4).trans rfl⟩ (fun hHeld => ?_); refine with_tabW capnpref10_Valid.tab18 capnpref10_Valid.bits18 (fun HT_ HW_ => ?_)
              generalize wc.drew = w66 at BK157 HB hHeld ⊢
              refine pure_ (i := 0) (N := some 140) (v := ?_) (a' := ?_) #[true, false, false, false, false, false, false, false, false, false, false] rfl rfl (any_of HT_.out (by kernel_rfl)) (fun _ _ _ h => h) (Or.inl ⟨by rfl, ?_⟩) ?_ ?_
              rotate_left
              ·intro w'
               go_simp
               with_reducible rfl
              rotate_left
              ·simp only [Act.put, List.setIfInBounds_toArray, List.set_cons_zero, List.set_cons_succ, i64_w, i32_w]
               rfl
              refine pure_ (i := 2) (N := some 142) (v := ?_) (a' := ?_) #[true, false, true, false, false, false, false, false, false, false, false] rfl rfl (any_of HT_.out (by kernel_rfl)) (fun _ _ _ h => h) (Or.inl ⟨by rfl, ?_⟩) ?_ ?_
              rotate_left
              ·intro w'
               go_simp
               with_reducible rfl
              rotate_left
              ·simp only [Act.put, List.setIfInBounds_toArray, List.set_cons_zero, List.set_cons_succ, i64_w, i32_w]
               rfl
              refine pure_ (i := 4) (N := some 144) (v := ?_) (a' := ?_) #[true, false, true, false, true, false, false, false, false, false, false] rfl rfl (any_of HT_.out (by kernel_rfl)) (fun _ _ _ h => h) (Or.inl ⟨by rfl, ?_⟩) ?_ ?_
              rotate_left
              ·intro w'
               go_simp
               with_reducible rfl
              rotate_left
              ·simp only [Act.put, List.setIfInBounds_toArray, List.set_cons_zero, List.set_cons_succ, i64_w, i32_w]
               rfl
              refine pure_ (i := 7) (N := some 147) (v := ?_) (a' := ?_) #[true, false, true, false, true, false, false, true, false, false, false] rfl rfl (any_of HT_.out (by kernel_rfl)) (fun _ _ _ h => h) (Or.inl ⟨by rfl, ?_⟩) ?_ ?_
              rotate_left
              ·intro w'
               go_simp
               with_reducible rfl
              rotate_left
              ·simp only [Act.put, List.setIfInBounds_toArray, List.set_cons_zero, List.set_cons_succ, i64_w, i32_w]
               rfl
              refine take_ (i := 1) (N := some 141) (v := ?_) (a' := ?_) #[true, true, true, false, true, false, false, true, false, false, false] rfl rfl (take_ofW HT_.out HW_.out (by kernel_rfl)) (fun _ _ _ h => h) (Or.inl ⟨by rfl, ?_⟩) hHeld ?_ ?_
              rotate_left
              ·rintro w' ⟨s0, s1, s2, s3, s4⟩
               go_simp
               with_reducible rfl
              rotate_left
              ·simp only [Act.put, List.setIfInBounds_toArray, List.set_cons_zero, List.set_cons_succ, i64_w, i32_w]
               rfl
              refine take_ (i := 3) (N := some 143) (v := ?_) (a' := ?_) #[true, true, true, true, true, false, false, true, false, false, false] rfl rfl (take_ofW HT_.out HW_.out (by kernel_rfl)) (fun _ _ _ h => h) (Or.inl ⟨by rfl, ?_⟩) hHeld ?_ ?_
              rotate_left
              ·rintro w' ⟨s0, s1, s2, s3, s4⟩
               go_simp
               with_reducible rfl
              rotate_left
              ·simp only [Act.put, List.setIfInBounds_toArray, List.set_cons_zero, List.set_cons_succ, i64_w, i32_w]
               rfl
              refine take_ (i := 5) (N := some 145) (v := ?_) (a' := ?_) #[true, true, true, true, true, true, false, true, false, false, false] rfl rfl (take_ofW HT_.out HW_.out (by kernel_rfl)) (fun _ _ _ h => h) (Or.inl ⟨by rfl, ?_⟩) hHeld ?_ ?_
              rotate_left
              ·rintro w' ⟨s0, s1, s2, s3, s4⟩
               go_simp
               with_reducible rfl
              rotate_left
              ·simp only [Act.put, List.setIfInBounds_toArray, List.set_cons_zero, List.set_cons_succ, i64_w, i32_w]
               rfl
              refine take_ (i := 8) (N := some 148) (v := ?_) (a' := ?_) #[true, true, true, true, true, true, false, true, true, false, false] rfl rfl (take_ofW HT_.out HW_.out (by kernel_rfl)) (fun _ _ _ h => h) (Or.inl ⟨by rfl, ?_⟩) hHeld ?_ ?_
              rotate_left
              ·rintro w' ⟨s0, s1, s2, s3, s4⟩
               go_simp
               with_reducible rfl
              rotate_left
              ·simp only [Act.put, List.setIfInBounds_toArray, List.set_cons_zero, List.set_cons_succ, i64_w, i32_w]
               rfl
              refine one_ (i := 6) (N := some 146) #[true, true, true, true, true, true, true, true, true, false, false] rfl rfl (one_of HT_.out (by kernel_rfl)) (by decide) (fun K hK => ?_)
              refine goes_ Try.func28 (by kernel_rfl) rfl #[.int .i64 a0_1, .int .i64 a0_2, .slice A0_3 l0_3.length c0_3] (by rfl) rfl rfl (by (try simp only [List.map_toArray, List.map_cons, List.map_nil]); first | done | rfl | (simp only [List.length_drop, List.length_take]; rfl)) ?_
              with_reducible refine (capnpref06_Trim.calls kj56 a0_1 a0_2 _ _ l0_3 t162 _ ?side1 ?side2 A64.out).mono ?_
              (case side1 => repeat (first | exact (Kd.C_below HR0_3.out HB.out) | (with_reducible refine Kd.C_alloc ?_ _) | (with_reducible refine Kd.C_drewN ?_ _) | (with_reducible refine Kd.C_drew ?_)))
              (case side2 => exact HC0_3.out)
              rintro e w67 ⟨v163, rfl, ho0, hb⟩
              refine ⟨_, rfl, ?_⟩
              have n0_ := Aside0.mk (Kd.R_lower ho0 (below_size (by repeat (first | (with_reducible first | exact HB.out | apply below_alloc | apply pw_below_drewN | apply below_drew1 | refine below_set ?_ GE157.out) | exact HB.out))))
              have n1_ := Aside0.mk (blk_below (g := gb157) (o := .cells #[.int .i64 a0_0, .int .i64 a0_1, .int .i64 a0_2, .slice A0_3 l0_3.length c0_3, .slice A0_4 l0_4.length c0_4] 25 (0, 0)) (by (with_reducible repeat (first | refine blk_drewN ?_ _ | refine blk_drew ?_ | refine blk_alloc ?_ _)); exact BK157.out) hb)
              have n2_ := Aside0.mk (below_step (by repeat (first | (with_reducible first | exact HB.out | apply below_alloc | apply pw_below_drewN | apply below_drew1 | refine below_set ?_ GE157.out) | exact HB.out)) hb)
              clear BK157
              clear HB
              have HO164 := n0_
              have BK157 := n1_
              have HB := n2_
              clear n0_ n1_ n2_
              (try clear hb)
              (try clear hb2)
              (try clear hk)
              (try clear hi)
              (try clear ho0)
              obtain ⟨Ao68, co68, eo68⟩ := Kd.R_slice HO164.out
              (first | subst eo68 | (injection eo68 with f1_ f2_ f3_; have f4_ := f1_.symm; have f5_ := f3_.symm; clear f1_ f2_ f3_; subst f4_; subst f5_))
              refine hK.out _ _ ⟨(blk_cell BK157.out 0).trans rfl, (blk_cell BK157.out 1).trans rfl, (blk_cell BK157.out 2).trans rfl, (blk_cell BK157.out 3).trans rfl, (blk_cell BK157.out 4).trans rfl⟩ (fun hHeld => ?_)
              clear hK K
              refine norm_ (a' := ?_) ?_ ?_
              rotate_left
              ·show Act.put _ (some 146) _ = _
               simp only [Act.put, List.setIfInBounds_toArray, List.set_cons_zero, List.set_cons_succ, i64_w, i32_w]
               rfl
              refine one_ (i := 9) (N := some 149) #[true, true, true, true, true, true, true, true, true, true, false] rfl rfl (one_of HT_.out (by kernel_rfl)) (by decide) (fun K hK => ?_)
              refine goes_ Try.func27 (by kernel_rfl) rfl #[.slice Ao68 t162.length co68, .slice A0_3 l0_3.length c0_3] (by rfl) rfl rfl (by (try simp only [List.map_toArray, List.map_cons, List.map_nil]); first | done | rfl | (simp only [List.length_drop, List.length_take]; rfl)) ?_
              with_reducible refine (capnpref01_Same.calls kj56 _ _ t162 _ _ l0_3 t165 _ ?side1 ?side2 ?side3 ?side4 A65.out).mono ?_
              (case side1 => repeat (first | exact (Kd.R_reads' HO164.out).2.2 | (with_reducible refine Kd.C_alloc ?_ _) | (with_reducible refine Kd.C_drewN ?_ _) | (with_reducible refine Kd.C_drew ?_)))
              (case side2 => exact (Kd.R_reads' HO164.out).2.1)
              (case side3 => repeat (first | exact (Kd.C_below HR0_3.out HB.out) | (with_reducible refine Kd.C_alloc ?_ _) | (with_reducible refine Kd.C_drewN ?_ _) | (with_reducible refine Kd.C_drew ?_)))
              (case side4 => exact HC0_3.out)
              rintro e w' ⟨rfl, ⟨nd, rfl⟩⟩
              refine ⟨_, rfl, ?_⟩
              refine hK.out _ _ ⟨(blk_cell BK157.out 0).trans rfl, (blk_cell BK157.out 1).trans rfl, (blk_cell BK157.out 2).trans rfl, (blk_cell BK157.out 3).trans rfl, (blk_cell BK157.out 4).trans rfl⟩ (fun hHeld => ?_)
              clear hK K
              refine norm_ (a' := ?_) ?_ ?_
              rotate_left
              ·show Act.put _ (some 149) _ = _
               simp only [Act.put, List.setIfInBounds_toArray, List.set_cons_zero, List.set_cons_succ, i64_w, i32_w]
               rfl
              refine pure_ (i := 10) (N := some 2) (v := ?_) (a' := ?_) #[true, true, true, true, true, true, true, true, true, true, true] rfl rfl (any_of HT_.out (by kernel_rfl)) (fun _ _ _ h => h) (Or.inl ⟨by rfl, ?_⟩) ?_ ?_
              rotate_left
              ·intro w'
               go_simp
               with_reducible rfl
              rotate_left
              ·simp only [Act.put, List.setIfInBounds_toArray, List.set_cons_zero, List.set_cons_succ, i64_w, i32_w]
               rfl
              refine done_ (done_of HT_.out (by kernel_rfl)) ?_
              try go_wp2
              go_ret
              exact ⟨by first | rfl | (simp [errW_none, errW_some] <;> rfl) | (simp [*, errW_none, errW_some] <;> rfl), by repeat (first | (with_reducible first | exact HB.out | apply below_alloc | apply pw_below_drewN | apply below_drew1 | refine below_set ?_ GE157.out) | exact HB.out)⟩
      ·rw [if_neg c42] at H
       have c42b0 : (a0_0 == 2) = false := beq_eq_false_iff_ne.mpr c42
       have c42b1 : (a0_0 != 2) = true := bne_iff_ne.mpr c42
       obtain rfl := Option.some.inj H
       have hcz69_0 : wr.cell? ⟨gb157, 0, none⟩ = some (.int .i64 a0_0) := (blk_cell BK157.out 0).trans rfl
       have hcz69_1 : wr.cell? ⟨gb157, 1, none⟩ = some (.int .i64 a0_1) := (blk_cell BK157.out 1).trans rfl
       have hcz69_2 : wr.cell? ⟨gb157, 2, none⟩ = some (.int .i64 a0_2) := (blk_cell BK157.out 2).trans rfl
       have hcz69_3 : wr.cell? ⟨gb157, 3, none⟩ = some (.slice A0_3 l0_3.length c0_3) := (blk_cell BK157.out 3).trans rfl
       have hcz69_4 : wr.cell? ⟨gb157, 4, none⟩ = some (.slice A0_4 l0_4.length c0_4) := (blk_cell BK157.out 4).trans rfl
       have hfz69_0 := blk_frozen BK157.out 0
       have hfz69_1 := blk_frozen BK157.out 1
       have hfz69_2 := blk_frozen BK157.out 2
       have hfz69_3 := blk_frozen BK157.out 3
       have hfz69_4 := blk_frozen BK157.out 4
       go_wp2
       go_ret
       exact ⟨by first | rfl | (simp [errW_none, errW_some] <;> rfl) | (simp [*, errW_none, errW_some] <;> rfl), by repeat (first | (with_reducible first | exact HB.out | apply below_alloc | apply pw_below_drewN | apply below_drew1 | refine below_set ?_ GE157.out) | exact HB.out)⟩
end Go.Proofs.Ytmbockhcmhghlaa.Pr
end
section
namespace Go.Proofs.Ytmbockhcmhghlaa.Pr
open Go.RowKit Go.Proofs.YtmbockhcmhghlaaW.PrintWords Go.Proofs.YtmbockhcmhghlaaW.PrintLast Go.Proofs.YtmbockhcmhghlaaW.PrintMore
set_option linter.unusedVariables false
set_option linter.unusedSimpArgs false
theorem w64 {x : Int} (h0 : -9223372036854775808 ≤ x) (h1 : x ≤ 9223372036854775807) : wrap64 x = x := IntWalk.wrap64_in _ ⟨h0, h1⟩
theorem rd_at (l : List Int) (j : Nat) (h : j < l.length) : rd l (j : Int) = l[j] := by
  unfold rd; simp [List.getD_eq_getElem?_getD, List.getElem?_eq_getElem h]
theorem rdT_at (l : List S25) (j : Nat) (h : j < l.length) : rd_T25 l (j : Int) = l[j] := by
  unfold rd_T25; simp [List.getD_eq_getElem?_getD, List.getElem?_eq_getElem h]
theorem S25.ind {P : S25 → Prop} (h : ∀ a : S25, (∀ x ∈ a.f4, P x) → P a) (a : S25) : P a :=
  S25.rec (motive_1 := P) (motive_2 := fun l => ∀ x ∈ l, P x) (fun k e n d l ih => h ⟨k, e, n, d, l⟩ ih) (fun _ hx => by cases hx) (fun y l hy hl x hx => by
    rcases List.mem_cons.1 hx with rfl | hx
    · exact hy
    · exact hl x hx) a
theorem take_one {α : Type} (l : List α) (j : Nat) (h : j < l.length) : l.take (j + 1) = l.take j ++ [l[j]] := List.take_succ_eq_append_getElem h
inductive AllT (p : S25 → Prop) : S25 → Prop
  | mk {a : S25} (h : p a) (hk : ∀ x ∈ a.f4, AllT p x) : AllT p a
theorem AllT.here {p : S25 → Prop} {a : S25} (h : AllT p a) : p a := by cases h; assumption
theorem AllT.kids {p : S25 → Prop} {a : S25} (h : AllT p a) : ∀ x ∈ a.f4, AllT p x := by cases h; assumption
def okT : S25 → Prop := AllT fun a => ∀ x ∈ a.f3, 0 ≤ x ∧ x ≤ 255
mutual
def tsize : S25 → Nat
  | ⟨_, _, _, d, l⟩ => 1 + d.length + tsizes l
def tsizes : List S25 → Nat
  | [] => 0
  | k :: l => tsize k + tsizes l
end
mutual
def tnest : S25 → Nat
  | ⟨_, _, _, _, l⟩ => tnests l + 1
def tnests : List S25 → Nat
  | [] => 0
  | k :: l => max (tnest k) (tnests l)
end
theorem tsize_eq (a : S25) : tsize a = 1 + a.f3.length + tsizes a.f4 := by cases a; rfl
theorem tnest_eq (a : S25) : tnest a = tnests a.f4 + 1 := by cases a; rfl
theorem tsizes_append : ∀ (l m : List S25), tsizes (l ++ m) = tsizes l + tsizes m
  | [], m => by simp [tsizes]
  | k :: l, m => by simp [tsizes, tsizes_append l m]; omega
theorem tnests_append : ∀ (l m : List S25), tnests (l ++ m) = max (tnests l) (tnests m)
  | [], m => by simp [tnests]
  | k :: l, m => by simp [tnests, tnests_append l m, Nat.max_assoc]
theorem tsizes_take (l : List S25) (j : Nat) (h : j < l.length) : tsizes (l.take (j + 1)) = tsizes (l.take j) + tsize l[j] := by
  rw [take_one l j h, tsizes_append]; simp [tsizes]
theorem tnests_take (l : List S25) (j : Nat) (h : j < l.length) : tnests (l.take (j + 1)) = max (tnests (l.take j)) (tnest l[j]) := by
  rw [take_one l j h, tnests_append]; simp [tnests]
theorem tsizes_le (l : List S25) (j : Nat) : tsizes (l.take j) ≤ tsizes l := by
  have := tsizes_append (l.take j) (l.drop j)
  rw [List.take_append_drop] at this
  omega
theorem length_tsizes : ∀ l : List S25, l.length ≤ tsizes l
  | [] => by simp
  | k :: l => by
    have := length_tsizes l
    have := tsize_eq k
    simp [tsizes]; omega
theorem tsize_mem {l : List S25} {x : S25} (h : x ∈ l) : tsize x ≤ tsizes l := by
  induction l with
  | nil => cases h
  | cons k l ih =>
    simp only [tsizes]
    rcases List.mem_cons.1 h with rfl | h
    · omega
    · have := ih h; omega
theorem tsize_kid {a x : S25} (h : x ∈ a.f4) : tsize x < tsize a := by
  have := tsize_mem h
  have := tsize_eq a
  omega
theorem tnests_bound {l : List S25} {B : Nat} (h : ∀ x ∈ l, tnest x ≤ B) : tnests l ≤ B := by
  induction l with
  | nil => simp [tnests]
  | cons k l ih =>
    simp only [tnests]
    have := h k List.mem_cons_self
    have := ih (fun x hx => h x (List.mem_cons_of_mem _ hx))
    omega
theorem tnest_le (a : S25) : tnest a ≤ tsize a := by
  refine S25.ind (P := fun a => tnest a ≤ tsize a) (fun a ih => ?_) a
  have h1 := tnest_eq a
  have h2 := tsize_eq a
  have h3 : tnests a.f4 ≤ tsizes a.f4 := tnests_bound fun x hx => Nat.le_trans (ih x hx) (tsize_mem hx)
  omega
theorem size_ev (a : S25) : tsize a ≤ 4611686018427387904 → Ev (fun k => capnpref10_Size.f k a.f0 a.f1 a.f2 a.f3 a.f4) (tsize a : Int) := by
  refine S25.ind (P := fun a => tsize a ≤ 4611686018427387904 → Ev (fun k => capnpref10_Size.f k a.f0 a.f1 a.f2 a.f3 a.f4) (tsize a : Int)) (fun a ih hs => ?_) a
  have he := tsize_eq a
  have hl := length_tsizes a.f4
  have loop : ∀ d j : Nat, a.f4.length - j = d → j ≤ a.f4.length → Ev (fun k => capnpref10_Size.l0 k ((1 + a.f3.length + tsizes (a.f4.take j) : Nat) : Int) (j : Int) a.f0 a.f1 a.f2 a.f3 a.f4) (tsize a : Int) := by
    intro d
    induction d with
    | zero =>
      intro j hd hj
      refine Ev.step (f := fun _ => some (tsize a : Int)) (fun k => ?_) (Ev.now _)
      simp only [capnpref10_Size.l0]
      rw [if_neg (by omega), List.take_of_length_le (by omega), he]
    | succ d ihd =>
      intro j hd hj
      have hlt : j < a.f4.length := by omega
      have ht := tsizes_take a.f4 j hlt
      have ht2 := tsizes_le a.f4 (j + 1)
      refine Ev.step (f := fun k => (capnpref10_Size.f k a.f4[j].f0 a.f4[j].f1 a.f4[j].f2 a.f4[j].f3 a.f4[j].f4).bind fun t => capnpref10_Size.l0 k (wrap64 (((1 + a.f3.length + tsizes (a.f4.take j) : Nat) : Int) + t)) (wrap64 ((j : Int) + 1)) a.f0 a.f1 a.f2 a.f3 a.f4) (fun k => ?_) ?_
      · simp only [capnpref10_Size.l0]
        rw [if_pos (by omega), if_pos (by omega), rdT_at _ _ hlt]
      · have hk := tsize_kid (List.getElem_mem hlt : a.f4[j] ∈ a.f4)
        refine Ev.bind (ih _ (List.getElem_mem hlt) (by omega)) ?_
        rw [w64 (by omega) (by omega), w64 (by omega) (by omega)]
        have := ihd (j + 1) (by omega) (by omega)
        rw [ht] at this
        have e1 : ((1 + a.f3.length + (tsizes (a.f4.take j) + tsize a.f4[j]) : Nat) : Int) = ((1 + a.f3.length + tsizes (a.f4.take j) : Nat) : Int) + (tsize a.f4[j] : Int) := by omega
        have e2 : ((j + 1 : Nat) : Int) = (j : Int) + 1 := by omega
        rw [e1, e2] at this
        exact this
  refine Ev.step (f := fun k => capnpref10_Size.l0 k (wrap64 (1 + (a.f3.length : Int))) 0 a.f0 a.f1 a.f2 a.f3 a.f4) (fun k => by simp only [capnpref10_Size.f]) ?_
  rw [w64 (by omega) (by omega)]
  have := loop a.f4.length 0 (by omega) (by omega)
  have e1 : ((1 + a.f3.length + tsizes (a.f4.take 0) : Nat) : Int) = 1 + (a.f3.length : Int) := by simp [tsizes]
  rw [e1] at this
  exact this
theorem mx_max (a b : Int) : mx a b = max a b := by unfold mx; omega
theorem nest_ev (a : S25) : tsize a ≤ 4611686018427387904 → Ev (fun k => capnpref10_Nesting.f k a.f0 a.f1 a.f2 a.f3 a.f4) (tnest a : Int) := by
  refine S25.ind (P := fun a => tsize a ≤ 4611686018427387904 → Ev (fun k => capnpref10_Nesting.f k a.f0 a.f1 a.f2 a.f3 a.f4) (tnest a : Int)) (fun a ih hs => ?_) a
  have he := tsize_eq a
  have hn := tnest_eq a
  have hnl := tnest_le a
  have hl := length_tsizes a.f4
  have loop : ∀ d j : Nat, a.f4.length - j = d → j ≤ a.f4.length → Ev (fun k => capnpref10_Nesting.l0 k (tnests (a.f4.take j) : Int) (j : Int) a.f0 a.f1 a.f2 a.f3 a.f4) (tnest a : Int) := by
    intro d
    induction d with
    | zero =>
      intro j hd hj
      refine Ev.step (f := fun _ => some (tnest a : Int)) (fun k => ?_) (Ev.now _)
      simp only [capnpref10_Nesting.l0]
      rw [if_neg (by omega), List.take_of_length_le (by omega), w64 (by omega) (by omega), hn]
      congr 1
    | succ d ihd =>
      intro j hd hj
      have hlt : j < a.f4.length := by omega
      have ht := tnests_take a.f4 j hlt
      refine Ev.step (f := fun k => (capnpref10_Nesting.f k a.f4[j].f0 a.f4[j].f1 a.f4[j].f2 a.f4[j].f3 a.f4[j].f4).bind fun t => capnpref10_Nesting.l0 k (mx (tnests (a.f4.take j) : Int) t) (wrap64 ((j : Int) + 1)) a.f0 a.f1 a.f2 a.f3 a.f4) (fun k => ?_) ?_
      · simp only [capnpref10_Nesting.l0]
        rw [if_pos (by omega), if_pos (by omega), rdT_at _ _ hlt]
      · have hk := tsize_kid (List.getElem_mem hlt : a.f4[j] ∈ a.f4)
        refine Ev.bind (ih _ (List.getElem_mem hlt) (by omega)) ?_
        rw [mx_max, w64 (by omega) (by omega)]
        have := ihd (j + 1) (by omega) (by omega)
        rw [ht] at this
        have e1 : ((max (tnests (a.f4.take j)) (tnest a.f4[j]) : Nat) : Int) = max (tnests (a.f4.take j) : Int) (tnest a.f4[j] : Int) := by omega
        have e2 : ((j + 1 : Nat) : Int) = (j : Int) + 1 := by omega
        rw [e1, e2] at this
        exact this
  refine Ev.step (f := fun k => capnpref10_Nesting.l0 k 0 0 a.f0 a.f1 a.f2 a.f3 a.f4) (fun k => by simp only [capnpref10_Nesting.f]) ?_
  have := loop a.f4.length 0 (by omega) (by omega)
  have e1 : ((tnests (a.f4.take 0) : Nat) : Int) = 0 := by simp [tnests]
  rw [e1] at this
  exact this
def tfew (a : S25) : Bool := decide (tsize a ≤ 3000) && decide (tnest a ≤ 40)
theorem few_ev (a : S25) (h : tsize a ≤ 4611686018427387904) : Ev (fun k => capnpref10_Few.f k a.f0 a.f1 a.f2 a.f3 a.f4) (tfew a) := by
  unfold capnpref10_Few.f
  refine Ev.bind (size_ev a h) ?_
  unfold tfew
  by_cases h1 : tsize a ≤ 3000
  · refine Ev.congr (f := fun k => (capnpref10_Nesting.f k a.f0 a.f1 a.f2 a.f3 a.f4).bind fun t => some (decide (t ≤ 40))) (fun k => by rw [if_pos (by omega)]) ?_
    refine Ev.bind (nest_ev a h) ?_
    have e : (decide (tsize a ≤ 3000) && decide (tnest a ≤ 40)) = decide ((tnest a : Int) ≤ 40) := by
      rw [decide_eq_true h1, Bool.true_and]; exact decide_eq_decide.2 (by omega)
    rw [e]
    exact Ev.now _
  · refine Ev.congr (f := fun k => some false) (fun k => by rw [if_neg (by omega)]) ?_
    rw [decide_eq_false h1, Bool.false_and]
    exact Ev.now _
theorem take_next {α : Type} {l m : List α} {j : Nat} (hl : j < l.length) (hm : j < m.length) (h : l.take j = m.take j) (e : l[j] = m[j]) : l.take (j + 1) = m.take (j + 1) := by
  rw [take_one l j hl, take_one m j hm, h, e]
theorem same_ev (xs ys : List Int) (h : xs.length ≤ 4611686018427387904) : Ev (fun k => capnpref01_Same.f k xs ys) (decide (xs = ys)) := by
  unfold capnpref01_Same.f
  by_cases hl : xs.length = ys.length
  · refine Ev.congr (f := fun k => capnpref01_Same.l0 k xs ys 0) (fun k => by rw [if_pos (by omega)]) ?_
    have loop : ∀ d j : Nat, xs.length - j = d → j ≤ xs.length → xs.take j = ys.take j → Ev (fun k => capnpref01_Same.l0 k xs ys (j : Int)) (decide (xs = ys)) := by
      intro d
      induction d with
      | zero =>
        intro j hd hj ht
        refine Ev.step (f := fun _ => some (decide (xs = ys))) (fun k => ?_) (Ev.now _)
        simp only [capnpref01_Same.l0]
        rw [if_neg (by omega)]
        rw [List.take_of_length_le (by omega), List.take_of_length_le (by omega)] at ht
        simp [ht]
      | succ d ihd =>
        intro j hd hj ht
        have hlt : j < xs.length := by omega
        by_cases e : xs[j] = ys[j]'(by omega)
        · refine Ev.step (f := fun k => capnpref01_Same.l0 k xs ys (wrap64 ((j : Int) + 1))) (fun k => ?_) ?_
          · simp only [capnpref01_Same.l0]
            rw [if_pos (by omega), if_pos (by omega), if_pos (by omega), rd_at _ _ hlt, rd_at _ _ (by omega), if_pos e]
          · rw [w64 (by omega) (by omega)]
            exact ihd (j + 1) (by omega) (by omega) (take_next hlt (by omega) ht e)
        · have hne : ¬ xs = ys := fun h => e (by subst h; rfl)
          refine Ev.step (f := fun _ => some (decide (xs = ys))) (fun k => ?_) (Ev.now _)
          simp only [capnpref01_Same.l0]
          rw [if_pos (by omega), if_pos (by omega), if_pos (by omega), rd_at _ _ hlt, rd_at _ _ (by omega), if_neg e, decide_eq_false hne]
    exact loop xs.length 0 (by omega) (by omega) rfl
  · have hne : ¬ xs = ys := fun h => hl (by rw [h])
    refine Ev.congr (f := fun _ => some false) (fun k => by rw [if_neg (by omega)]) ?_
    rw [decide_eq_false hne]
    exact Ev.now _
end Go.Proofs.Ytmbockhcmhghlaa.Pr
end
section
namespace Go.Proofs.Ytmbockhcmhghlaa.Pr
open Go.RowKit Go.Proofs.YtmbockhcmhghlaaW.PrintWords Go.Proofs.YtmbockhcmhghlaaW.PrintLast Go.Proofs.YtmbockhcmhghlaaW.PrintMore
set_option linter.unusedVariables false
set_option linter.unusedSimpArgs false
def bitsOf (e : Int) : Int := if e = 1 then 1 else if e = 2 then 8 else if e = 3 then 16 else if e = 4 then 32 else if e = 5 then 64 else if e = 6 then 64 else 0
theorem bitsOf_range (e : Int) : 0 ≤ bitsOf e ∧ bitsOf e ≤ 64 := by unfold bitsOf; repeat' split <;> omega
theorem bits_f (e : Int) : capnpref06_Bits.f e = some (bitsOf e) := by
  unfold capnpref06_Bits.f bitsOf
  repeat' split
  all_goals rfl
def bytesOf (e c : Int) : Int := (bitsOf e * c + 7) / 8
theorem bitsOf_mul (e c : Int) (h0 : 0 ≤ c) (h1 : c ≤ 4294967296) : 0 ≤ bitsOf e * c ∧ bitsOf e * c ≤ 274877906944 := by
  obtain ⟨a, b⟩ := bitsOf_range e
  refine ⟨Int.mul_nonneg a h0, ?_⟩
  have := Int.mul_le_mul b h1 h0 (by omega : (0:Int) ≤ 64)
  omega
theorem bytes_f (e c : Int) (h0 : 0 ≤ c) (h1 : c ≤ 4294967296) : capnpref06_Bytes.f e c = some (bytesOf e c) := by
  obtain ⟨a, b⟩ := bitsOf_mul e c h0 h1
  unfold capnpref06_Bytes.f
  rw [bits_f]
  simp only [Option.bind_some]
  unfold bytesOf
  generalize bitsOf e * c = x at *
  rw [w64 (x := x) (by omega) (by omega), Int.tdiv_eq_ediv_of_nonneg a, w64 (x := x / 8) (by omega) (by omega), w64 (x := x / 8 * 8) (by omega) (by omega), w64 (x := x / 8 + 1) (by omega) (by omega)]
  split
  · congr 1; omega
  · congr 1; omega
theorem bytesOf_le (e c : Int) (h0 : 0 ≤ c) (h1 : c ≤ 4294967296) : bytesOf e c ≤ 34359738368 := by
  have := bitsOf_mul e c h0 h1
  unfold bytesOf; omega
def rT (e c : Int) (xs : List Int) (j : Nat) : Int := if e = 1 ∧ c < 8 * j + 8 then xs.getD j 0 % 2 ^ (c - 8 * j).toNat else xs.getD j 0
def rL (e c : Int) (xs : List Int) (k : Nat) : List Int := (List.range k).map (rT e c xs)
theorem rL_succ (e c : Int) (xs : List Int) (k : Nat) : rL e c xs (k + 1) = rL e c xs k ++ [rT e c xs k] := by simp [rL, List.range_succ]
theorem rL_length (e c : Int) (xs : List Int) (k : Nat) : (rL e c xs k).length = k := by simp [rL]
theorem getD_at (xs : List Int) (j : Nat) (h : j < xs.length) : xs.getD j 0 = xs[j] := by simp [List.getD_eq_getElem?_getD, List.getElem?_eq_getElem h]
theorem trim_ev (e c : Int) (h0 : 0 ≤ c) (h1 : c ≤ 4294967296) (xs : List Int) (hx : ∀ x ∈ xs, 0 ≤ x ∧ x ≤ 255) (m : Nat) (hm : (m : Int) = bytesOf e c) (hmx : m ≤ xs.length) :
    Ev (fun k => capnpref06_Trim.f k e c xs) (rL e c xs m) := by
  unfold capnpref06_Trim.f
  have hb := bytesOf_le e c h0 h1
  have hbits := bitsOf_mul e c h0 h1
  have loop : ∀ d j : Nat, m - j = d → j ≤ m → Ev (fun k => capnpref06_Trim.l0 k e c xs (rL e c xs j) (j : Int)) (rL e c xs m) := by
    intro d
    induction d with
    | zero =>
      intro j hd hj
      obtain rfl : j = m := by omega
      refine Ev.step (f := fun _ => some (rL e c xs j)) (fun k => ?_) (Ev.now _)
      simp only [capnpref06_Trim.l0]
      rw [bytes_f e c h0 h1, Option.bind_some, if_neg (by omega)]
    | succ d ihd =>
      intro j hd hj
      have hlt : j < xs.length := by omega
      have hnext := ihd (j + 1) (by omega) (by omega)
      have e2 : ((j + 1 : Nat) : Int) = (j : Int) + 1 := by omega
      rw [rL_succ, e2] at hnext
      have hxr := hx _ (List.getElem_mem hlt)
      have plain : rT e c xs j = xs[j] → Ev (fun k => capnpref06_Trim.j1 k e c xs (rL e c xs j) (j : Int) (xs[j]) false) (rL e c xs m) := fun hp => by
        refine Ev.step (f := fun k => capnpref06_Trim.l0 k e c xs (rL e c xs j ++ [xs[j]]) (wrap64 ((j : Int) + 1))) (fun k => ?_) ?_
        · simp only [capnpref06_Trim.j1]
          rw [if_neg (by simp), if_pos (by rw [rL_length]; omega)]
        · rw [w64 (by omega) (by omega), ← hp]
          exact hnext
      by_cases he : e = 1
      · subst he
        refine Ev.step (f := fun k => capnpref06_Trim.j1 k 1 c xs (rL 1 c xs j) (j : Int) xs[j] (decide (wrap64 (wrap64 (8 * (j : Int)) + 8) > c))) (fun k => ?_) ?_
        · simp only [capnpref06_Trim.l0]
          rw [bytes_f 1 c h0 h1, Option.bind_some, if_pos (by omega), if_pos (by omega), if_pos (by omega), if_pos trivial, rd_at _ _ hlt]
        · rw [w64 (x := 8 * (j : Int)) (by omega) (by omega), w64 (by omega) (by omega)]
          have hcm : 8 * (j : Int) < c := by
            have : bytesOf 1 c = (c + 7) / 8 := by unfold bytesOf; rw [show bitsOf 1 = 1 from rfl, Int.one_mul]
            omega
          by_cases hc : c < 8 * (j : Int) + 8
          · rw [decide_eq_true hc]
            obtain ⟨q, hq⟩ : ∃ q : Nat, c - 8 * (j : Int) = q := ⟨(c - 8 * (j : Int)).toNat, by omega⟩
            have hp : rT 1 c xs j = xs[j] % 2 ^ q := by
              unfold rT
              rw [if_pos ⟨rfl, hc⟩, getD_at _ _ hlt, hq]
              rfl
            rw [hp] at hnext
            refine Ev.step (f := fun k => capnpref06_Trim.l1 k 1 c xs (rL 1 c xs j) (j : Int) xs[j] (wrap64 (c - wrap64 (8 * (j : Int)))) 1 0) (fun k => ?_) ?_
            · simp only [capnpref06_Trim.j1]
              rw [if_pos trivial]
            · rw [w64 (x := 8 * (j : Int)) (by omega) (by omega), w64 (by omega) (by omega), hq]
              have hq7 : q ≤ 7 := by omega
              have pow7 : ∀ i : Nat, i ≤ 7 → (1 : Int) ≤ 2 ^ i ∧ (2 : Int) ^ i ≤ 128 := fun i hi => by
                rcases (by omega : i = 0 ∨ i = 1 ∨ i = 2 ∨ i = 3 ∨ i = 4 ∨ i = 5 ∨ i = 6 ∨ i = 7) with rfl | rfl | rfl | rfl | rfl | rfl | rfl | rfl <;> decide
              have pows : ∀ d i : Nat, q - i = d → i ≤ q → Ev (fun k => capnpref06_Trim.l1 k 1 c xs (rL 1 c xs j) (j : Int) xs[j] (q : Int) (2 ^ i) (i : Int)) (rL 1 c xs m) := by
                intro d
                induction d with
                | zero =>
                  intro i hd hi
                  obtain rfl : i = q := by omega
                  have hp2 := pow7 i hq7
                  refine Ev.step (f := fun k => capnpref06_Trim.l0 k 1 c xs (rL 1 c xs j ++ [Int.tmod (wrap64 xs[j]) (2 ^ i) % 256]) (wrap64 ((j : Int) + 1))) (fun k => ?_) ?_
                  · simp only [capnpref06_Trim.l1]
                    rw [if_neg (by omega), if_neg (by omega), if_pos (by rw [rL_length]; omega)]
                  · rw [w64 (x := xs[j]) (by omega) (by omega), w64 (by omega) (by omega), Int.tmod_eq_emod_of_nonneg hxr.1]
                    have r1 : 0 ≤ xs[j] % 2 ^ i := Int.emod_nonneg _ (by omega)
                    have r2 : xs[j] % 2 ^ i < 2 ^ i := Int.emod_lt_of_pos _ (by omega)
                    rw [Int.emod_eq_of_lt (a := xs[j] % 2 ^ i) (b := 256) r1 (by omega)]
                    exact hnext
                | succ d ihp =>
                  intro i hd hi
                  have hp2 := pow7 i (by omega)
                  refine Ev.step (f := fun k => capnpref06_Trim.l1 k 1 c xs (rL 1 c xs j) (j : Int) xs[j] (q : Int) (wrap64 (2 ^ i * 2)) (wrap64 ((i : Int) + 1))) (fun k => ?_) ?_
                  · simp only [capnpref06_Trim.l1]
                    rw [if_pos (by omega)]
                  · rw [w64 (x := 2 ^ i * 2) (by omega) (by omega), w64 (by omega) (by omega)]
                    have := ihp (i + 1) (by omega) (by omega)
                    rw [Int.pow_succ] at this
                    exact this
              exact pows q 0 (by omega) (by omega)
          · rw [decide_eq_false (by omega)]
            refine plain ?_
            unfold rT
            rw [if_neg (by rintro ⟨_, h⟩; omega), getD_at _ _ hlt]
      · refine Ev.step (f := fun k => capnpref06_Trim.j1 k e c xs (rL e c xs j) (j : Int) xs[j] false) (fun k => ?_) (plain ?_)
        · simp only [capnpref06_Trim.l0]
          rw [bytes_f e c h0 h1, Option.bind_some, if_pos (by omega), if_pos (by omega), if_pos (by omega), if_neg he, rd_at _ _ hlt]
        · unfold rT
          rw [if_neg (by rintro ⟨h, _⟩; exact he h), getD_at _ _ hlt]
  exact loop m 0 (by omega) (by omega)
def topV (k e n : Int) (d : List Int) (m : Nat) : Bool :=
  if k = 0 then (e == 0) && ((n == 0) && (((d.length : Int) == 0) && ((m : Int) == 0)))
  else if k = 1 then (e == 0) && ((n == 0) && (((d.length : Int) % 8 == 0) && (decide ((d.length : Int) ≤ 524280) && decide ((m : Int) ≤ 65535))))
  else if k = 2 then
    if n < 0 ∨ 536870911 < n ∨ e < 0 ∨ 7 < e then false
    else if 6 ≤ e then ((d.length : Int) == 0) && ((m : Int) == n)
    else if ¬ m = 0 ∨ ¬ (d.length : Int) = bytesOf e n then false else decide (rL e n d d.length = d)
  else false
mutual
def tvalid : S25 → Bool
  | ⟨k, e, n, d, l⟩ => tvalids (k == 2 && e == 7) l && topV k e n d l.length
def tvalids (c : Bool) : List S25 → Bool
  | [] => true
  | x :: l => (tvalid x && !(c && x.f0 != 1)) && tvalids c l
end
theorem tvalid_eq (a : S25) : tvalid a = (tvalids (a.f0 == 2 && a.f1 == 7) a.f4 && topV a.f0 a.f1 a.f2 a.f3 a.f4.length) := by cases a; rfl
theorem tvalids_append (c : Bool) : ∀ (l m : List S25), tvalids c (l ++ m) = (tvalids c l && tvalids c m)
  | [], m => by simp [tvalids]
  | k :: l, m => by simp [tvalids, tvalids_append c l m, Bool.and_assoc]
theorem tvalids_take (c : Bool) (l : List S25) (j : Nat) (h : j < l.length) : tvalids c (l.take (j + 1)) = (tvalids c (l.take j) && (tvalid l[j] && !(c && l[j].f0 != 1))) := by
  rw [take_one l j h, tvalids_append]
  simp [tvalids]
theorem tvalids_bad (c : Bool) (l : List S25) (j : Nat) (h : j < l.length) (hb : (tvalid l[j] && !(c && l[j].f0 != 1)) = false) : tvalids c l = false := by
  have h1 := tvalids_append c (l.take (j + 1)) (l.drop (j + 1))
  rw [List.take_append_drop, tvalids_take c l j h, hb] at h1
  simpa using h1
theorem tvalids_all (c : Bool) (l : List S25) : tvalids c l = true ↔ ∀ x ∈ l, tvalid x = true ∧ (c = true → x.f0 = 1) := by
  induction l with
  | nil => simp [tvalids]
  | cons k l ih =>
    simp only [tvalids, Bool.and_eq_true, ih, List.mem_cons, forall_eq_or_imp]
    constructor
    · rintro ⟨⟨a, b⟩, h⟩
      refine ⟨⟨a, fun hc => ?_⟩, h⟩
      subst hc
      simpa using b
    · rintro ⟨⟨a, b⟩, h⟩
      refine ⟨⟨a, ?_⟩, h⟩
      cases c with
      | false => rfl
      | true => simp [b rfl]
theorem valid_ev (a : S25) : okT a → tsize a ≤ 4611686018427387904 → Ev (fun k => capnpref10_Valid.f k a.f0 a.f1 a.f2 a.f3 a.f4) (tvalid a) := by
  refine S25.ind (P := fun a => okT a → tsize a ≤ 4611686018427387904 → Ev (fun k => capnpref10_Valid.f k a.f0 a.f1 a.f2 a.f3 a.f4) (tvalid a)) (fun a ih hok hs => ?_) a
  have he := tsize_eq a
  have hl := length_tsizes a.f4
  have hx := AllT.here hok
  obtain ⟨C, hC⟩ : ∃ C : Bool, (a.f0 == 2 && a.f1 == 7) = C := ⟨_, rfl⟩
  have HV : tvalid a = (tvalids C a.f4 && topV a.f0 a.f1 a.f2 a.f3 a.f4.length) := by rw [tvalid_eq, hC]
  have yes : ∀ k, capnpref10_Valid.j1 (k + 1) true a.f0 a.f1 a.f2 a.f3 a.f4 = some false := fun k => by
    simp only [capnpref10_Valid.j1]; rw [if_pos trivial]
  have top : Ev (fun k => capnpref10_Valid.l0 k (a.f4.length : Int) a.f0 a.f1 a.f2 a.f3 a.f4) (topV a.f0 a.f1 a.f2 a.f3 a.f4.length) := by
    by_cases k0 : a.f0 = 0
    · refine Ev.step (f := fun _ => some (topV a.f0 a.f1 a.f2 a.f3 a.f4.length)) (fun k => ?_) (Ev.now _)
      simp only [capnpref10_Valid.l0]
      rw [if_neg (by omega), if_pos k0]
      unfold topV
      rw [if_pos k0]
      by_cases a1 : a.f1 = 0
      · by_cases a2 : a.f2 = 0
        · by_cases a3 : (a.f3.length : Int) = 0
          · rw [if_pos a1, if_pos a2, if_pos a3, a1, a2, a3]; rfl
          · rw [if_pos a1, if_pos a2, if_neg a3, a1, a2]
            have : ((a.f3.length : Int) == 0) = false := by simpa using a3
            rw [this]; rfl
        · rw [if_pos a1, if_neg a2, a1]
          have : (a.f2 == 0) = false := by simpa using a2
          rw [this]; rfl
      · rw [if_neg a1]
        have : (a.f1 == 0) = false := by simpa using a1
        rw [this]; rfl
    by_cases k1 : a.f0 = 1
    · refine Ev.step (f := fun _ => some (topV a.f0 a.f1 a.f2 a.f3 a.f4.length)) (fun k => ?_) (Ev.now _)
      simp only [capnpref10_Valid.l0]
      rw [if_neg (by omega), if_neg k0, if_pos k1]
      unfold topV
      rw [if_neg k0, if_pos k1]
      by_cases a1 : a.f1 = 0
      · by_cases a2 : a.f2 = 0
        · by_cases a3 : (a.f3.length : Int) % 8 = 0
          · by_cases a4 : (a.f3.length : Int) ≤ 524280
            · rw [if_pos a1, if_pos a2, if_pos a3, if_pos a4, a1, a2, a3, decide_eq_true a4]; rfl
            · rw [if_pos a1, if_pos a2, if_pos a3, if_neg a4, a1, a2, a3, decide_eq_false a4]; rfl
          · rw [if_pos a1, if_pos a2, if_neg a3, a1, a2]
            have : ((a.f3.length : Int) % 8 == 0) = false := by simpa using a3
            rw [this]; rfl
        · rw [if_pos a1, if_neg a2, a1]
          have : (a.f2 == 0) = false := by simpa using a2
          rw [this]; rfl
      · rw [if_neg a1]
        have : (a.f1 == 0) = false := by simpa using a1
        rw [this]; rfl
    by_cases k2 : a.f0 = 2
    · have bad : (a.f2 < 0 ∨ 536870911 < a.f2 ∨ a.f1 < 0 ∨ 7 < a.f1) → topV a.f0 a.f1 a.f2 a.f3 a.f4.length = false := fun h => by
        unfold topV; rw [if_neg k0, if_neg k1, if_pos k2, if_pos h]
      have go : ∀ b : Bool, (b = true → topV a.f0 a.f1 a.f2 a.f3 a.f4.length = false) → (b = false → Ev (fun k => capnpref10_Valid.j1 k false a.f0 a.f1 a.f2 a.f3 a.f4) (topV a.f0 a.f1 a.f2 a.f3 a.f4.length)) → Ev (fun k => capnpref10_Valid.j1 k b a.f0 a.f1 a.f2 a.f3 a.f4) (topV a.f0 a.f1 a.f2 a.f3 a.f4.length) := fun b h1 h2 => by
        cases b with
        | true => rw [h1 rfl]; exact Ev.step yes (Ev.now _)
        | false => exact h2 rfl
      by_cases a1 : a.f2 < 0
      · refine Ev.step (f := fun k => capnpref10_Valid.j1 k true a.f0 a.f1 a.f2 a.f3 a.f4) (fun k => ?_) (go true (fun _ => bad (.inl a1)) (fun h => by cases h))
        simp only [capnpref10_Valid.l0]
        rw [if_neg (by omega), if_neg k0, if_neg k1, if_pos k2, if_pos a1]
      by_cases a2 : 536870911 < a.f2
      · refine Ev.step (f := fun k => capnpref10_Valid.j1 k true a.f0 a.f1 a.f2 a.f3 a.f4) (fun k => ?_) (go true (fun _ => bad (.inr (.inl a2))) (fun h => by cases h))
        simp only [capnpref10_Valid.l0]
        rw [if_neg (by omega), if_neg k0, if_neg k1, if_pos k2, if_neg a1, if_pos a2]
      by_cases a3 : a.f1 < 0
      · refine Ev.step (f := fun k => capnpref10_Valid.j1 k true a.f0 a.f1 a.f2 a.f3 a.f4) (fun k => ?_) (go true (fun _ => bad (.inr (.inr (.inl a3)))) (fun h => by cases h))
        simp only [capnpref10_Valid.l0]
        rw [if_neg (by omega), if_neg k0, if_neg k1, if_pos k2, if_neg a1, if_neg (by omega), if_pos a3]
      refine Ev.step (f := fun k => capnpref10_Valid.j1 k (decide (a.f1 > 7)) a.f0 a.f1 a.f2 a.f3 a.f4) (fun k => ?_) (go _ (fun h => bad (.inr (.inr (.inr (of_decide_eq_true h))))) (fun h => ?_))
      · simp only [capnpref10_Valid.l0]
        rw [if_neg (by omega), if_neg k0, if_neg k1, if_pos k2, if_neg a1, if_neg (by omega), if_neg a3]
      have a4 : a.f1 ≤ 7 := by have := of_decide_eq_false h; omega
      have hT : topV a.f0 a.f1 a.f2 a.f3 a.f4.length = if 6 ≤ a.f1 then ((a.f3.length : Int) == 0) && ((a.f4.length : Int) == a.f2)
          else if ¬ a.f4.length = 0 ∨ ¬ (a.f3.length : Int) = bytesOf a.f1 a.f2 then false else decide (rL a.f1 a.f2 a.f3 a.f3.length = a.f3) := by
        unfold topV; rw [if_neg k0, if_neg k1, if_pos k2, if_neg (by omega)]
      rw [hT]
      by_cases a5 : 6 ≤ a.f1
      · rw [if_pos a5]
        refine Ev.step (f := fun _ => some (((a.f3.length : Int) == 0) && ((a.f4.length : Int) == a.f2))) (fun k => ?_) (Ev.now _)
        simp only [capnpref10_Valid.j1]
        rw [if_neg (by simp), if_pos (by omega)]
        by_cases a6 : (a.f3.length : Int) = 0
        · rw [if_pos a6, a6]; rfl
        · rw [if_neg a6]
          have : ((a.f3.length : Int) == 0) = false := by simpa using a6
          rw [this]; rfl
      · rw [if_neg a5]
        have no2 : (¬ a.f4.length = 0 ∨ ¬ (a.f3.length : Int) = bytesOf a.f1 a.f2) → Ev (fun k => capnpref10_Valid.j2 k true a.f0 a.f1 a.f2 a.f3 a.f4) (if ¬ a.f4.length = 0 ∨ ¬ (a.f3.length : Int) = bytesOf a.f1 a.f2 then false else decide (rL a.f1 a.f2 a.f3 a.f3.length = a.f3)) := fun h => by
          rw [if_pos h]
          refine Ev.step (fun k => ?_) (Ev.now _)
          simp only [capnpref10_Valid.j2]
          rw [if_pos trivial]
        by_cases a6 : a.f4.length = 0
        · refine Ev.step (f := fun k => capnpref10_Valid.j2 k ((a.f3.length : Int) != bytesOf a.f1 a.f2) a.f0 a.f1 a.f2 a.f3 a.f4) (fun k => ?_) ?_
          · simp only [capnpref10_Valid.j1]
            rw [if_neg (by simp), if_neg (by omega), if_pos (by omega), bytes_f _ _ (by omega) (by omega)]
            rfl
          · by_cases a7 : (a.f3.length : Int) = bytesOf a.f1 a.f2
            · have e7 : ((a.f3.length : Int) != bytesOf a.f1 a.f2) = false := by rw [a7]; simp
              rw [e7, if_neg (by rintro (h | h); exact h a6; exact h a7)]
              refine Ev.step (f := fun k => (capnpref06_Trim.f k a.f1 a.f2 a.f3).bind fun t => (capnpref01_Same.f k t a.f3).bind fun u => some u) (fun k => ?_) ?_
              · simp only [capnpref10_Valid.j2]
                rw [if_neg (by simp)]
              · refine Ev.bind (trim_ev a.f1 a.f2 (by omega) (by omega) a.f3 hx a.f3.length a7 (Nat.le_refl _)) ?_
                exact Ev.bind (same_ev _ _ (by rw [rL_length]; omega)) (Ev.now _)
            · have e7 : ((a.f3.length : Int) != bytesOf a.f1 a.f2) = true := by simpa using a7
              rw [e7]
              exact no2 (.inr a7)
        · refine Ev.step (f := fun k => capnpref10_Valid.j2 k true a.f0 a.f1 a.f2 a.f3 a.f4) (fun k => ?_) (no2 (.inl a6))
          simp only [capnpref10_Valid.j1]
          rw [if_neg (by simp), if_neg (by omega), if_neg (by omega)]
    · refine Ev.step (f := fun _ => some (topV a.f0 a.f1 a.f2 a.f3 a.f4.length)) (fun k => ?_) (Ev.now _)
      simp only [capnpref10_Valid.l0]
      rw [if_neg (by omega), if_neg k0, if_neg k1, if_neg k2]
      unfold topV
      rw [if_neg k0, if_neg k1, if_neg k2]
  have loop : ∀ d j : Nat, a.f4.length - j = d → j ≤ a.f4.length → tvalids C (a.f4.take j) = true → Ev (fun k => capnpref10_Valid.l0 k (j : Int) a.f0 a.f1 a.f2 a.f3 a.f4) (tvalid a) := by
    intro d
    induction d with
    | zero =>
      intro j hd hj ht
      obtain rfl : j = a.f4.length := by omega
      rw [List.take_length] at ht
      rw [HV, ht, Bool.true_and]
      exact top
    | succ d ihd =>
      intro j hd hj ht
      have hlt : j < a.f4.length := by omega
      have hmem : a.f4[j] ∈ a.f4 := List.getElem_mem hlt
      have hk := tsize_kid hmem
      have ha := ih _ hmem (AllT.kids hok _ hmem) (by omega)
      have hst := tvalids_take C a.f4 j hlt
      have hbad := tvalids_bad C a.f4 j hlt
      have e2 : wrap64 ((j : Int) + 1) = ((j + 1 : Nat) : Int) := by rw [w64 (by omega) (by omega)]; omega
      refine Ev.step (f := fun k => (capnpref10_Valid.f k a.f4[j].f0 a.f4[j].f1 a.f4[j].f2 a.f4[j].f3 a.f4[j].f4).bind fun t => if t = true then (if a.f0 = 2 then (if a.f1 = 7 then (if a.f4[j].f0 = 1 then capnpref10_Valid.l0 k (wrap64 ((j : Int) + 1)) a.f0 a.f1 a.f2 a.f3 a.f4 else some false) else capnpref10_Valid.l0 k (wrap64 ((j : Int) + 1)) a.f0 a.f1 a.f2 a.f3 a.f4) else capnpref10_Valid.l0 k (wrap64 ((j : Int) + 1)) a.f0 a.f1 a.f2 a.f3 a.f4) else some false) (fun k => ?_) ?_
      · simp only [capnpref10_Valid.l0]
        rw [if_pos (by omega), if_pos (by omega), rdT_at _ _ hlt]
      refine Ev.bind ha ?_
      cases hv : tvalid a.f4[j] with
      | false =>
        rw [HV, hbad (by rw [hv]; rfl), Bool.false_and]
        exact Ev.now _
      | true =>
        have cont : (!(C && a.f4[j].f0 != 1)) = true → Ev (fun k => capnpref10_Valid.l0 k (wrap64 ((j : Int) + 1)) a.f0 a.f1 a.f2 a.f3 a.f4) (tvalid a) := fun hc => by
          rw [e2]
          exact ihd (j + 1) (by omega) (by omega) (by rw [hst, ht, hv, hc]; rfl)
        by_cases b0 : a.f0 = 2
        · by_cases b1 : a.f1 = 7
          · have hCt : C = true := by rw [← hC, b0, b1]; rfl
            by_cases b2 : a.f4[j].f0 = 1
            · exact Ev.congr (fun k => by rw [if_pos rfl, if_pos b0, if_pos b1, if_pos b2]) (cont (by rw [b2]; simp))
            · have hf : tvalid a = false := by
                rw [HV, hbad (by rw [hv, hCt]; simpa using b2), Bool.false_and]
              rw [hf]
              exact Ev.congr (fun k => by rw [if_pos rfl, if_pos b0, if_pos b1, if_neg b2]) (Ev.now _)
          · have hCf : C = false := by rw [← hC, show (a.f1 == 7) = false by simpa using b1, Bool.and_false]
            exact Ev.congr (fun k => by rw [if_pos rfl, if_pos b0, if_neg b1]) (cont (by rw [hCf]; rfl))
        · have hCf : C = false := by rw [← hC, show (a.f0 == 2) = false by simpa using b0, Bool.false_and]
          exact Ev.congr (fun k => by rw [if_pos rfl, if_neg b0]) (cont (by rw [hCf]; rfl))
  refine Ev.step (f := fun k => capnpref10_Valid.l0 k 0 a.f0 a.f1 a.f2 a.f3 a.f4) (fun k => by simp only [capnpref10_Valid.f]) ?_
  exact loop a.f4.length 0 (by omega) (by omega) (by simp [tvalids])
end Go.Proofs.Ytmbockhcmhghlaa.Pr
end
section
namespace Go.Proofs.Ytmbockhcmhghlaa.Pr
open Go.RowKit Go.Proofs.YtmbockhcmhghlaaW.PrintWords Go.Proofs.YtmbockhcmhghlaaW.PrintLast Go.Proofs.YtmbockhcmhghlaaW.PrintMore
set_option linter.unusedVariables false
set_option linter.unusedSimpArgs false
def twords (d : List Int) : Nat := (keptN zeroB d + 7) / 8
def cutD (a : S25) : List Int := if a.f0 = 1 then a.f3.take (8 * twords a.f3) else a.f3
def cutK (a : S25) : List S25 := if a.f0 = 1 then a.f4.take (keptN nullN a.f4) else a.f4
mutual
def ttrim : S25 → S25
  | ⟨k, e, n, d, l⟩ => ⟨k, e, n, if k = 1 then d.take (8 * twords d) else d, if k = 1 then (ttrims l).take (keptN nullN l) else ttrims l⟩
def ttrims : List S25 → List S25
  | [] => []
  | x :: l => ttrim x :: ttrims l
end
theorem ttrims_eq : ∀ l : List S25, ttrims l = l.map ttrim
  | [] => rfl
  | x :: l => by simp [ttrims, ttrims_eq l]
theorem ttrim_eq (a : S25) : ttrim a = ⟨a.f0, a.f1, a.f2, cutD a, (cutK a).map ttrim⟩ := by
  cases a with
  | mk k e n d l =>
    simp only [ttrim, cutD, cutK, ttrims_eq]
    split <;> simp [List.map_take]
theorem ttrim_f3 (a : S25) : (ttrim a).f3 = cutD a := by rw [ttrim_eq]
theorem ttrim_f4 (a : S25) : (ttrim a).f4 = (cutK a).map ttrim := by rw [ttrim_eq]
theorem cutK_sub {a x : S25} (h : x ∈ cutK a) : x ∈ a.f4 := by
  unfold cutK at h
  split at h
  · exact List.mem_of_mem_take h
  · exact h
theorem cutK_len (a : S25) : (cutK a).length ≤ a.f4.length := by
  unfold cutK
  split
  · simp; omega
  · omega
theorem cutD_len (a : S25) : (cutD a).length ≤ a.f3.length := by
  unfold cutD
  split
  · simp; omega
  · omega
def wordsT : S25 → Prop := AllT fun a => a.f0 = 1 → a.f3.length % 8 = 0
theorem valid_words (a : S25) : tvalid a = true → wordsT a := by
  refine S25.ind (P := fun a => tvalid a = true → wordsT a) (fun a ih h => ?_) a
  rw [tvalid_eq, Bool.and_eq_true] at h
  refine .mk (fun h1 => ?_) (fun x hx => ih x hx ((tvalids_all _ _).1 h.1 x hx).1)
  have h2 := h.2
  unfold topV at h2
  rw [if_neg (by omega), if_pos h1] at h2
  simp only [Bool.and_eq_true, beq_iff_eq] at h2
  omega
theorem twords_le (d : List Int) (h : d.length % 8 = 0) : 8 * twords d ≤ d.length := by
  have := keptN_le zeroB d
  unfold twords; omega
theorem twords_f (d : List Int) (h : d.length ≤ 1000000000000) : trim_Words.f d = some (twords d : Int) := by
  unfold trim_Words.f twords
  rw [if_pos (by omega)]
  congr 1
  omega
theorem tptrs_f (l : List S25) : trim_Pointers.f l = some (keptN nullN l : Int) := rfl
def cellsT (a : S25) : Int × Int × Int × List Int × (List S25) := (a.f0, a.f1, a.f2, a.f3, a.f4)
theorem mkT (a : S25) : (⟨(cellsT a).1, (cellsT a).2.1, (cellsT a).2.2.1, (cellsT a).2.2.2.1, (cellsT a).2.2.2.2⟩ : S25) = a := by cases a; rfl
theorem take_map {α β : Type} (f : α → β) (l : List α) (j : Nat) (h : j < l.length) : (l.take j).map f ++ [f l[j]] = (l.take (j + 1)).map f := by
  rw [take_one l j h, List.map_append]; rfl
theorem trim_loop (L : List S25) (hL : L.length ≤ 1000000000000) (hm : ∀ x ∈ L, Ev (fun k => trim_Trim.f k x.f0 x.f1 x.f2 x.f3 x.f4) (cellsT (ttrim x))) (e n : Int) (kd : Int) (D : List Int) :
    Ev (fun k => trim_Trim.l0 k L (L.length : Int) 0 kd e n D []) (kd, e, n, D, L.map ttrim) := by
  have loop : ∀ d j : Nat, L.length - j = d → j ≤ L.length → Ev (fun k => trim_Trim.l0 k L (L.length : Int) (j : Int) kd e n D ((L.take j).map ttrim)) (kd, e, n, D, L.map ttrim) := by
    intro d
    induction d with
    | zero =>
      intro j hd hj
      refine Ev.step (f := fun _ => some (kd, e, n, D, L.map ttrim)) (fun k => ?_) (Ev.now _)
      simp only [trim_Trim.l0]
      rw [if_neg (by omega), List.take_of_length_le (by omega)]
    | succ d ih =>
      intro j hd hj
      have hlt : j < L.length := by omega
      have hn := ih (j + 1) (by omega) (by omega)
      rw [← take_map _ _ _ hlt, show ((j + 1 : Nat) : Int) = (j : Int) + 1 by omega] at hn
      refine Ev.step (f := fun k => (trim_Trim.f k L[j].f0 L[j].f1 L[j].f2 L[j].f3 L[j].f4).bind fun bt => if ((L.take j).map ttrim).length < 1954687338268 then trim_Trim.l0 k L (L.length : Int) (wrap64 ((j : Int) + 1)) kd e n D ((L.take j).map ttrim ++ [(⟨bt.1, bt.2.1, bt.2.2.1, bt.2.2.2.1, bt.2.2.2.2⟩ : S25)]) else none) (fun k => ?_) ?_
      · simp only [trim_Trim.l0]
        rw [if_pos (by omega), if_pos (by omega), if_pos (by omega), rdT_at _ _ hlt]
      · refine Ev.bind (hm _ (List.getElem_mem hlt)) ?_
        rw [w64 (by omega) (by omega)]
        exact Ev.congr (fun k => by rw [if_pos (by simp; omega), mkT]) hn
  exact loop L.length 0 (by omega) (by omega)
theorem ttrim_ev (a : S25) : wordsT a → tsize a ≤ 1000000000000 → Ev (fun k => trim_Trim.f k a.f0 a.f1 a.f2 a.f3 a.f4) (cellsT (ttrim a)) := by
  refine S25.ind (P := fun a => wordsT a → tsize a ≤ 1000000000000 → Ev (fun k => trim_Trim.f k a.f0 a.f1 a.f2 a.f3 a.f4) (cellsT (ttrim a))) (fun a ih hw hs => ?_) a
  have he := tsize_eq a
  have hl := length_tsizes a.f4
  have hm : ∀ x ∈ a.f4, Ev (fun k => trim_Trim.f k x.f0 x.f1 x.f2 x.f3 x.f4) (cellsT (ttrim x)) := fun x hx => ih x hx (AllT.kids hw x hx) (by have := tsize_kid hx; omega)
  have hc : cellsT (ttrim a) = (a.f0, a.f1, a.f2, cutD a, (cutK a).map ttrim) := by unfold cellsT; rw [ttrim_eq]
  have hj : Ev (fun k => trim_Trim.j0 k (cutD a) (cutK a) a.f0 a.f1 a.f2) (cellsT (ttrim a)) := by
    rw [hc]
    have hcl := cutD_len a
    have hck := cutK_len a
    refine Ev.step (f := fun k => trim_Trim.l0 k (cutK a) ((cutK a).length : Int) 0 a.f0 a.f1 a.f2 (cutD a) []) (fun k => ?_) (trim_loop (cutK a) (by omega) (fun x hx => hm x (cutK_sub hx)) _ _ _ _)
    simp only [trim_Trim.j0]
    rw [if_pos (by simp; omega), List.nil_append]
  by_cases h0 : a.f0 = 1
  · have hlen := AllT.here hw h0
    have hwl := twords_le a.f3 hlen
    have hkl := keptN_le nullN a.f4
    refine Ev.step (f := fun k => trim_Trim.j0 k (cutD a) (cutK a) a.f0 a.f1 a.f2) (fun k => ?_) hj
    simp only [trim_Trim.f]
    rw [if_pos h0, twords_f _ (by omega), Option.bind_some, w64 (by omega) (by omega), if_pos (by omega), if_pos (by omega), tptrs_f, Option.bind_some, if_pos (by omega), if_pos (by omega)]
    unfold cutD cutK
    rw [if_pos h0, if_pos h0]
    have e1 : (8 * (twords a.f3 : Int)).toNat = 8 * twords a.f3 := by omega
    rw [e1, Int.toNat_natCast]
  · refine Ev.step (f := fun k => trim_Trim.j0 k (cutD a) (cutK a) a.f0 a.f1 a.f2) (fun k => ?_) hj
    simp only [trim_Trim.f]
    unfold cutD cutK
    rw [if_neg h0, if_neg h0, if_neg h0]
def uniD : List S25 → Nat
  | [] => 0
  | x :: l => max (x.f3.length / 8) (uniD l)
def uniP : List S25 → Nat
  | [] => 0
  | x :: l => max x.f4.length (uniP l)
theorem uniD_append : ∀ l m : List S25, uniD (l ++ m) = max (uniD l) (uniD m)
  | [], m => by simp [uniD]
  | x :: l, m => by simp [uniD, uniD_append l m, Nat.max_assoc]
theorem uniP_append : ∀ l m : List S25, uniP (l ++ m) = max (uniP l) (uniP m)
  | [], m => by simp [uniP]
  | x :: l, m => by simp [uniP, uniP_append l m, Nat.max_assoc]
theorem uniD_take (l : List S25) (j : Nat) (h : j < l.length) : uniD (l.take (j + 1)) = max (uniD (l.take j)) (l[j].f3.length / 8) := by
  rw [take_one l j h, uniD_append]; simp [uniD]
theorem uniP_take (l : List S25) (j : Nat) (h : j < l.length) : uniP (l.take (j + 1)) = max (uniP (l.take j)) l[j].f4.length := by
  rw [take_one l j h, uniP_append]; simp [uniP]
theorem uni_ev (a : S25) (hs : tsize a ≤ 1000000000000) : Ev (fun k => trim_Uniform.f k a.f0 a.f1 a.f2 a.f3 a.f4) ((uniD a.f4 : Int), (uniP a.f4 : Int)) := by
  have he := tsize_eq a
  have hl := length_tsizes a.f4
  have loop : ∀ d j : Nat, a.f4.length - j = d → j ≤ a.f4.length → Ev (fun k => trim_Uniform.l0 k (uniD (a.f4.take j) : Int) (uniP (a.f4.take j) : Int) a.f4 (a.f4.length : Int) (j : Int)) ((uniD a.f4 : Int), (uniP a.f4 : Int)) := by
    intro d
    induction d with
    | zero =>
      intro j hd hj
      refine Ev.step (f := fun _ => some ((uniD a.f4 : Int), (uniP a.f4 : Int))) (fun k => ?_) (Ev.now _)
      simp only [trim_Uniform.l0]
      rw [if_neg (by omega), List.take_of_length_le (by omega)]
    | succ d ihd =>
      intro j hd hj
      have hlt : j < a.f4.length := by omega
      have hn := ihd (j + 1) (by omega) (by omega)
      have hk := tsize_kid (List.getElem_mem hlt : a.f4[j] ∈ a.f4)
      have hke := tsize_eq a.f4[j]
      have hkl := length_tsizes a.f4[j].f4
      rw [uniD_take _ _ hlt, uniP_take _ _ hlt] at hn
      have e1 : ((max (uniD (a.f4.take j)) (a.f4[j].f3.length / 8) : Nat) : Int) = max (uniD (a.f4.take j) : Int) ((a.f4[j].f3.length : Int) / 8) := by omega
      have e3 : ((max (uniP (a.f4.take j)) a.f4[j].f4.length : Nat) : Int) = max (uniP (a.f4.take j) : Int) (a.f4[j].f4.length : Int) := by omega
      have e2 : ((j + 1 : Nat) : Int) = (j : Int) + 1 := by omega
      rw [e1, e2, e3] at hn
      refine Ev.step (f := fun k => trim_Uniform.l0 k (mx (uniD (a.f4.take j) : Int) (wrap64 ((a.f4[j].f3.length : Int) / 8))) (mx (uniP (a.f4.take j) : Int) (a.f4[j].f4.length : Int)) a.f4 (a.f4.length : Int) (wrap64 ((j : Int) + 1))) (fun k => ?_) ?_
      · simp only [trim_Uniform.l0]
        rw [if_pos (by omega), if_pos (by omega), if_pos (by omega), rdT_at _ _ hlt]
      · rw [mx_max, mx_max, w64 (x := (a.f4[j].f3.length : Int) / 8) (by omega) (by omega), w64 (by omega) (by omega)]
        exact hn
  unfold trim_Uniform.f
  exact loop a.f4.length 0 (by omega) (by omega)
end Go.Proofs.Ytmbockhcmhghlaa.Pr
end
section
namespace Go.Proofs.Ytmbockhcmhghlaa.Pr
open Go.RowKit Go.Proofs.YtmbockhcmhghlaaW.PrintWords Go.Proofs.YtmbockhcmhghlaaW.PrintLast Go.Proofs.YtmbockhcmhghlaaW.PrintMore
set_option linter.unusedVariables false
set_option linter.unusedSimpArgs false
theorem sizes_map_le (l : List S25) (h : ∀ x ∈ l, tsize (ttrim x) ≤ tsize x) : tsizes (l.map ttrim) ≤ tsizes l := by
  induction l with
  | nil => simp [tsizes]
  | cons k l ih =>
    have := h k List.mem_cons_self
    have := ih (fun x hx => h x (List.mem_cons_of_mem _ hx))
    simp only [List.map_cons, tsizes]; omega
theorem cutK_sizes (a : S25) : tsizes (cutK a) ≤ tsizes a.f4 := by
  unfold cutK
  split
  · exact tsizes_le _ _
  · exact Nat.le_refl _
theorem size_trim (a : S25) : tsize (ttrim a) ≤ tsize a := by
  refine S25.ind (P := fun a => tsize (ttrim a) ≤ tsize a) (fun a ih => ?_) a
  rw [tsize_eq, tsize_eq a, ttrim_f3, ttrim_f4]
  have h1 := cutD_len a
  have h2 := sizes_map_le (cutK a) (fun x hx => ih x (cutK_sub hx))
  have h3 := cutK_sizes a
  omega
theorem uniD_ge {l : List S25} {x : S25} (h : x ∈ l) : x.f3.length / 8 ≤ uniD l ∧ x.f4.length ≤ uniP l := by
  induction l with
  | nil => cases h
  | cons k l ih =>
    simp only [uniD, uniP]
    rcases List.mem_cons.1 h with rfl | h
    · omega
    · have := ih h; omega
theorem uni_bound {l : List S25} {A B : Nat} (h : ∀ x ∈ l, x.f3.length / 8 ≤ A ∧ x.f4.length ≤ B) : uniD l ≤ A ∧ uniP l ≤ B := by
  induction l with
  | nil => simp [uniD, uniP]
  | cons k l ih =>
    have h1 := h k List.mem_cons_self
    have h2 := ih (fun x hx => h x (List.mem_cons_of_mem _ hx))
    simp only [uniD, uniP]
    omega
theorem uni_attained {l : List S25} (h : l ≠ []) : (∃ x ∈ l, x.f3.length / 8 = uniD l) ∧ ∃ x ∈ l, x.f4.length = uniP l := by
  induction l with
  | nil => exact absurd rfl h
  | cons k l ih =>
    by_cases hl : l = []
    · subst hl
      exact ⟨⟨k, List.mem_cons_self, by simp [uniD]⟩, ⟨k, List.mem_cons_self, by simp [uniP]⟩⟩
    · obtain ⟨⟨x, hx, ex⟩, ⟨y, hy, ey⟩⟩ := ih hl
      simp only [uniD, uniP]
      constructor
      · by_cases hc : uniD l ≤ k.f3.length / 8
        · exact ⟨k, List.mem_cons_self, by omega⟩
        · exact ⟨x, List.mem_cons_of_mem _ hx, by omega⟩
      · by_cases hc : uniP l ≤ k.f4.length
        · exact ⟨k, List.mem_cons_self, by omega⟩
        · exact ⟨y, List.mem_cons_of_mem _ hy, by omega⟩
theorem uni_trim (l : List S25) : uniD (l.map ttrim) ≤ uniD l ∧ uniP (l.map ttrim) ≤ uniP l := by
  refine uni_bound fun x hx => ?_
  obtain ⟨y, hy, rfl⟩ := List.mem_map.1 hx
  have h1 := uniD_ge hy
  have h2 := cutD_len y
  have h3 := cutK_len y
  rw [ttrim_f3, ttrim_f4, List.length_map]
  omega
end Go.Proofs.Ytmbockhcmhghlaa.Pr
end
section
namespace Go.Proofs.Ytmbockhcmhghlaa.Pr
open Go.RowKit Go.Proofs.YtmbockhcmhghlaaW.PrintWords Go.Proofs.YtmbockhcmhghlaaW.PrintLast Go.Proofs.YtmbockhcmhghlaaW.PrintMore
set_option linter.unusedVariables false
set_option linter.unusedSimpArgs false
theorem wp_at {P : Program} {c : Code} {Q : Exit → Act → World → Prop} {a : Act} {w : World} (h : ∀ W, W = w → c.wp P Q a W) : c.wp P Q a w := h w rfl
section
variable {α : Type} {d : Kd α} {e base n c g sz : Nat} {W W' : World} {v : Value} {A : Option Addr} {xs ys : List α} {rows news : List (List Value)}
def RowsK (d : Kd α) (W : World) (xs : List α) (rows : List (List Value)) : Prop := rows.length = xs.length ∧ ∀ (j : Nat) (x : α) (cs : List Value), xs[j]? = some x → rows[j]? = some cs → d.K W x cs
theorem RowsK.below (h : RowsK d W xs rows) (hb : Below W.heap.size W W') : RowsK d W' xs rows := ⟨h.1, fun j x cs hx hc => d.K_below hb (h.2 j x cs hx hc)⟩
theorem RowsK.nil (d : Kd α) (W : World) : RowsK d W [] [] := ⟨rfl, fun j x cs hx _ => by simp at hx⟩
theorem RowsK.one {x : α} {cs : List Value} (h : d.K W x cs) : RowsK d W [x] [cs] := ⟨rfl, fun j y c hy hc => by
  match j with
  | 0 =>
    simp at hy hc
    subst hy hc
    exact h
  | j + 1 => simp at hy⟩
theorem RowsK.append (h : RowsK d W xs rows) (k : RowsK d W ys news) : RowsK d W (xs ++ ys) (rows ++ news) := ⟨by rw [List.length_append, List.length_append, h.1, k.1], fun j x cs hx hc => by
  rcases Nat.lt_or_ge j xs.length with hj | hj
  · rw [List.getElem?_append_left hj] at hx
    rw [List.getElem?_append_left (by rw [h.1]; exact hj)] at hc
    exact h.2 j x cs hx hc
  · rw [List.getElem?_append_right hj] at hx
    rw [List.getElem?_append_right (by rw [h.1]; exact hj), h.1] at hc
    exact k.2 _ x cs hx hc⟩
theorem RowsK.replicate {x : α} {cs : List Value} (h : d.K W x cs) (m : Nat) : RowsK d W (List.replicate m x) (List.replicate m cs) := ⟨by simp, fun j y c hy hc => by
  obtain ⟨_, rfl⟩ := List.getElem?_eq_some_iff.1 hy
  obtain ⟨_, rfl⟩ := List.getElem?_eq_some_iff.1 hc
  simpa using h⟩
theorem rows_of_C (h : d.C W A n xs) : ∃ rows : List (List Value), RowsK d W xs rows ∧ (Kd.raw d.sz).C W A n rows := by
  classical
  obtain ⟨h1, h2, h3⟩ := h
  by_cases hn : n = 0
  · subst hn
    obtain rfl : xs = [] := List.length_eq_zero_iff.1 h1
    exact ⟨[], RowsK.nil _ _, rfl, h2, fun h => by omega⟩
  · obtain ⟨ad, rfl, hc⟩ := h3 (by omega)
    have hj : ∀ j (hj : j < xs.length), ∃ c : List Value, c.length = d.sz ∧ d.K W xs[j] c ∧ ∀ i u, c[i]? = some u → W.cell? (ad.add (j * d.sz + i)) = some u := fun j hj => hc j _ (List.getElem?_eq_getElem hj)
    let f : Nat → List Value := fun j => if h : j < xs.length then (hj j h).choose else []
    have hf : ∀ j (h : j < xs.length), f j = (hj j h).choose := fun j h => dif_pos h
    have hg : ∀ (j : Nat) (cs : List Value), ((List.range xs.length).map f)[j]? = some cs → ∃ h : j < xs.length, cs = (hj j h).choose := fun j cs hcs => by
      have hl : j < xs.length := by have := (List.getElem?_eq_some_iff.1 hcs).1; simpa using this
      refine ⟨hl, ?_⟩
      rw [← hf j hl]
      simp [hl] at hcs
      exact hcs.symm
    refine ⟨(List.range xs.length).map f, ⟨by simp, fun j x cs hx hcs => ?_⟩, by simp [h1], h2, fun _ => ⟨ad, rfl, fun j cs hcs => ?_⟩⟩
    · obtain ⟨hl, rfl⟩ := hg j cs hcs
      rw [List.getElem?_eq_getElem hl] at hx
      obtain rfl := Option.some.inj hx
      exact (hj j hl).choose_spec.2.1
    · obtain ⟨hl, rfl⟩ := hg j cs hcs
      exact ⟨_, (hj j hl).choose_spec.1, ⟨rfl, (hj j hl).choose_spec.1, d.K_one (hj j hl).choose_spec.2.1⟩, (hj j hl).choose_spec.2.2⟩
theorem C_of_rows (h : (Kd.raw d.sz).C W A n rows) (hK : RowsK d W xs rows) : d.C W A n xs := by
  obtain ⟨h1, h2, h3⟩ := h
  refine ⟨hK.1.symm.trans h1, h2, fun hn => ?_⟩
  obtain ⟨ad, rfl, hc⟩ := h3 hn
  refine ⟨ad, rfl, fun j x hx => ?_⟩
  have hj : j < rows.length := by rw [hK.1]; exact (List.getElem?_eq_some_iff.1 hx).1
  obtain ⟨cs, hl, ⟨rfl, _, _⟩, hcell⟩ := hc j _ (List.getElem?_eq_getElem hj)
  exact ⟨_, hl, hK.2 j x _ hx (List.getElem?_eq_getElem hj), hcell⟩
theorem raw_kept {row : Option Nat} (h : (Kd.raw sz).R e W base (fun _ => True) v rows) (hg : W.grownBy W' row) (hne : ∀ k, v.ownBlock = some k → row ≠ some k) : (Kd.raw sz).R e W' base (fun _ => True) v rows := by
  obtain ⟨_, inner, ho, hr⟩ := h
  refine ⟨fun _ _ => trivial, inner, own_move ho fun k hk => hg.block k ?_ (fun he => hne k hk he.symm), hr⟩
  obtain ⟨cells, hc⟩ := own_typed ho k hk
  exact blk_lt hc
theorem raw_far {p : Addr} {u : Value} (h : (Kd.raw sz).R e W base (fun _ => True) v rows) (hp : p.block < base) : (Kd.raw sz).R e (W.setCell p u) base (fun _ => True) v rows := by
  obtain ⟨_, inner, ho, hr⟩ := h
  refine ⟨fun _ _ => trivial, inner, own_move ho fun k hk => Below.heap_setCell W p u k ?_, hr⟩
  have := own_base ho k hk
  omega
theorem raw_block {k : Nat} (h : (Kd.raw sz).R e W base (fun _ => True) v rows) (hk : v.ownBlock = some k) : base ≤ k ∧ k < W.heap.size := by
  obtain ⟨_, inner, ho, _⟩ := h
  exact ⟨own_base ho k hk, own_lt ho k hk⟩
theorem raw_M {W : World} {b : Nat} {ok : Nat → Prop} {cs : List Value} (hl : cs.length = sz) (h1 : ∀ u ∈ cs, u.oneCell' = true) : (Kd.raw sz).M W b ok cs cs := ⟨rfl, hl, h1⟩
end
end Go.Proofs.Ytmbockhcmhghlaa.Pr
end
section
namespace Go.Proofs.Ytmbockhcmhghlaa.Pr
open Go.RowKit Go.Proofs.YtmbockhcmhghlaaW.PrintWords Go.Proofs.YtmbockhcmhghlaaW.PrintLast Go.Proofs.YtmbockhcmhghlaaW.PrintMore
set_option linter.unusedVariables false
set_option linter.unusedSimpArgs false
theorem uni_kids (n : S25) (hv : tvalid n = true) (h0 : n.f0 = 2) (h1 : n.f1 = 7) : ∀ x ∈ n.f4, x.f3.length % 8 = 0 := fun x hx => by
  have hw := valid_words n hv
  have ht := tvalid_eq n
  rw [hv, h0, h1] at ht
  simp only [beq_self_eq_true, Bool.and_self] at ht
  have ht' := (Bool.and_eq_true _ _ ▸ ht.symm : _ ∧ _).1
  exact (hw.kids x hx).here (((tvalids_all true n.f4).1 ht' x hx).2 rfl)
end Go.Proofs.Ytmbockhcmhghlaa.Pr
end
