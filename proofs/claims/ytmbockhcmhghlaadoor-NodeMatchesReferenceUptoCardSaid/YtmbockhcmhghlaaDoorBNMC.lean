/- A part of the proof of YtmbockhcmhghlaaDoorMatchesCard (the texts that it stands on, gathered; declarations that nothing uses are left out). -/
import Derived.Test.YtmbockhcmhghlaaDoorBNMB
import Derived.Below
import Derived.Deep.Draws
import Derived.Deep.AppendLies
import Derived.Maps.AppendAt
import Derived.OwnWalk
import Derived.Laws.BytesArg
import Derived.Laws.MakeOwn
import Derived.Laws.OwnMore
import Derived.Deep.OwnRows
import Derived.Tactics
import Derived.Lib.ConvBytes
import Derived.Laws.Slices
import Derived.WalkKit
import Derived.KernelRfl
import Derived.RowKit3
import Derived.Deep.LoopGhost
import Derived.Deep.QuietTactic
import Derived.BigQuiet
import Derived.WideLaws
import Derived.Deep.DeepCutAuto
import Derived.Deep.CutBlock
import Derived.Deep.RegionHeld3
import Derived.Laws.Rows
import Derived.Lib.AppendStr
import Derived.ArgAppend
import Derived.Laws.IdiomCopy
import Derived.RowKit
import Derived.OrdersHeld
import Derived.Laws.BitsLemmas
import Derived.Laws.StructEq
import Derived.SizedLaws
import Derived.ChangeSlices
import Derived.Test.YtmbockhcmhghlaaDoorProg
import Derived.Laws.AppendOwn
import Derived.WalkSpells
import Derived.Lib.Hide
import Derived.RangeFuncBox
import Derived.IntWalk
import Derived.OpenShut
import Derived.RangeFuncNested
import Derived.RangeFuncBound
import Derived.RangeFuncCalls
import Derived.RangeFuncLeaves
import Derived.Shelf.Abstract
import Derived.Shelf.RegionOpen
import Derived.OwnWalkIn
import Derived.TacticsInMore
import Derived.LoopNIn
import Derived.LoopIn
section
namespace Go.Proofs.YtmbockhcmhghlaaDoor.Pr
open Go.RowKit Go.Proofs.YtmbockhcmhghlaaDoorW.PrintWords Go.Proofs.YtmbockhcmhghlaaDoorW.PrintLast Go.Proofs.YtmbockhcmhghlaaDoorW.PrintMore
attribute [local go_sem] max2_int min2_int max_two min_two max_three min_three max_four min_four
set_option linter.unusedVariables false
set_option linter.unusedSimpArgs false
set_option maxHeartbeats 8000000 in
set_option maxRecDepth 100000 in
theorem capnpref10_Depth.calls (k : Nat) : ∀ (a0_0 : Int) (a0_1 : Int) (a0_2 : Int) (A0_3 : Option Addr) (c0_3 : Nat) (l0_3 : List Int) (A0_4 : Option Addr) (c0_4 : Nat) (l0_4 : List (S25)) (r : Int) (w : World) (hr0_3 : Kd.C (Kd.int .u8) w A0_3 l0_3.length l0_3) (hc0_3 : l0_3.length ≤ c0_3) (hr0_4 : Kd.C k25 w A0_4 l0_4.length l0_4) (hc0_4 : l0_4.length ≤ c0_4) (h : capnpref10_Depth.f k a0_0 a0_1 a0_2 l0_3 l0_4 = some r),
  Calls Tryd.prog 15 #[.agg #[.int .i64 a0_0, .int .i64 a0_1, .int .i64 a0_2, .slice A0_3 l0_3.length c0_3, .slice A0_4 l0_4.length c0_4]] w fun e w' => e = .returned (.int .i64 r) ∧ Below w.heap.size w w' := by
 induction k using Nat.strongRecOn with
 | _ k ih =>
 intro a0_0 a0_1 a0_2 A0_3 c0_3 l0_3 A0_4 c0_4 l0_4 r w hr0_3 hc0_3 hr0_4 hc0_4 h
 cases k with
 | zero => exact absurd h (by simp [capnpref10_Depth.f])
 | succ k =>
 simp only [capnpref10_Depth.f] at h
 have hu25 := Tryd.underlying25
 have HR0_3 := Aside0.mk hr0_3
 have HC0_3 := Aside0.mk hc0_3
 clear hr0_3 hc0_3
 have HR0_4 := Aside0.mk hr0_4
 have HC0_4 := Aside0.mk hc0_4
 clear hr0_4 hc0_4
 have HB := Aside0.mk (Below.refl w.heap.size w)
 have H : (if a0_0 = 0 then (some 0) else ((capnpref10_Targets.f k a0_0 a0_1 a0_2 l0_3 l0_4).bind fun t145 => (capnpref10_Depth.l0 k t145 0 0))) = some r := h
 clear h
 by_cases c2 : a0_0 = 0
 ·rw [if_pos c2] at H
  have c2b0 : (a0_0 == 0) = true := beq_iff_eq.mpr c2
  have c2b1 : (a0_0 != 0) = false := bne_eq_false_iff_eq.mpr c2
  clear c2
  obtain rfl := Option.some.inj H
  go_enter Tryd.func15, Tryd.ntmps15
  go_wp2_with (first | ((with_reducible refine gate_dst (N := 1) rfl ?_); refine box_event ?hg (N := 1) ?hd (cs := #[.int .i64 a0_0, .int .i64 a0_1, .int .i64 a0_2, .slice A0_3 l0_3.length c0_3, .slice A0_4 l0_4.length c0_4]) (t := 25) ?hr ?_; (case hd => rfl); (case hg => rfl); (case hr => first | (go_simp; done) | (go_simp; rfl)); intro gb144 hg w3 hbox hb; have n0_ := Aside0.mk (below_step (by repeat (first | (with_reducible first | exact HB.out | apply below_alloc | apply pw_below_drewN | apply below_drew1) | exact HB.out)) hb); have n1_ := Aside0.mk (hbox); have n2_ := Aside0.mk ((by rw [hg]; exact (below_size (by repeat (first | (with_reducible first | exact HB.out | apply below_alloc | apply pw_below_drewN | apply below_drew1) | exact HB.out))) : w.heap.size ≤ gb144)); have n3_ := Aside0.mk ((by rw [hg]; exact (below_size (by repeat (first | (with_reducible first | exact HB.out | apply below_alloc | apply pw_below_drewN | apply below_drew1) | exact HB.out))) : w.heap.size ≤ gb144)); clear HB; have HB := n0_; have BK144 := n1_; have GW144 := n2_; have GE144 := n3_; clear n0_ n1_ n2_ n3_; clear hb hbox hg; have hcz4_0 : w3.cell? ⟨gb144, 0, none⟩ = some (.int .i64 a0_0) := (blk_cell BK144.out 0).trans rfl; have hcz4_1 : w3.cell? ⟨gb144, 1, none⟩ = some (.int .i64 a0_1) := (blk_cell BK144.out 1).trans rfl; have hcz4_2 : w3.cell? ⟨gb144, 2, none⟩ = some (.int .i64 a0_2) := (blk_cell BK144.out 2).trans rfl; have hcz4_3 : w3.cell? ⟨gb144, 3, none⟩ = some (.slice A0_3 l0_3.length c0_3) := (blk_cell BK144.out 3).trans rfl; have hcz4_4 : w3.cell? ⟨gb144, 4, none⟩ = some (.slice A0_4 l0_4.length c0_4) := (blk_cell BK144.out 4).trans rfl; have hfz4_0 := blk_frozen BK144.out 0; have hfz4_1 := blk_frozen BK144.out 1; have hfz4_2 := blk_frozen BK144.out 2; have hfz4_3 := blk_frozen BK144.out 3; have hfz4_4 := blk_frozen BK144.out 4))
  go_ret
  exact ⟨by first | rfl | (simp [errW_none, errW_some] <;> rfl) | (simp [*, errW_none, errW_some] <;> rfl), by repeat (first | (with_reducible first | exact HB.out | apply below_alloc | apply pw_below_drewN | apply below_drew1 | refine below_set ?_ GE144.out) | exact HB.out)⟩
 ·rw [if_neg c2] at H
  have c2b0 : (a0_0 == 0) = false := beq_eq_false_iff_ne.mpr c2
  have c2b1 : (a0_0 != 0) = true := bne_iff_ne.mpr c2
  replace H := Option.bind_eq_some_iff.mp H
  obtain ⟨t145, A50, H⟩ := H
  replace H : (capnpref10_Depth.l0 k t145 0 0) = some r := H
  have A5 := Aside0.mk A50
  clear A50
  have H' := Aside0.mk H
  clear H
  go_enter Tryd.func15, Tryd.ntmps15
  go_wp2_with (first | ((with_reducible refine gate_dst (N := 1) rfl ?_); refine box_event ?hg (N := 1) ?hd (cs := #[.int .i64 a0_0, .int .i64 a0_1, .int .i64 a0_2, .slice A0_3 l0_3.length c0_3, .slice A0_4 l0_4.length c0_4]) (t := 25) ?hr ?_; (case hd => rfl); (case hg => rfl); (case hr => first | (go_simp; done) | (go_simp; rfl)); intro gb144 hg w6 hbox hb; have n0_ := Aside0.mk (below_step (by repeat (first | (with_reducible first | exact HB.out | apply below_alloc | apply pw_below_drewN | apply below_drew1) | exact HB.out)) hb); have n1_ := Aside0.mk (hbox); have n2_ := Aside0.mk ((by rw [hg]; exact (below_size (by repeat (first | (with_reducible first | exact HB.out | apply below_alloc | apply pw_below_drewN | apply below_drew1) | exact HB.out))) : w.heap.size ≤ gb144)); have n3_ := Aside0.mk ((by rw [hg]; exact (below_size (by repeat (first | (with_reducible first | exact HB.out | apply below_alloc | apply pw_below_drewN | apply below_drew1) | exact HB.out))) : w.heap.size ≤ gb144)); clear HB; have HB := n0_; have BK144 := n1_; have GW144 := n2_; have GE144 := n3_; clear n0_ n1_ n2_ n3_; clear hb hbox hg; have hcz7_0 : w6.cell? ⟨gb144, 0, none⟩ = some (.int .i64 a0_0) := (blk_cell BK144.out 0).trans rfl; have hcz7_1 : w6.cell? ⟨gb144, 1, none⟩ = some (.int .i64 a0_1) := (blk_cell BK144.out 1).trans rfl; have hcz7_2 : w6.cell? ⟨gb144, 2, none⟩ = some (.int .i64 a0_2) := (blk_cell BK144.out 2).trans rfl; have hcz7_3 : w6.cell? ⟨gb144, 3, none⟩ = some (.slice A0_3 l0_3.length c0_3) := (blk_cell BK144.out 3).trans rfl; have hcz7_4 : w6.cell? ⟨gb144, 4, none⟩ = some (.slice A0_4 l0_4.length c0_4) := (blk_cell BK144.out 4).trans rfl; have hfz7_0 := blk_frozen BK144.out 0; have hfz7_1 := blk_frozen BK144.out 1; have hfz7_2 := blk_frozen BK144.out 2; have hfz7_3 := blk_frozen BK144.out 3; have hfz7_4 := blk_frozen BK144.out 4) | ((with_reducible refine gate_callee (f := 29) rfl ?_); refine goesL_ (some 11) rfl rfl Tryd.func29 (by kernel_rfl) rfl #[.agg #[.int .i64 a0_0, .int .i64 a0_1, .int .i64 a0_2, .slice A0_3 l0_3.length c0_3, .slice A0_4 l0_4.length c0_4]] rfl (by (try simp only [List.map_toArray, List.map_cons, List.map_nil]); first | done | rfl | (simp only [List.length_drop, List.length_take]; rfl)) ?_; (with_reducible refine (capnpref10_Targets.calls k a0_0 a0_1 a0_2 _ _ l0_3 (fun k_ => k_ < w.heap.size) _ _ l0_4 t145 _ ?side1 ?side2 ?side3 A5.out).mono ?_); (case side1 => repeat (first | exact (Kd.C_below HR0_3.out HB.out) | (with_reducible refine Kd.C_alloc ?_ _) | (with_reducible refine Kd.C_drewN ?_ _) | (with_reducible refine Kd.C_drew ?_))); (case side2 => exact HC0_3.out); (case side3 => exact Kd.V_mk HC0_4.out (Kd.F_below (Kd.C_F k25_heap HR0_4.out) (by repeat (first | (with_reducible first | exact HB.out | apply below_alloc | apply pw_below_drewN | apply below_drew1 | refine below_set ?_ GE144.out) | exact HB.out)))); rintro e w8 ⟨v146, rfl, ho0, hb⟩; refine ⟨_, rfl, ?_⟩; have n0_ := Aside0.mk (Kd.V_lower (Kd.V_mono (ok' := fun k_ => k_ ≠ gb144) ho0 (fun k_ hk_ => Or.elim hk_ (fun hs_ => fun e_ => Nat.not_le.2 hs_ (by rw [e_]; exact GW144.out)) (fun hn_ => (Kd.freshB (g := gb144) (o := .cells #[.int .i64 a0_0, .int .i64 a0_1, .int .i64 a0_2, .slice A0_3 l0_3.length c0_3, .slice A0_4 l0_4.length c0_4] 25 (0, 0)) (by (with_reducible repeat (first | refine blk_drewN ?_ _ | refine blk_drew ?_ | refine blk_alloc ?_ _)); exact BK144.out) k_ hn_)))) (below_size (by repeat (first | (with_reducible first | exact HB.out | apply below_alloc | apply pw_below_drewN | apply below_drew1 | refine below_set ?_ GE144.out) | exact HB.out)))); have n1_ := Aside0.mk (blk_below (g := gb144) (o := .cells #[.int .i64 a0_0, .int .i64 a0_1, .int .i64 a0_2, .slice A0_3 l0_3.length c0_3, .slice A0_4 l0_4.length c0_4] 25 (0, 0)) (by (with_reducible repeat (first | refine blk_drewN ?_ _ | refine blk_drew ?_ | refine blk_alloc ?_ _)); exact BK144.out) hb); have n2_ := Aside0.mk (below_step (by repeat (first | (with_reducible first | exact HB.out | apply below_alloc | apply pw_below_drewN | apply below_drew1 | refine below_set ?_ GE144.out) | exact HB.out)) hb); clear BK144; clear HB; have HO147 := n0_; have BK144 := n1_; have HB := n2_; clear n0_ n1_ n2_; (try clear hb); (try clear hb2); (try clear hk); (try clear hi); (try clear ho0)))
  go_loopg [4, 5] k (fun kq v4 v5 w' => ∃ (x4_1 : Int) (x5_1 : Int), v4 = .int .i64 x4_1 ∧ v5 = .int .i64 x5_1 ∧ Aside0 (capnpref10_Depth.l0 kq t145 x4_1 x5_1 = some r) ∧ Aside0 (kq ≤ k) ∧ Aside0 (Kd.V k25 25 w' w.heap.size (fun k_ => k_ ≠ gb144) v146 t145) ∧ Aside0 (w'.heap[gb144]? = some (.cells #[.int .i64 a0_0, .int .i64 a0_1, .int .i64 a0_2, (.slice A0_3 l0_3.length c0_3), (.slice A0_4 l0_4.length c0_4)] 25 (0, 0))) ∧ Aside0 (Below w.heap.size w w'))
  case atStart => exact ⟨(0), (0), (by first | rfl | (simp; done) | (simp [*]; done)), (by first | rfl | (simp; done) | (simp [*]; done)), H', ⟨Nat.le_refl _⟩, ⟨by (with_reducible repeat (first | apply Kd.V_alloc | apply Kd.V_drewN | apply Kd.V_drew)); exact HO147.out⟩, ⟨by (with_reducible repeat (first | refine blk_drewN ?_ _ | refine blk_drew ?_ | refine blk_alloc ?_ _)); exact BK144.out⟩, ⟨by repeat (first | (with_reducible first | exact HB.out | apply below_alloc | apply pw_below_drewN | apply below_drew1 | refine below_set ?_ GE144.out) | exact HB.out)⟩⟩
  case round =>
   clear H'
   try clear c1
   try clear c2
   try clear c2b0
   try clear c2b1
   try clear p2
   try clear hcz4_0
   try clear hcz4_1
   try clear hcz4_2
   try clear hcz4_3
   try clear hcz4_4
   try clear hcz7_0
   try clear hcz7_1
   try clear hcz7_2
   try clear hcz7_3
   try clear hcz7_4
   try clear hfz4_0
   try clear hfz4_1
   try clear hfz4_2
   try clear hfz4_3
   try clear hfz4_4
   try clear hfz7_0
   try clear hfz7_1
   try clear hfz7_2
   try clear hfz7_3
   try clear hfz7_4
   try clear BK144
   obtain ⟨x4_1, x5_1, rfl, rfl, HA, HK1, HO_3, BK144, HB⟩ := hrel
   cases gk with
   | zero => exact absurd HA.out (by simp [capnpref10_Depth.l0])
   | succ k1 =>
    have H := HA.out
    clear HA
    simp only [capnpref10_Depth.l0] at H
    by_cases c9 : x5_1 < (t145.length : Int)
    ·rw [if_pos c9] at H
     have c9b0 : decide (x5_1 < (t145.length : Int)) = true := decide_eq_true c9
     clear c9
     by_cases c10 : 0 ≤ x5_1
     ·rw [if_pos c10] at H
      have c10b0 : decide (0 ≤ x5_1) = true := decide_eq_true c10
      clear c10
      replace H := Option.bind_eq_some_iff.mp H
      obtain ⟨t149, A110, H⟩ := H
      replace H : (if t149 > x4_1 then (capnpref10_Depth.l0 k1 t145 t149 (wrap64 (x5_1 + 1))) else (capnpref10_Depth.l0 k1 t145 x4_1 (wrap64 (x5_1 + 1)))) = some r := H
      have A11 := Aside0.mk A110
      clear A110
      by_cases c12 : t149 > x4_1
      ·rw [if_pos c12] at H
       have c12b0 : decide (x4_1 < t149) = true := decide_eq_true c12
       clear c12
       have H' := Aside0.mk H
       clear H
       obtain ⟨Ao13, co13, eo13⟩ := Kd.V_slice HO_3.out
       subst eo13
       have p148 : 0 ≤ (x5_1 : Int) := of_decide_eq_true (by first | (with_reducible assumption) | assumption)
       have q148 : x5_1 < (t145.length : Int) := of_decide_eq_true (by first | (with_reducible assumption) | assumption)
       obtain ⟨ad148, A148_3, c148_3, A148_4, c148_4, e148, hx148_0, hx148_1, hx148_2, hx148_3, hx148_4, hl148_3, hi148_3, hl148_4, hi148_4⟩ := at_T25 (Kd.V_reads' HO_3.out).2.2 x5_1 p148 q148
       cases e148
       obtain ⟨ce148, hce148, hMe148, hcc148⟩ := Kd.V_get HO_3.out z25 x5_1 p148 (by first | exact q148 | exact of_decide_eq_true (by first | (with_reducible assumption) | assumption) | (have e_ := (Kd.V_reads' HO_3.out).1; omega))
       obtain ⟨ua148_3, uc148_3, ua148_4, uc148_4, rfl, ul148_3, ge148_3, ul148_4, ge148_4⟩ := k25_openF hMe148
       have hv148_3 := hcc148 3 _ rfl
       rw [add_field _ _ 3 (by omega)] at hv148_3
       replace hv148_3 := Option.some.inj (hv148_3.symm.trans hx148_3)
       injection hv148_3 with hva_ hvn_ hvc_
       rw [hva_] at ge148_3
       rw [hvc_] at ul148_3
       have HL148_3 := Aside0.mk (show Kd.V (Kd.int .u8) 5 _ w.heap.size _ _ ((rd_T25 t145 x5_1).f3) from Kd.V_mk ul148_3 ge148_3)
       clear hva_ hvn_ hvc_ ge148_3 ul148_3
       have hv148_4 := hcc148 4 _ rfl
       rw [add_field _ _ 4 (by omega)] at hv148_4
       replace hv148_4 := Option.some.inj (hv148_4.symm.trans hx148_4)
       injection hv148_4 with hva_ hvn_ hvc_
       rw [hva_] at ge148_4
       rw [hvc_] at ul148_4
       have HL148_4 := Aside0.mk (show Kd.V k25 25 _ w.heap.size _ _ ((rd_T25 t145 x5_1).f4) from Kd.V_mk ul148_4 ge148_4)
       clear hva_ hvn_ hvc_ ge148_4 ul148_4
       clear hcc148 hce148
       have HR148_3 := Aside0.mk hi148_3
       have HC148_3 := Aside0.mk hl148_3
       clear hi148_3 hl148_3
       have HR148_4 := Aside0.mk hi148_4
       have HC148_4 := Aside0.mk hl148_4
       clear hi148_4 hl148_4
       replace p148 := eq_true p148
       replace q148 := eq_true q148
       go_wp2_with (first | ((with_reducible refine gate_callee (f := 15) rfl ?_); refine goesL_ (some 22) rfl rfl Tryd.func15 (by kernel_rfl) rfl #[.agg #[.int .i64 ((rd_T25 t145 x5_1).f0), .int .i64 ((rd_T25 t145 x5_1).f1), .int .i64 ((rd_T25 t145 x5_1).f2), .slice A148_3 ((rd_T25 t145 x5_1).f3).length c148_3, .slice A148_4 ((rd_T25 t145 x5_1).f4).length c148_4]] rfl (by (try simp only [List.map_toArray, List.map_cons, List.map_nil]); first | done | rfl | (simp only [List.length_drop, List.length_take]; rfl)) ?_; (with_reducible refine (ih k1 (by have := HK1.out; omega) ((rd_T25 t145 x5_1).f0) ((rd_T25 t145 x5_1).f1) ((rd_T25 t145 x5_1).f2) _ _ ((rd_T25 t145 x5_1).f3) _ _ ((rd_T25 t145 x5_1).f4) t149 _ ?side1 ?side2 ?side3 ?side4 A11.out).mono ?_); (case side1 => repeat (first | exact (by repeat (first | (with_reducible exact HR148_3.out) | (with_reducible refine Kd.C_alloc ?_ _) | (with_reducible refine Kd.C_drewN ?_ _) | (with_reducible refine Kd.C_drew ?_) | exact HR148_3.out)) | (with_reducible refine Kd.C_alloc ?_ _) | (with_reducible refine Kd.C_drewN ?_ _) | (with_reducible refine Kd.C_drew ?_))); (case side2 => exact HC148_3.out); (case side3 => repeat (first | exact (by repeat (first | (with_reducible exact HR148_4.out) | (with_reducible refine Kd.C_alloc ?_ _) | (with_reducible refine Kd.C_drewN ?_ _) | (with_reducible refine Kd.C_drew ?_) | exact HR148_4.out)) | (with_reducible refine Kd.C_alloc ?_ _) | (with_reducible refine Kd.C_drewN ?_ _) | (with_reducible refine Kd.C_drew ?_))); (case side4 => exact HC148_4.out); rintro e w14 ⟨rfl, hb⟩; refine ⟨_, rfl, ?_⟩; have n0_ := Aside0.mk (Kd.V_below (by (with_reducible repeat (first | apply Kd.V_alloc | apply Kd.V_drewN | apply Kd.V_drew)); exact HO_3.out) hb); have n1_ := Aside0.mk (Kd.V_below (by (with_reducible repeat (first | apply Kd.V_alloc | apply Kd.V_drewN | apply Kd.V_drew)); exact HL148_3.out) hb); have n2_ := Aside0.mk (Kd.V_below (by (with_reducible repeat (first | apply Kd.V_alloc | apply Kd.V_drewN | apply Kd.V_drew)); exact HL148_4.out) hb); have n3_ := Aside0.mk (blk_below (g := gb144) (o := .cells #[.int .i64 a0_0, .int .i64 a0_1, .int .i64 a0_2, .slice A0_3 l0_3.length c0_3, .slice A0_4 l0_4.length c0_4] 25 (0, 0)) (by (with_reducible repeat (first | refine blk_drewN ?_ _ | refine blk_drew ?_ | refine blk_alloc ?_ _)); exact BK144.out) hb); have n4_ := Aside0.mk (Kd.C_below (by repeat (first | (with_reducible exact HR148_3.out) | (with_reducible refine Kd.C_alloc ?_ _) | (with_reducible refine Kd.C_drewN ?_ _) | (with_reducible refine Kd.C_drew ?_) | exact HR148_3.out)) hb); have n5_ := Aside0.mk (Kd.C_below (by repeat (first | (with_reducible exact HR148_4.out) | (with_reducible refine Kd.C_alloc ?_ _) | (with_reducible refine Kd.C_drewN ?_ _) | (with_reducible refine Kd.C_drew ?_) | exact HR148_4.out)) hb); have n6_ := Aside0.mk (below_step (by repeat (first | (with_reducible first | exact HB.out | apply below_alloc | apply pw_below_drewN | apply below_drew1 | refine below_set ?_ GE144.out) | exact HB.out)) hb); clear HO_3; clear HL148_3; clear HL148_4; clear BK144; clear HR148_3; clear HR148_4; clear HB; have HO_3 := n0_; have HL148_3 := n1_; have HL148_4 := n2_; have BK144 := n3_; have HR148_3 := n4_; have HR148_4 := n5_; have HB := n6_; clear n0_ n1_ n2_ n3_ n4_ n5_ n6_; (try clear hb); (try clear hb2); (try clear hk); (try clear hi)))
       go_roundg k1
       case measure => have := HK1.out; omega
       case rel => exact ⟨(t149), (wrap64 (x5_1 + 1)), (by first | rfl | (simp; done) | (simp [*]; done)), (by first | rfl | (simp; done) | (simp [*]; done)), H', ⟨by have := HK1.out; omega⟩, ⟨by (with_reducible repeat (first | apply Kd.V_alloc | apply Kd.V_drewN | apply Kd.V_drew)); exact HO_3.out⟩, ⟨by (with_reducible repeat (first | refine blk_drewN ?_ _ | refine blk_drew ?_ | refine blk_alloc ?_ _)); exact BK144.out⟩, ⟨by repeat (first | (with_reducible first | exact HB.out | apply below_alloc | apply pw_below_drewN | apply below_drew1 | refine below_set ?_ GE144.out) | exact HB.out)⟩⟩
      ·rw [if_neg c12] at H
       have c12b0 : decide (x4_1 < t149) = false := decide_eq_false c12
       clear c12
       have H' := Aside0.mk H
       clear H
       obtain ⟨Ao15, co15, eo15⟩ := Kd.V_slice HO_3.out
       subst eo15
       have p148 : 0 ≤ (x5_1 : Int) := of_decide_eq_true (by first | (with_reducible assumption) | assumption)
       have q148 : x5_1 < (t145.length : Int) := of_decide_eq_true (by first | (with_reducible assumption) | assumption)
       obtain ⟨ad148, A148_3, c148_3, A148_4, c148_4, e148, hx148_0, hx148_1, hx148_2, hx148_3, hx148_4, hl148_3, hi148_3, hl148_4, hi148_4⟩ := at_T25 (Kd.V_reads' HO_3.out).2.2 x5_1 p148 q148
       cases e148
       obtain ⟨ce148, hce148, hMe148, hcc148⟩ := Kd.V_get HO_3.out z25 x5_1 p148 (by first | exact q148 | exact of_decide_eq_true (by first | (with_reducible assumption) | assumption) | (have e_ := (Kd.V_reads' HO_3.out).1; omega))
       obtain ⟨ua148_3, uc148_3, ua148_4, uc148_4, rfl, ul148_3, ge148_3, ul148_4, ge148_4⟩ := k25_openF hMe148
       have hv148_3 := hcc148 3 _ rfl
       rw [add_field _ _ 3 (by omega)] at hv148_3
       replace hv148_3 := Option.some.inj (hv148_3.symm.trans hx148_3)
       injection hv148_3 with hva_ hvn_ hvc_
       rw [hva_] at ge148_3
       rw [hvc_] at ul148_3
       have HL148_3 := Aside0.mk (show Kd.V (Kd.int .u8) 5 _ w.heap.size _ _ ((rd_T25 t145 x5_1).f3) from Kd.V_mk ul148_3 ge148_3)
       clear hva_ hvn_ hvc_ ge148_3 ul148_3
       have hv148_4 := hcc148 4 _ rfl
       rw [add_field _ _ 4 (by omega)] at hv148_4
       replace hv148_4 := Option.some.inj (hv148_4.symm.trans hx148_4)
       injection hv148_4 with hva_ hvn_ hvc_
       rw [hva_] at ge148_4
       rw [hvc_] at ul148_4
       have HL148_4 := Aside0.mk (show Kd.V k25 25 _ w.heap.size _ _ ((rd_T25 t145 x5_1).f4) from Kd.V_mk ul148_4 ge148_4)
       clear hva_ hvn_ hvc_ ge148_4 ul148_4
       clear hcc148 hce148
       have HR148_3 := Aside0.mk hi148_3
       have HC148_3 := Aside0.mk hl148_3
       clear hi148_3 hl148_3
       have HR148_4 := Aside0.mk hi148_4
       have HC148_4 := Aside0.mk hl148_4
       clear hi148_4 hl148_4
       replace p148 := eq_true p148
       replace q148 := eq_true q148
       go_wp2_with (first | ((with_reducible refine gate_callee (f := 15) rfl ?_); refine goesL_ (some 22) rfl rfl Tryd.func15 (by kernel_rfl) rfl #[.agg #[.int .i64 ((rd_T25 t145 x5_1).f0), .int .i64 ((rd_T25 t145 x5_1).f1), .int .i64 ((rd_T25 t145 x5_1).f2), .slice A148_3 ((rd_T25 t145 x5_1).f3).length c148_3, .slice A148_4 ((rd_T25 t145 x5_1).f4).length c148_4]] rfl (by (try simp only [List.map_toArray, List.map_cons, List.map_nil]); first | done | rfl | (simp only [List.length_drop, List.length_take]; rfl)) ?_; (with_reducible refine (ih k1 (by have := HK1.out; omega) ((rd_T25 t145 x5_1).f0) ((rd_T25 t145 x5_1).f1) ((rd_T25 t145 x5_1).f2) _ _ ((rd_T25 t145 x5_1).f3) _ _ ((rd_T25 t145 x5_1).f4) t149 _ ?side1 ?side2 ?side3 ?side4 A11.out).mono ?_); (case side1 => repeat (first | exact (by repeat (first | (with_reducible exact HR148_3.out) | (with_reducible refine Kd.C_alloc ?_ _) | (with_reducible refine Kd.C_drewN ?_ _) | (with_reducible refine Kd.C_drew ?_) | exact HR148_3.out)) | (with_reducible refine Kd.C_alloc ?_ _) | (with_reducible refine Kd.C_drewN ?_ _) | (with_reducible refine Kd.C_drew ?_))); (case side2 => exact HC148_3.out); (case side3 => repeat (first | exact (by repeat (first | (with_reducible exact HR148_4.out) | (with_reducible refine Kd.C_alloc ?_ _) | (with_reducible refine Kd.C_drewN ?_ _) | (with_reducible refine Kd.C_drew ?_) | exact HR148_4.out)) | (with_reducible refine Kd.C_alloc ?_ _) | (with_reducible refine Kd.C_drewN ?_ _) | (with_reducible refine Kd.C_drew ?_))); (case side4 => exact HC148_4.out); rintro e w16 ⟨rfl, hb⟩; refine ⟨_, rfl, ?_⟩; have n0_ := Aside0.mk (Kd.V_below (by (with_reducible repeat (first | apply Kd.V_alloc | apply Kd.V_drewN | apply Kd.V_drew)); exact HO_3.out) hb); have n1_ := Aside0.mk (Kd.V_below (by (with_reducible repeat (first | apply Kd.V_alloc | apply Kd.V_drewN | apply Kd.V_drew)); exact HL148_3.out) hb); have n2_ := Aside0.mk (Kd.V_below (by (with_reducible repeat (first | apply Kd.V_alloc | apply Kd.V_drewN | apply Kd.V_drew)); exact HL148_4.out) hb); have n3_ := Aside0.mk (blk_below (g := gb144) (o := .cells #[.int .i64 a0_0, .int .i64 a0_1, .int .i64 a0_2, .slice A0_3 l0_3.length c0_3, .slice A0_4 l0_4.length c0_4] 25 (0, 0)) (by (with_reducible repeat (first | refine blk_drewN ?_ _ | refine blk_drew ?_ | refine blk_alloc ?_ _)); exact BK144.out) hb); have n4_ := Aside0.mk (Kd.C_below (by repeat (first | (with_reducible exact HR148_3.out) | (with_reducible refine Kd.C_alloc ?_ _) | (with_reducible refine Kd.C_drewN ?_ _) | (with_reducible refine Kd.C_drew ?_) | exact HR148_3.out)) hb); have n5_ := Aside0.mk (Kd.C_below (by repeat (first | (with_reducible exact HR148_4.out) | (with_reducible refine Kd.C_alloc ?_ _) | (with_reducible refine Kd.C_drewN ?_ _) | (with_reducible refine Kd.C_drew ?_) | exact HR148_4.out)) hb); have n6_ := Aside0.mk (below_step (by repeat (first | (with_reducible first | exact HB.out | apply below_alloc | apply pw_below_drewN | apply below_drew1 | refine below_set ?_ GE144.out) | exact HB.out)) hb); clear HO_3; clear HL148_3; clear HL148_4; clear BK144; clear HR148_3; clear HR148_4; clear HB; have HO_3 := n0_; have HL148_3 := n1_; have HL148_4 := n2_; have BK144 := n3_; have HR148_3 := n4_; have HR148_4 := n5_; have HB := n6_; clear n0_ n1_ n2_ n3_ n4_ n5_ n6_; (try clear hb); (try clear hb2); (try clear hk); (try clear hi)))
       go_roundg k1
       case measure => have := HK1.out; omega
       case rel => exact ⟨(x4_1), (wrap64 (x5_1 + 1)), (by first | rfl | (simp; done) | (simp [*]; done)), (by first | rfl | (simp; done) | (simp [*]; done)), H', ⟨by have := HK1.out; omega⟩, ⟨by (with_reducible repeat (first | apply Kd.V_alloc | apply Kd.V_drewN | apply Kd.V_drew)); exact HO_3.out⟩, ⟨by (with_reducible repeat (first | refine blk_drewN ?_ _ | refine blk_drew ?_ | refine blk_alloc ?_ _)); exact BK144.out⟩, ⟨by repeat (first | (with_reducible first | exact HB.out | apply below_alloc | apply pw_below_drewN | apply below_drew1 | refine below_set ?_ GE144.out) | exact HB.out)⟩⟩
     ·rw [if_neg c10] at H
      exact absurd H (by simp)
    ·rw [if_neg c9] at H
     have c9b0 : decide (x5_1 < (t145.length : Int)) = false := decide_eq_false c9
     clear c9
     obtain rfl := Option.some.inj H
     obtain ⟨Ao17, co17, eo17⟩ := Kd.V_slice HO_3.out
     subst eo17
     go_wp2
     go_ret
     exact ⟨by first | rfl | (simp [errW_none, errW_some] <;> rfl) | (simp [*, errW_none, errW_some] <;> rfl), by repeat (first | (with_reducible first | exact HB.out | apply below_alloc | apply pw_below_drewN | apply below_drew1 | refine below_set ?_ GE144.out) | exact HB.out)⟩
mutual
def capnpref10_Objects.l0 : Nat → List (S25) → Int → Int → Option (Int)
 | 0, _, _, _ => none
 | k + 1, x3, x4, x5 => if x5 < (x3.length : Int) then (if 0 ≤ x5 then ((capnpref10_Objects.f k ((rd_T25 x3 x5).f0) ((rd_T25 x3 x5).f1) ((rd_T25 x3 x5).f2) ((rd_T25 x3 x5).f3) ((rd_T25 x3 x5).f4)).bind fun t155 => (capnpref10_Objects.l0 k x3 (wrap64 (x4 + t155)) (wrap64 (x5 + 1)))) else (none)) else (some x4)
def capnpref10_Objects.f : Nat → Int → Int → Int → List Int → List (S25) → Option (Int)
 | 0, _, _, _, _, _ => none
 | k + 1, a0_0, a0_1, a0_2, l0_3, l0_4 => if a0_0 = 0 then (some 0) else ((capnpref10_Targets.f k a0_0 a0_1 a0_2 l0_3 l0_4).bind fun t151 => (capnpref10_Objects.l0 k t151 1 0))
end
set_option maxHeartbeats 8000000 in
set_option maxRecDepth 100000 in
theorem capnpref10_Objects.calls (k : Nat) : ∀ (a0_0 : Int) (a0_1 : Int) (a0_2 : Int) (A0_3 : Option Addr) (c0_3 : Nat) (l0_3 : List Int) (A0_4 : Option Addr) (c0_4 : Nat) (l0_4 : List (S25)) (r : Int) (w : World) (hr0_3 : Kd.C (Kd.int .u8) w A0_3 l0_3.length l0_3) (hc0_3 : l0_3.length ≤ c0_3) (hr0_4 : Kd.C k25 w A0_4 l0_4.length l0_4) (hc0_4 : l0_4.length ≤ c0_4) (h : capnpref10_Objects.f k a0_0 a0_1 a0_2 l0_3 l0_4 = some r),
  Calls Tryd.prog 17 #[.agg #[.int .i64 a0_0, .int .i64 a0_1, .int .i64 a0_2, .slice A0_3 l0_3.length c0_3, .slice A0_4 l0_4.length c0_4]] w fun e w' => e = .returned (.int .i64 r) ∧ Below w.heap.size w w' := by
 induction k using Nat.strongRecOn with
 | _ k ih =>
 intro a0_0 a0_1 a0_2 A0_3 c0_3 l0_3 A0_4 c0_4 l0_4 r w hr0_3 hc0_3 hr0_4 hc0_4 h
 cases k with
 | zero => exact absurd h (by simp [capnpref10_Objects.f])
 | succ k =>
 simp only [capnpref10_Objects.f] at h
 have hu25 := Tryd.underlying25
 have HR0_3 := Aside0.mk hr0_3
 have HC0_3 := Aside0.mk hc0_3
 clear hr0_3 hc0_3
 have HR0_4 := Aside0.mk hr0_4
 have HC0_4 := Aside0.mk hc0_4
 clear hr0_4 hc0_4
 have HB := Aside0.mk (Below.refl w.heap.size w)
 have H : (if a0_0 = 0 then (some 0) else ((capnpref10_Targets.f k a0_0 a0_1 a0_2 l0_3 l0_4).bind fun t151 => (capnpref10_Objects.l0 k t151 1 0))) = some r := h
 clear h
 by_cases c2 : a0_0 = 0
 ·rw [if_pos c2] at H
  have c2b0 : (a0_0 == 0) = true := beq_iff_eq.mpr c2
  have c2b1 : (a0_0 != 0) = false := bne_eq_false_iff_eq.mpr c2
  clear c2
  obtain rfl := Option.some.inj H
  go_enter Tryd.func17, Tryd.ntmps17
  go_wp2_with (first | ((with_reducible refine gate_dst (N := 1) rfl ?_); refine box_event ?hg (N := 1) ?hd (cs := #[.int .i64 a0_0, .int .i64 a0_1, .int .i64 a0_2, .slice A0_3 l0_3.length c0_3, .slice A0_4 l0_4.length c0_4]) (t := 25) ?hr ?_; (case hd => rfl); (case hg => rfl); (case hr => first | (go_simp; done) | (go_simp; rfl)); intro gb150 hg w3 hbox hb; have n0_ := Aside0.mk (below_step (by repeat (first | (with_reducible first | exact HB.out | apply below_alloc | apply pw_below_drewN | apply below_drew1) | exact HB.out)) hb); have n1_ := Aside0.mk (hbox); have n2_ := Aside0.mk ((by rw [hg]; exact (below_size (by repeat (first | (with_reducible first | exact HB.out | apply below_alloc | apply pw_below_drewN | apply below_drew1) | exact HB.out))) : w.heap.size ≤ gb150)); have n3_ := Aside0.mk ((by rw [hg]; exact (below_size (by repeat (first | (with_reducible first | exact HB.out | apply below_alloc | apply pw_below_drewN | apply below_drew1) | exact HB.out))) : w.heap.size ≤ gb150)); clear HB; have HB := n0_; have BK150 := n1_; have GW150 := n2_; have GE150 := n3_; clear n0_ n1_ n2_ n3_; clear hb hbox hg; have hcz4_0 : w3.cell? ⟨gb150, 0, none⟩ = some (.int .i64 a0_0) := (blk_cell BK150.out 0).trans rfl; have hcz4_1 : w3.cell? ⟨gb150, 1, none⟩ = some (.int .i64 a0_1) := (blk_cell BK150.out 1).trans rfl; have hcz4_2 : w3.cell? ⟨gb150, 2, none⟩ = some (.int .i64 a0_2) := (blk_cell BK150.out 2).trans rfl; have hcz4_3 : w3.cell? ⟨gb150, 3, none⟩ = some (.slice A0_3 l0_3.length c0_3) := (blk_cell BK150.out 3).trans rfl; have hcz4_4 : w3.cell? ⟨gb150, 4, none⟩ = some (.slice A0_4 l0_4.length c0_4) := (blk_cell BK150.out 4).trans rfl; have hfz4_0 := blk_frozen BK150.out 0; have hfz4_1 := blk_frozen BK150.out 1; have hfz4_2 := blk_frozen BK150.out 2; have hfz4_3 := blk_frozen BK150.out 3; have hfz4_4 := blk_frozen BK150.out 4))
  go_ret
  exact ⟨by first | rfl | (simp [errW_none, errW_some] <;> rfl) | (simp [*, errW_none, errW_some] <;> rfl), by repeat (first | (with_reducible first | exact HB.out | apply below_alloc | apply pw_below_drewN | apply below_drew1 | refine below_set ?_ GE150.out) | exact HB.out)⟩
 ·rw [if_neg c2] at H
  have c2b0 : (a0_0 == 0) = false := beq_eq_false_iff_ne.mpr c2
  have c2b1 : (a0_0 != 0) = true := bne_iff_ne.mpr c2
  replace H := Option.bind_eq_some_iff.mp H
  obtain ⟨t151, A50, H⟩ := H
  replace H : (capnpref10_Objects.l0 k t151 1 0) = some r := H
  have A5 := Aside0.mk A50
  clear A50
  have H' := Aside0.mk H
  clear H
  go_enter Tryd.func17, Tryd.ntmps17
  go_wp2_with (first | ((with_reducible refine gate_dst (N := 1) rfl ?_); refine box_event ?hg (N := 1) ?hd (cs := #[.int .i64 a0_0, .int .i64 a0_1, .int .i64 a0_2, .slice A0_3 l0_3.length c0_3, .slice A0_4 l0_4.length c0_4]) (t := 25) ?hr ?_; (case hd => rfl); (case hg => rfl); (case hr => first | (go_simp; done) | (go_simp; rfl)); intro gb150 hg w6 hbox hb; have n0_ := Aside0.mk (below_step (by repeat (first | (with_reducible first | exact HB.out | apply below_alloc | apply pw_below_drewN | apply below_drew1) | exact HB.out)) hb); have n1_ := Aside0.mk (hbox); have n2_ := Aside0.mk ((by rw [hg]; exact (below_size (by repeat (first | (with_reducible first | exact HB.out | apply below_alloc | apply pw_below_drewN | apply below_drew1) | exact HB.out))) : w.heap.size ≤ gb150)); have n3_ := Aside0.mk ((by rw [hg]; exact (below_size (by repeat (first | (with_reducible first | exact HB.out | apply below_alloc | apply pw_below_drewN | apply below_drew1) | exact HB.out))) : w.heap.size ≤ gb150)); clear HB; have HB := n0_; have BK150 := n1_; have GW150 := n2_; have GE150 := n3_; clear n0_ n1_ n2_ n3_; clear hb hbox hg; have hcz7_0 : w6.cell? ⟨gb150, 0, none⟩ = some (.int .i64 a0_0) := (blk_cell BK150.out 0).trans rfl; have hcz7_1 : w6.cell? ⟨gb150, 1, none⟩ = some (.int .i64 a0_1) := (blk_cell BK150.out 1).trans rfl; have hcz7_2 : w6.cell? ⟨gb150, 2, none⟩ = some (.int .i64 a0_2) := (blk_cell BK150.out 2).trans rfl; have hcz7_3 : w6.cell? ⟨gb150, 3, none⟩ = some (.slice A0_3 l0_3.length c0_3) := (blk_cell BK150.out 3).trans rfl; have hcz7_4 : w6.cell? ⟨gb150, 4, none⟩ = some (.slice A0_4 l0_4.length c0_4) := (blk_cell BK150.out 4).trans rfl; have hfz7_0 := blk_frozen BK150.out 0; have hfz7_1 := blk_frozen BK150.out 1; have hfz7_2 := blk_frozen BK150.out 2; have hfz7_3 := blk_frozen BK150.out 3; have hfz7_4 := blk_frozen BK150.out 4) | ((with_reducible refine gate_callee (f := 29) rfl ?_); refine goesL_ (some 10) rfl rfl Tryd.func29 (by kernel_rfl) rfl #[.agg #[.int .i64 a0_0, .int .i64 a0_1, .int .i64 a0_2, .slice A0_3 l0_3.length c0_3, .slice A0_4 l0_4.length c0_4]] rfl (by (try simp only [List.map_toArray, List.map_cons, List.map_nil]); first | done | rfl | (simp only [List.length_drop, List.length_take]; rfl)) ?_; (with_reducible refine (capnpref10_Targets.calls k a0_0 a0_1 a0_2 _ _ l0_3 (fun k_ => k_ < w.heap.size) _ _ l0_4 t151 _ ?side1 ?side2 ?side3 A5.out).mono ?_); (case side1 => repeat (first | exact (Kd.C_below HR0_3.out HB.out) | (with_reducible refine Kd.C_alloc ?_ _) | (with_reducible refine Kd.C_drewN ?_ _) | (with_reducible refine Kd.C_drew ?_))); (case side2 => exact HC0_3.out); (case side3 => exact Kd.V_mk HC0_4.out (Kd.F_below (Kd.C_F k25_heap HR0_4.out) (by repeat (first | (with_reducible first | exact HB.out | apply below_alloc | apply pw_below_drewN | apply below_drew1 | refine below_set ?_ GE150.out) | exact HB.out)))); rintro e w8 ⟨v152, rfl, ho0, hb⟩; refine ⟨_, rfl, ?_⟩; have n0_ := Aside0.mk (Kd.V_lower (Kd.V_mono (ok' := fun k_ => k_ ≠ gb150) ho0 (fun k_ hk_ => Or.elim hk_ (fun hs_ => fun e_ => Nat.not_le.2 hs_ (by rw [e_]; exact GW150.out)) (fun hn_ => (Kd.freshB (g := gb150) (o := .cells #[.int .i64 a0_0, .int .i64 a0_1, .int .i64 a0_2, .slice A0_3 l0_3.length c0_3, .slice A0_4 l0_4.length c0_4] 25 (0, 0)) (by (with_reducible repeat (first | refine blk_drewN ?_ _ | refine blk_drew ?_ | refine blk_alloc ?_ _)); exact BK150.out) k_ hn_)))) (below_size (by repeat (first | (with_reducible first | exact HB.out | apply below_alloc | apply pw_below_drewN | apply below_drew1 | refine below_set ?_ GE150.out) | exact HB.out)))); have n1_ := Aside0.mk (blk_below (g := gb150) (o := .cells #[.int .i64 a0_0, .int .i64 a0_1, .int .i64 a0_2, .slice A0_3 l0_3.length c0_3, .slice A0_4 l0_4.length c0_4] 25 (0, 0)) (by (with_reducible repeat (first | refine blk_drewN ?_ _ | refine blk_drew ?_ | refine blk_alloc ?_ _)); exact BK150.out) hb); have n2_ := Aside0.mk (below_step (by repeat (first | (with_reducible first | exact HB.out | apply below_alloc | apply pw_below_drewN | apply below_drew1 | refine below_set ?_ GE150.out) | exact HB.out)) hb); clear BK150; clear HB; have HO153 := n0_; have BK150 := n1_; have HB := n2_; clear n0_ n1_ n2_; (try clear hb); (try clear hb2); (try clear hk); (try clear hi); (try clear ho0)))
  go_loopg [4, 5] k (fun kq v4 v5 w' => ∃ (x4_1 : Int) (x5_1 : Int), v4 = .int .i64 x4_1 ∧ v5 = .int .i64 x5_1 ∧ Aside0 (capnpref10_Objects.l0 kq t151 x4_1 x5_1 = some r) ∧ Aside0 (kq ≤ k) ∧ Aside0 (Kd.V k25 25 w' w.heap.size (fun k_ => k_ ≠ gb150) v152 t151) ∧ Aside0 (w'.heap[gb150]? = some (.cells #[.int .i64 a0_0, .int .i64 a0_1, .int .i64 a0_2, (.slice A0_3 l0_3.length c0_3), (.slice A0_4 l0_4.length c0_4)] 25 (0, 0))) ∧ Aside0 (Below w.heap.size w w'))
  case atStart => exact ⟨(1), (0), (by first | rfl | (simp; done) | (simp [*]; done)), (by first | rfl | (simp; done) | (simp [*]; done)), H', ⟨Nat.le_refl _⟩, ⟨by (with_reducible repeat (first | apply Kd.V_alloc | apply Kd.V_drewN | apply Kd.V_drew)); exact HO153.out⟩, ⟨by (with_reducible repeat (first | refine blk_drewN ?_ _ | refine blk_drew ?_ | refine blk_alloc ?_ _)); exact BK150.out⟩, ⟨by repeat (first | (with_reducible first | exact HB.out | apply below_alloc | apply pw_below_drewN | apply below_drew1 | refine below_set ?_ GE150.out) | exact HB.out)⟩⟩
  case round =>
   clear H'
   try clear c1
   try clear c2
   try clear c2b0
   try clear c2b1
   try clear p2
   try clear hcz4_0
   try clear hcz4_1
   try clear hcz4_2
   try clear hcz4_3
   try clear hcz4_4
   try clear hcz7_0
   try clear hcz7_1
   try clear hcz7_2
   try clear hcz7_3
   try clear hcz7_4
   try clear hfz4_0
   try clear hfz4_1
   try clear hfz4_2
   try clear hfz4_3
   try clear hfz4_4
   try clear hfz7_0
   try clear hfz7_1
   try clear hfz7_2
   try clear hfz7_3
   try clear hfz7_4
   try clear BK150
   obtain ⟨x4_1, x5_1, rfl, rfl, HA, HK1, HO_3, BK150, HB⟩ := hrel
   cases gk with
   | zero => exact absurd HA.out (by simp [capnpref10_Objects.l0])
   | succ k1 =>
    have H := HA.out
    clear HA
    simp only [capnpref10_Objects.l0] at H
    by_cases c9 : x5_1 < (t151.length : Int)
    ·rw [if_pos c9] at H
     have c9b0 : decide (x5_1 < (t151.length : Int)) = true := decide_eq_true c9
     clear c9
     by_cases c10 : 0 ≤ x5_1
     ·rw [if_pos c10] at H
      have c10b0 : decide (0 ≤ x5_1) = true := decide_eq_true c10
      clear c10
      replace H := Option.bind_eq_some_iff.mp H
      obtain ⟨t155, A110, H⟩ := H
      replace H : (capnpref10_Objects.l0 k1 t151 (wrap64 (x4_1 + t155)) (wrap64 (x5_1 + 1))) = some r := H
      have A11 := Aside0.mk A110
      clear A110
      have H' := Aside0.mk H
      clear H
      obtain ⟨Ao12, co12, eo12⟩ := Kd.V_slice HO_3.out
      subst eo12
      have p154 : 0 ≤ (x5_1 : Int) := of_decide_eq_true (by first | (with_reducible assumption) | assumption)
      have q154 : x5_1 < (t151.length : Int) := of_decide_eq_true (by first | (with_reducible assumption) | assumption)
      obtain ⟨ad154, A154_3, c154_3, A154_4, c154_4, e154, hx154_0, hx154_1, hx154_2, hx154_3, hx154_4, hl154_3, hi154_3, hl154_4, hi154_4⟩ := at_T25 (Kd.V_reads' HO_3.out).2.2 x5_1 p154 q154
      cases e154
      obtain ⟨ce154, hce154, hMe154, hcc154⟩ := Kd.V_get HO_3.out z25 x5_1 p154 (by first | exact q154 | exact of_decide_eq_true (by first | (with_reducible assumption) | assumption) | (have e_ := (Kd.V_reads' HO_3.out).1; omega))
      obtain ⟨ua154_3, uc154_3, ua154_4, uc154_4, rfl, ul154_3, ge154_3, ul154_4, ge154_4⟩ := k25_openF hMe154
      have hv154_3 := hcc154 3 _ rfl
      rw [add_field _ _ 3 (by omega)] at hv154_3
      replace hv154_3 := Option.some.inj (hv154_3.symm.trans hx154_3)
      injection hv154_3 with hva_ hvn_ hvc_
      rw [hva_] at ge154_3
      rw [hvc_] at ul154_3
      have HL154_3 := Aside0.mk (show Kd.V (Kd.int .u8) 5 _ w.heap.size _ _ ((rd_T25 t151 x5_1).f3) from Kd.V_mk ul154_3 ge154_3)
      clear hva_ hvn_ hvc_ ge154_3 ul154_3
      have hv154_4 := hcc154 4 _ rfl
      rw [add_field _ _ 4 (by omega)] at hv154_4
      replace hv154_4 := Option.some.inj (hv154_4.symm.trans hx154_4)
      injection hv154_4 with hva_ hvn_ hvc_
      rw [hva_] at ge154_4
      rw [hvc_] at ul154_4
      have HL154_4 := Aside0.mk (show Kd.V k25 25 _ w.heap.size _ _ ((rd_T25 t151 x5_1).f4) from Kd.V_mk ul154_4 ge154_4)
      clear hva_ hvn_ hvc_ ge154_4 ul154_4
      clear hcc154 hce154
      have HR154_3 := Aside0.mk hi154_3
      have HC154_3 := Aside0.mk hl154_3
      clear hi154_3 hl154_3
      have HR154_4 := Aside0.mk hi154_4
      have HC154_4 := Aside0.mk hl154_4
      clear hi154_4 hl154_4
      replace p154 := eq_true p154
      replace q154 := eq_true q154
      go_wp2_with (first | ((with_reducible refine gate_callee (f := 17) rfl ?_); refine goesL_ (some 22) rfl rfl Tryd.func17 (by kernel_rfl) rfl #[.agg #[.int .i64 ((rd_T25 t151 x5_1).f0), .int .i64 ((rd_T25 t151 x5_1).f1), .int .i64 ((rd_T25 t151 x5_1).f2), .slice A154_3 ((rd_T25 t151 x5_1).f3).length c154_3, .slice A154_4 ((rd_T25 t151 x5_1).f4).length c154_4]] rfl (by (try simp only [List.map_toArray, List.map_cons, List.map_nil]); first | done | rfl | (simp only [List.length_drop, List.length_take]; rfl)) ?_; (with_reducible refine (ih k1 (by have := HK1.out; omega) ((rd_T25 t151 x5_1).f0) ((rd_T25 t151 x5_1).f1) ((rd_T25 t151 x5_1).f2) _ _ ((rd_T25 t151 x5_1).f3) _ _ ((rd_T25 t151 x5_1).f4) t155 _ ?side1 ?side2 ?side3 ?side4 A11.out).mono ?_); (case side1 => repeat (first | exact (by repeat (first | (with_reducible exact HR154_3.out) | (with_reducible refine Kd.C_alloc ?_ _) | (with_reducible refine Kd.C_drewN ?_ _) | (with_reducible refine Kd.C_drew ?_) | exact HR154_3.out)) | (with_reducible refine Kd.C_alloc ?_ _) | (with_reducible refine Kd.C_drewN ?_ _) | (with_reducible refine Kd.C_drew ?_))); (case side2 => exact HC154_3.out); (case side3 => repeat (first | exact (by repeat (first | (with_reducible exact HR154_4.out) | (with_reducible refine Kd.C_alloc ?_ _) | (with_reducible refine Kd.C_drewN ?_ _) | (with_reducible refine Kd.C_drew ?_) | exact HR154_4.out)) | (with_reducible refine Kd.C_alloc ?_ _) | (with_reducible refine Kd.C_drewN ?_ _) | (with_reducible refine Kd.C_drew ?_))); (case side4 => exact HC154_4.out); rintro e w13 ⟨rfl, hb⟩; refine ⟨_, rfl, ?_⟩; have n0_ := Aside0.mk (Kd.V_below (by (with_reducible repeat (first | apply Kd.V_alloc | apply Kd.V_drewN | apply Kd.V_drew)); exact HO_3.out) hb); have n1_ := Aside0.mk (Kd.V_below (by (with_reducible repeat (first | apply Kd.V_alloc | apply Kd.V_drewN | apply Kd.V_drew)); exact HL154_3.out) hb); have n2_ := Aside0.mk (Kd.V_below (by (with_reducible repeat (first | apply Kd.V_alloc | apply Kd.V_drewN | apply Kd.V_drew)); exact HL154_4.out) hb); have n3_ := Aside0.mk (blk_below (g := gb150) (o := .cells #[.int .i64 a0_0, .int .i64 a0_1, .int .i64 a0_2, .slice A0_3 l0_3.length c0_3, .slice A0_4 l0_4.length c0_4] 25 (0, 0)) (by (with_reducible repeat (first | refine blk_drewN ?_ _ | refine blk_drew ?_ | refine blk_alloc ?_ _)); exact BK150.out) hb); have n4_ := Aside0.mk (Kd.C_below (by repeat (first | (with_reducible exact HR154_3.out) | (with_reducible refine Kd.C_alloc ?_ _) | (with_reducible refine Kd.C_drewN ?_ _) | (with_reducible refine Kd.C_drew ?_) | exact HR154_3.out)) hb); have n5_ := Aside0.mk (Kd.C_below (by repeat (first | (with_reducible exact HR154_4.out) | (with_reducible refine Kd.C_alloc ?_ _) | (with_reducible refine Kd.C_drewN ?_ _) | (with_reducible refine Kd.C_drew ?_) | exact HR154_4.out)) hb); have n6_ := Aside0.mk (below_step (by repeat (first | (with_reducible first | exact HB.out | apply below_alloc | apply pw_below_drewN | apply below_drew1 | refine below_set ?_ GE150.out) | exact HB.out)) hb); clear HO_3; clear HL154_3; clear HL154_4; clear BK150; clear HR154_3; clear HR154_4; clear HB; have HO_3 := n0_; have HL154_3 := n1_; have HL154_4 := n2_; have BK150 := n3_; have HR154_3 := n4_; have HR154_4 := n5_; have HB := n6_; clear n0_ n1_ n2_ n3_ n4_ n5_ n6_; (try clear hb); (try clear hb2); (try clear hk); (try clear hi)))
      go_roundg k1
      case measure => have := HK1.out; omega
      case rel => exact ⟨(wrap64 (x4_1 + t155)), (wrap64 (x5_1 + 1)), (by first | rfl | (simp; done) | (simp [*]; done)), (by first | rfl | (simp; done) | (simp [*]; done)), H', ⟨by have := HK1.out; omega⟩, ⟨by (with_reducible repeat (first | apply Kd.V_alloc | apply Kd.V_drewN | apply Kd.V_drew)); exact HO_3.out⟩, ⟨by (with_reducible repeat (first | refine blk_drewN ?_ _ | refine blk_drew ?_ | refine blk_alloc ?_ _)); exact BK150.out⟩, ⟨by repeat (first | (with_reducible first | exact HB.out | apply below_alloc | apply pw_below_drewN | apply below_drew1 | refine below_set ?_ GE150.out) | exact HB.out)⟩⟩
     ·rw [if_neg c10] at H
      exact absurd H (by simp)
    ·rw [if_neg c9] at H
     have c9b0 : decide (x5_1 < (t151.length : Int)) = false := decide_eq_false c9
     clear c9
     obtain rfl := Option.some.inj H
     obtain ⟨Ao14, co14, eo14⟩ := Kd.V_slice HO_3.out
     subst eo14
     go_wp2
     go_ret
     exact ⟨by first | rfl | (simp [errW_none, errW_some] <;> rfl) | (simp [*, errW_none, errW_some] <;> rfl), by repeat (first | (with_reducible first | exact HB.out | apply below_alloc | apply pw_below_drewN | apply below_drew1 | refine below_set ?_ GE150.out) | exact HB.out)⟩
end Go.Proofs.YtmbockhcmhghlaaDoor.Pr
end
section
namespace Go.Proofs.YtmbockhcmhghlaaDoor.Pr
open Go.RowKit Go.Proofs.YtmbockhcmhghlaaDoorW.PrintWords Go.Proofs.YtmbockhcmhghlaaDoorW.PrintLast Go.Proofs.YtmbockhcmhghlaaDoorW.PrintMore
attribute [local go_sem] max2_int min2_int max_two min_two max_three min_three max_four min_four
set_option linter.unusedVariables false
set_option linter.unusedSimpArgs false
mutual
def capnpref10_Copy.l0 : Nat → Int → Int → Int → Int → List Int → List (S25) → Int → Int → Int → List Int → List (S25) → Option (Int × Int × Int × List Int × (List (S25)))
 | 0, _, _, _, _, _, _, _, _, _, _, _ => none
 | k + 1, x4, x253000, x253001, x253002, x253003, x253004, x255000, x255001, x255002, x255003, x255004 => if x4 < (x253004.length : Int) then (if 0 ≤ x4 then ((capnpref10_Copy.f k ((rd_T25 x253004 x4).f0) ((rd_T25 x253004 x4).f1) ((rd_T25 x253004 x4).f2) ((rd_T25 x253004 x4).f3) ((rd_T25 x253004 x4).f4)).bind fun bt262 => (if x255004.length < 1954687338268 then (capnpref10_Copy.l0 k (wrap64 (x4 + 1)) x253000 x253001 x253002 x253003 x253004 x255000 x255001 x255002 x255003 (x255004 ++ [(⟨bt262.1, bt262.2.1, bt262.2.2.1, bt262.2.2.2.1, bt262.2.2.2.2⟩ : S25)])) else (none))) else (none)) else (some (x255000, x255001, x255002, x255003, x255004))
def capnpref10_Copy.f : Nat → Int → Int → Int → List Int → List (S25) → Option (Int × Int × Int × List Int × (List (S25)))
 | 0, _, _, _, _, _ => none
 | k + 1, a0_0, a0_1, a0_2, l0_3, l0_4 => (some (([] : List Int) : List Int)).bind fun y255 => (if y255.length + l0_3.length < 140737488355328 then (capnpref10_Copy.l0 k 0 a0_0 a0_1 a0_2 l0_3 l0_4 a0_0 a0_1 a0_2 (y255 ++ l0_3) ([] : List (S25))) else (none))
end
end Go.Proofs.YtmbockhcmhghlaaDoor.Pr
end
section
namespace Go.Proofs.YtmbockhcmhghlaaDoor.Pr
open Go.RowKit Go.Proofs.YtmbockhcmhghlaaDoorW.PrintWords Go.Proofs.YtmbockhcmhghlaaDoorW.PrintLast Go.Proofs.YtmbockhcmhghlaaDoorW.PrintMore
set_option linter.unusedVariables false
set_option linter.unusedSimpArgs false
def tkids : List S25 → List S25
  | [] => []
  | x :: l => x.f4 ++ tkids l
def ttargets (a : S25) : List S25 := if a.f0 = 2 ∧ a.f1 = 7 then tkids a.f4 else a.f4
theorem tkids_append : ∀ l m : List S25, tkids (l ++ m) = tkids l ++ tkids m
  | [], m => rfl
  | x :: l, m => by simp [tkids, tkids_append l m]
theorem tkids_take (l : List S25) (j : Nat) (h : j < l.length) : tkids (l.take (j + 1)) = tkids (l.take j) ++ l[j].f4 := by
  rw [take_one l j h, tkids_append]; simp [tkids]
theorem tkids_sizes : ∀ l : List S25, tsizes (tkids l) ≤ tsizes l
  | [] => by simp [tkids]
  | x :: l => by
    have := tkids_sizes l
    have := tsize_eq x
    simp only [tkids, tsizes, tsizes_append]; omega
theorem tkids_le (l : List S25) (j : Nat) : (tkids (l.take j)).length ≤ tsizes l :=
  Nat.le_trans (length_tsizes _) (Nat.le_trans (tkids_sizes _) (tsizes_le l j))
theorem ttargets_sizes (a : S25) : tsizes (ttargets a) ≤ tsizes a.f4 := by
  unfold ttargets
  split
  · exact tkids_sizes _
  · exact Nat.le_refl _
theorem ttargets_size {a x : S25} (h : x ∈ ttargets a) : tsize x < tsize a := by
  have h1 := tsize_mem h
  have h2 := ttargets_sizes a
  have h3 := tsize_eq a
  omega
theorem mem_tkids {l : List S25} {x : S25} : x ∈ tkids l ↔ ∃ y ∈ l, x ∈ y.f4 := by
  induction l with
  | nil => simp [tkids]
  | cons y l ih => simp [tkids, ih]
theorem targets_ev (a : S25) (hs : tsize a ≤ 1000000000000) : Ev (fun k => capnpref10_Targets.f k a.f0 a.f1 a.f2 a.f3 a.f4) (ttargets a) := by
  have he := tsize_eq a
  have hl := length_tsizes a.f4
  unfold capnpref10_Targets.f
  have plain : ¬ (a.f0 = 2 ∧ a.f1 = 7) → Ev (fun k => capnpref10_Targets.j0 k true a.f0 a.f1 a.f2 a.f3 a.f4) (ttargets a) := fun h => by
    unfold ttargets
    rw [if_neg h]
    refine Ev.step (f := fun _ => some a.f4) (fun k => ?_) (Ev.now _)
    simp only [capnpref10_Targets.j0]
    rw [if_pos trivial]
  by_cases h0 : a.f0 = 2
  · refine Ev.congr (f := fun k => capnpref10_Targets.j0 k (a.f1 != 7) a.f0 a.f1 a.f2 a.f3 a.f4) (fun k => by rw [if_pos h0]) ?_
    by_cases h1 : a.f1 = 7
    · have e1 : (a.f1 != 7) = false := by simp [h1]
      rw [e1]
      have hT : ttargets a = tkids a.f4 := by unfold ttargets; rw [if_pos ⟨h0, h1⟩]
      rw [hT]
      have loop : ∀ d j : Nat, a.f4.length - j = d → j ≤ a.f4.length → Ev (fun k => capnpref10_Targets.l0 k (tkids (a.f4.take j)) (j : Int) a.f0 a.f1 a.f2 a.f3 a.f4) (tkids a.f4) := by
        intro d
        induction d with
        | zero =>
          intro j hd hj
          refine Ev.step (f := fun _ => some (tkids a.f4)) (fun k => ?_) (Ev.now _)
          simp only [capnpref10_Targets.l0]
          rw [if_neg (by omega), List.take_of_length_le (by omega)]
        | succ d ihd =>
          intro j hd hj
          have hlt : j < a.f4.length := by omega
          have ht := tkids_take a.f4 j hlt
          have hle := tkids_le a.f4 (j + 1)
          rw [ht, List.length_append] at hle
          refine Ev.step (f := fun k => capnpref10_Targets.l0 k (tkids (a.f4.take j) ++ a.f4[j].f4) (wrap64 ((j : Int) + 1)) a.f0 a.f1 a.f2 a.f3 a.f4) (fun k => ?_) ?_
          · simp only [capnpref10_Targets.l0]
            rw [if_pos (by omega), if_pos (by omega), rdT_at _ _ hlt, if_pos (by omega)]
          · rw [w64 (by omega) (by omega), ← ht]
            exact ihd (j + 1) (by omega) (by omega)
      refine Ev.step (f := fun k => capnpref10_Targets.l0 k [] 0 a.f0 a.f1 a.f2 a.f3 a.f4) (fun k => ?_) (loop a.f4.length 0 (by omega) (by omega))
      simp only [capnpref10_Targets.j0]
      rw [if_neg (by simp)]
    · have e1 : (a.f1 != 7) = true := by simp [h1]
      rw [e1]
      exact plain fun h => h1 h.2
  · exact Ev.congr (fun k => by rw [if_neg h0]) (plain fun h => h0 h.1)
mutual
def tdepth : S25 → Nat
  | ⟨k, e, _, _, l⟩ => if k = 0 then 0 else 1 + (if k = 2 ∧ e = 7 then tdeep2 l else tdeeps l)
def tdeeps : List S25 → Nat
  | [] => 0
  | x :: l => max (tdepth x) (tdeeps l)
def tdeep2 : List S25 → Nat
  | [] => 0
  | ⟨_, _, _, _, m⟩ :: l => max (tdeeps m) (tdeep2 l)
end
mutual
def tobjs : S25 → Nat
  | ⟨k, e, _, _, l⟩ => if k = 0 then 0 else 1 + (if k = 2 ∧ e = 7 then tobj2 l else tobjss l)
def tobjss : List S25 → Nat
  | [] => 0
  | x :: l => tobjs x + tobjss l
def tobj2 : List S25 → Nat
  | [] => 0
  | ⟨_, _, _, _, m⟩ :: l => tobjss m + tobj2 l
end
theorem tdeeps_append : ∀ l m : List S25, tdeeps (l ++ m) = max (tdeeps l) (tdeeps m)
  | [], m => by simp [tdeeps]
  | x :: l, m => by simp [tdeeps, tdeeps_append l m, Nat.max_assoc]
theorem tobjss_append : ∀ l m : List S25, tobjss (l ++ m) = tobjss l + tobjss m
  | [], m => by simp [tobjss]
  | x :: l, m => by simp [tobjss, tobjss_append l m, Nat.add_assoc]
theorem tdeep2_eq : ∀ l : List S25, tdeep2 l = tdeeps (tkids l)
  | [] => by simp [tdeep2, tdeeps, tkids]
  | ⟨_, _, _, _, m⟩ :: l => by simp [tdeep2, tkids, tdeeps_append, tdeep2_eq l]
theorem tobj2_eq : ∀ l : List S25, tobj2 l = tobjss (tkids l)
  | [] => by simp [tobj2, tobjss, tkids]
  | ⟨_, _, _, _, m⟩ :: l => by simp [tobj2, tkids, tobjss_append, tobj2_eq l]
theorem tdepth_eq (a : S25) : tdepth a = if a.f0 = 0 then 0 else 1 + tdeeps (ttargets a) := by
  cases a with
  | mk k e n d l =>
    simp only [tdepth, ttargets]
    split
    · rfl
    · split
      · rw [tdeep2_eq]
      · rfl
theorem tobjs_eq (a : S25) : tobjs a = if a.f0 = 0 then 0 else 1 + tobjss (ttargets a) := by
  cases a with
  | mk k e n d l =>
    simp only [tobjs, ttargets]
    split
    · rfl
    · split
      · rw [tobj2_eq]
      · rfl
theorem tdeeps_take (l : List S25) (j : Nat) (h : j < l.length) : tdeeps (l.take (j + 1)) = max (tdeeps (l.take j)) (tdepth l[j]) := by
  rw [take_one l j h, tdeeps_append]; simp [tdeeps]
theorem tobjss_take (l : List S25) (j : Nat) (h : j < l.length) : tobjss (l.take (j + 1)) = tobjss (l.take j) + tobjs l[j] := by
  rw [take_one l j h, tobjss_append]; simp [tobjss]
theorem tobjss_le (l : List S25) (j : Nat) : tobjss (l.take j) ≤ tobjss l := by
  have := tobjss_append (l.take j) (l.drop j)
  rw [List.take_append_drop] at this
  omega
theorem tobjss_bound {l : List S25} (h : ∀ x ∈ l, tobjs x ≤ tsize x) : tobjss l ≤ tsizes l := by
  induction l with
  | nil => simp [tobjss]
  | cons k l ih =>
    simp only [tobjss, tsizes]
    have := h k List.mem_cons_self
    have := ih (fun x hx => h x (List.mem_cons_of_mem _ hx))
    omega
theorem tobjs_le : ∀ (n : Nat) (a : S25), tsize a ≤ n → tobjs a ≤ tsize a
  | 0, a, h => by have := tsize_eq a; omega
  | n + 1, a, h => by
    rw [tobjs_eq]
    split
    · omega
    · have h1 : tobjss (ttargets a) ≤ tsizes (ttargets a) := tobjss_bound fun x hx => tobjs_le n x (by have := ttargets_size hx; omega)
      have h2 := ttargets_sizes a
      have h3 := tsize_eq a
      omega
theorem tdepth_le_objs : ∀ (n : Nat) (a : S25), tsize a ≤ n → tdepth a ≤ tobjs a
  | 0, a, h => by have := tsize_eq a; omega
  | n + 1, a, h => by
    rw [tdepth_eq, tobjs_eq]
    split
    · omega
    · have : ∀ l : List S25, (∀ x ∈ l, tdepth x ≤ tobjs x) → tdeeps l ≤ tobjss l := fun l => by
        induction l with
        | nil => intro _; simp [tdeeps]
        | cons k l ih =>
          intro hl
          simp only [tdeeps, tobjss]
          have := hl k List.mem_cons_self
          have := ih (fun x hx => hl x (List.mem_cons_of_mem _ hx))
          omega
      have := this (ttargets a) fun x hx => tdepth_le_objs n x (by have := ttargets_size hx; omega)
      omega
theorem tobjs_size (a : S25) : tobjs a ≤ tsize a := tobjs_le _ a (Nat.le_refl _)
theorem tdepth_objs (a : S25) : tdepth a ≤ tobjs a := tdepth_le_objs _ a (Nat.le_refl _)
theorem depth_ev : ∀ (n : Nat) (a : S25), tsize a ≤ n → tsize a ≤ 1000000000000 → Ev (fun k => capnpref10_Depth.f k a.f0 a.f1 a.f2 a.f3 a.f4) (tdepth a : Int)
  | 0, a, h, _ => by have := tsize_eq a; omega
  | n + 1, a, h, hs => by
    have he := tsize_eq a
    have hd0 := tdepth_objs a
    have ho := tobjs_size a
    by_cases h0 : a.f0 = 0
    · refine Ev.step (f := fun _ => some (tdepth a : Int)) (fun k => ?_) (Ev.now _)
      simp only [capnpref10_Depth.f]
      rw [if_pos h0, tdepth_eq, if_pos h0]; rfl
    · refine Ev.step (f := fun k => (capnpref10_Targets.f k a.f0 a.f1 a.f2 a.f3 a.f4).bind fun t => capnpref10_Depth.l0 k t 0 0) (fun k => by simp only [capnpref10_Depth.f]; rw [if_neg h0]) ?_
      refine Ev.bind (targets_ev a hs) ?_
      have hT := ttargets_sizes a
      have hlT := length_tsizes (ttargets a)
      have hde : tdepth a = 1 + tdeeps (ttargets a) := by rw [tdepth_eq, if_neg h0]
      have hmem : ∀ x ∈ ttargets a, Ev (fun k => capnpref10_Depth.f k x.f0 x.f1 x.f2 x.f3 x.f4) (tdepth x : Int) := fun x hx => depth_ev n x (by have := ttargets_size hx; omega) (by have := ttargets_size hx; omega)
      generalize ttargets a = L at *
      have loop : ∀ d j : Nat, L.length - j = d → j ≤ L.length → Ev (fun k => capnpref10_Depth.l0 k L (tdeeps (L.take j) : Int) (j : Int)) (tdepth a : Int) := by
        intro d
        induction d with
        | zero =>
          intro j hd hj
          refine Ev.step (f := fun _ => some (tdepth a : Int)) (fun k => ?_) (Ev.now _)
          simp only [capnpref10_Depth.l0]
          rw [if_neg (by omega), List.take_of_length_le (by omega), w64 (by omega) (by omega), hde]
          congr 1
        | succ d ihd =>
          intro j hd hj
          have hlt : j < L.length := by omega
          have ht := tdeeps_take L j hlt
          have hn := ihd (j + 1) (by omega) (by omega)
          rw [ht] at hn
          refine Ev.step (f := fun k => (capnpref10_Depth.f k L[j].f0 L[j].f1 L[j].f2 L[j].f3 L[j].f4).bind fun t => if t > (tdeeps (L.take j) : Int) then capnpref10_Depth.l0 k L t (wrap64 ((j : Int) + 1)) else capnpref10_Depth.l0 k L (tdeeps (L.take j) : Int) (wrap64 ((j : Int) + 1))) (fun k => ?_) ?_
          · simp only [capnpref10_Depth.l0]
            rw [if_pos (by omega), if_pos (by omega), rdT_at _ _ hlt]
          · refine Ev.bind (hmem _ (List.getElem_mem hlt)) ?_
            rw [w64 (by omega) (by omega)]
            have e2 : ((j + 1 : Nat) : Int) = (j : Int) + 1 := by omega
            rw [e2] at hn
            by_cases hc : tdeeps (L.take j) < tdepth L[j]
            · rw [Nat.max_eq_right (by omega)] at hn
              exact Ev.congr (fun k => by rw [if_pos (by omega)]) hn
            · rw [Nat.max_eq_left (by omega)] at hn
              exact Ev.congr (fun k => by rw [if_neg (by omega)]) hn
      exact loop L.length 0 (by omega) (by omega)
theorem objs_ev : ∀ (n : Nat) (a : S25), tsize a ≤ n → tsize a ≤ 1000000000000 → Ev (fun k => capnpref10_Objects.f k a.f0 a.f1 a.f2 a.f3 a.f4) (tobjs a : Int)
  | 0, a, h, _ => by have := tsize_eq a; omega
  | n + 1, a, h, hs => by
    have he := tsize_eq a
    have ho := tobjs_size a
    by_cases h0 : a.f0 = 0
    · refine Ev.step (f := fun _ => some (tobjs a : Int)) (fun k => ?_) (Ev.now _)
      simp only [capnpref10_Objects.f]
      rw [if_pos h0, tobjs_eq, if_pos h0]; rfl
    · refine Ev.step (f := fun k => (capnpref10_Targets.f k a.f0 a.f1 a.f2 a.f3 a.f4).bind fun t => capnpref10_Objects.l0 k t 1 0) (fun k => by simp only [capnpref10_Objects.f]; rw [if_neg h0]) ?_
      refine Ev.bind (targets_ev a hs) ?_
      have hT := ttargets_sizes a
      have hlT := length_tsizes (ttargets a)
      have hde : tobjs a = 1 + tobjss (ttargets a) := by rw [tobjs_eq, if_neg h0]
      have hmem : ∀ x ∈ ttargets a, Ev (fun k => capnpref10_Objects.f k x.f0 x.f1 x.f2 x.f3 x.f4) (tobjs x : Int) := fun x hx => objs_ev n x (by have := ttargets_size hx; omega) (by have := ttargets_size hx; omega)
      generalize ttargets a = L at *
      have loop : ∀ d j : Nat, L.length - j = d → j ≤ L.length → Ev (fun k => capnpref10_Objects.l0 k L ((1 + tobjss (L.take j) : Nat) : Int) (j : Int)) (tobjs a : Int) := by
        intro d
        induction d with
        | zero =>
          intro j hd hj
          refine Ev.step (f := fun _ => some (tobjs a : Int)) (fun k => ?_) (Ev.now _)
          simp only [capnpref10_Objects.l0]
          rw [if_neg (by omega), List.take_of_length_le (by omega), hde]
        | succ d ihd =>
          intro j hd hj
          have hlt : j < L.length := by omega
          have ht := tobjss_take L j hlt
          have hle := tobjss_le L (j + 1)
          have hn := ihd (j + 1) (by omega) (by omega)
          refine Ev.step (f := fun k => (capnpref10_Objects.f k L[j].f0 L[j].f1 L[j].f2 L[j].f3 L[j].f4).bind fun t => capnpref10_Objects.l0 k L (wrap64 (((1 + tobjss (L.take j) : Nat) : Int) + t)) (wrap64 ((j : Int) + 1))) (fun k => ?_) ?_
          · simp only [capnpref10_Objects.l0]
            rw [if_pos (by omega), if_pos (by omega), rdT_at _ _ hlt]
          · refine Ev.bind (hmem _ (List.getElem_mem hlt)) ?_
            rw [w64 (by omega) (by omega), w64 (by omega) (by omega)]
            have e1 : ((1 + tobjss (L.take (j + 1)) : Nat) : Int) = ((1 + tobjss (L.take j) : Nat) : Int) + (tobjs L[j] : Int) := by omega
            have e2 : ((j + 1 : Nat) : Int) = (j : Int) + 1 := by omega
            rw [e1, e2] at hn
            exact hn
      exact loop L.length 0 (by omega) (by omega)
end Go.Proofs.YtmbockhcmhghlaaDoor.Pr
end
section
namespace Go.Proofs.YtmbockhcmhghlaaDoor.Pr
open Go.RowKit Go.Shelf Go.Proofs.YtmbockhcmhghlaaDoorW.PrintWords Go.Proofs.YtmbockhcmhghlaaDoorW.PrintLast Go.Proofs.YtmbockhcmhghlaaDoorW.PrintMore
set_option linter.unusedVariables false
set_option linter.unusedSimpArgs false
attribute [local go_sem] Oper.semAt_some
structure El where
  x : S25
  A3 : Option Addr
  c3 : Nat
  A4 : Option Addr
  c4 : Nat
def El.ok (W : World) (e : El) : Prop := Kd.C (Kd.int .u8) W e.A3 e.x.f3.length e.x.f3 ∧ e.x.f3.length ≤ e.c3 ∧ Kd.C k25 W e.A4 e.x.f4.length e.x.f4 ∧ e.x.f4.length ≤ e.c4
abbrev Els (w : World) (T : List S25) := {e : El // e.ok w ∧ e.x ∈ T}
abbrev El.enc (e : El) : Value := .agg #[.int .i64 e.x.f0, .int .i64 e.x.f1, .int .i64 e.x.f2, .slice e.A3 e.x.f3.length e.c3, .slice e.A4 e.x.f4.length e.c4]
def KpN (n₀ Bn : Nat) (W W' : World) : Prop := Below n₀ W W' ∧ W'.heap[Bn]? = W.heap[Bn]?
theorem el_at {l : List S25} {W : World} {A : Option Addr} {n : Nat} (h : Kd.C k25 W A n l) (hn : n = l.length) (j : Nat) (hj : j < l.length) : ∃ ad y B3 d3 B4 d4, A = some ad ∧ l[j] = y ∧ El.ok W ⟨y, B3, d3, B4, d4⟩ ∧
    W.cell? (ad.add (j * 5)) = some (.int .i64 y.f0) ∧ W.cell? ⟨(ad.add (j * 5)).block, (ad.add (j * 5)).off + 1, none⟩ = some (.int .i64 y.f1) ∧ W.cell? ⟨(ad.add (j * 5)).block, (ad.add (j * 5)).off + 2, none⟩ = some (.int .i64 y.f2) ∧
    W.cell? ⟨(ad.add (j * 5)).block, (ad.add (j * 5)).off + 3, none⟩ = some (.slice B3 y.f3.length d3) ∧ W.cell? ⟨(ad.add (j * 5)).block, (ad.add (j * 5)).off + 4, none⟩ = some (.slice B4 y.f4.length d4) := by
  subst hn
  obtain ⟨ad, A3, c3, A4, c4, e, h0, h1, h2, h3, h4, l3, g3, l4, g4⟩ := at_T25 h (j : Int) (by omega) (by omega)
  rw [rdT_at l j hj] at h0 h1 h2 h3 h4 l3 g3 l4 g4
  simp only [Int.toNat_natCast] at h0 h1 h2 h3 h4
  exact ⟨ad, _, A3, c3, A4, c4, e, rfl, ⟨g3, l3, g4, l4⟩, h0, h1, h2, h3, h4⟩
theorem El.ok_below {n : Nat} {W W' : World} {e : El} (h : e.ok W) (hb : Below W.heap.size W W') : e.ok W' := ⟨Kd.C_below h.1 hb, h.2.1, Kd.C_below h.2.2.1 hb, h.2.2.2⟩
set_option maxRecDepth 100000 in
set_option maxHeartbeats 4000000 in
theorem targets1_plain (n : Nat) (hn : 1 ≤ n) (l Bn : Nat) (w : World) (x : S25) (A3 : Option Addr) (c3 : Nat) (A4 : Option Addr) (c4 : Nat) (h7 : (x.f1 != 7) = true) (hC : Kd.C k25 w A4 x.f4.length x.f4)
    (J Jx : List (Els w x.f4) → World → Prop) (W : World) (hJ : AbidesFrom W.heap.size J) (hwW : Below w.heap.size w W)
    (hY : ∀ pre (y : Els w x.f4) W1, J pre W1 → pre.length < x.f4.length → YieldAt Fence.wide (n - 1) Tryd.prog l #[y.1.enc] W1 fun e W' =>
      (e = .returned (.bool true) ∧ J (pre ++ [y]) W' ∧ KpN w.heap.size Bn W1 W') ∨ (e = .returned (.bool false) ∧ Jx (pre ++ [y]) W'))
    (hB : W.heap[Bn]? = some (.cells #[.int .i64 x.f0, .int .i64 x.f1, .int .i64 x.f2, .slice A3 x.f3.length c3, .slice A4 x.f4.length c4] 25 (0, 0))) (h0 : J [] W) :
    CallsIn Fence.wide n Tryd.prog 35 #[.func (.yield l) #[] #[], .pointer (some ⟨Bn, 0, none⟩)] W fun e W' => (∃ v, e = .returned v) ∧
      ((∃ ys : List (Els w x.f4), ys.map (fun y => y.1.x) = x.f4 ∧ J ys W') ∨ (∃ pre : List (Els w x.f4), True ∧ Jx pre W')) := by
  have HC := Lib.hid hC; have HB := Lib.hid hB; have HJ := Lib.hid hJ; have HY := Lib.hid hY; have HW := Lib.hid hwW; have H7 := Lib.hid h7
  have hl : x.f4.length ≤ 9223372036854775807 := hC.2.1
  have b4 : W.cell? ⟨Bn, 4, none⟩ = some (.slice A4 x.f4.length c4) := (blk_cell hB 4).trans rfl
  clear hC hB hJ hY hwW h7
  refine callsIn_of_wp Tryd.func35 rfl trivial ?_ rfl
  simp only [Tryd.ntmps35, List.size_toArray, List.length_cons, List.length_nil, Nat.reduceAdd, Nat.reduceSub, Array.replicate_succ, Array.replicate_zero, List.push_toArray, List.append_toArray, List.nil_append, List.cons_append]
  gi_wp2
  clear b4
  gi_loopw [10] (fun i wr => ∃ (j : Nat) (pre : List (Els w x.f4)), j ≤ x.f4.length ∧ i = .int .i64 j ∧ Hid (pre.map (fun y => y.1.x) = x.f4.take j) ∧ Hid (J pre wr) ∧ Hid (Below w.heap.size w wr) ∧ Hid (W.heap.size ≤ wr.heap.size) ∧ Hid (wr.heap[Bn]? = some (.cells #[.int .i64 x.f0, .int .i64 x.f1, .int .i64 x.f2, .slice A3 x.f3.length c3, .slice A4 x.f4.length c4] 25 (0, 0))))
    (fun i _ => x.f4.length - (intOf i).toNat)
  case atStart => exact ⟨0, [], Nat.zero_le _, rfl, Lib.hid (by simp), Lib.hid h0, HW, Lib.hid (Nat.le_refl _), HB⟩
  case round =>
    obtain ⟨j, pre, hj, rfl, hp, hJs, hW1, hsz, hB1⟩ := hrel
    by_cases hlt : j < x.f4.length
    · obtain ⟨ad, y, B3, d3, B4, d4, e, hy, hok, k0, k1, k2, k3, k4⟩ := el_at HC.out rfl j hlt
      subst e
      have hbd : (ad.add (j * 5)).block < w.heap.size := World.block_lt_of_cell? _ _ k0
      have k0 := (hW1.out.cell hbd).trans k0
      have k1 := (hW1.out.cell (p := ⟨(ad.add (j * 5)).block, (ad.add (j * 5)).off + 1, none⟩) hbd).trans k1
      have k2 := (hW1.out.cell (p := ⟨(ad.add (j * 5)).block, (ad.add (j * 5)).off + 2, none⟩) hbd).trans k2
      have k3 := (hW1.out.cell (p := ⟨(ad.add (j * 5)).block, (ad.add (j * 5)).off + 3, none⟩) hbd).trans k3
      have k4 := (hW1.out.cell (p := ⟨(ad.add (j * 5)).block, (ad.add (j * 5)).off + 4, none⟩) hbd).trans k4
      have hbd2 : (ad.add (j * 5)).block < wr.heap.size := Nat.lt_of_lt_of_le hbd hW1.out.size
      have b1 : wr.cell? ⟨Bn, 1, none⟩ = some (.int .i64 x.f1) := (blk_cell hB1.out 1).trans rfl
      have lb : Bn < wr.heap.size := blk_lt hB1.out
      have h7 := H7.out
      have hlen : pre.length < x.f4.length := by
        have := congrArg List.length hp.out
        rw [List.length_map, List.length_take] at this
        omega
      have hmem : y ∈ x.f4 := hy ▸ List.getElem_mem hlt
      obtain ⟨fn, tmps, assign, body, hyy, hR⟩ := HY.out pre ⟨⟨y, B3, d3, B4, d4⟩, hok, hmem⟩ (wr.alloc (.cells #[.int .i64 y.f0, .int .i64 y.f1, .int .i64 y.f2, .slice B3 y.f3.length d3, .slice B4 y.f4.length d4] 25))
        (HJ.out pre wr _ none hJs.out (World.grownBy_alloc wr _ none) (fun r e => by cases e)) hlen
      dsimp only [El.enc] at hyy
      have HR := Lib.hid hR
      have HYY := Lib.hid hy
      clear hR hy
      gi_wp2
      refine HR.out.mono ?_
      rintro e W3 (⟨rfl, hJ3, hk3, hb3⟩ | ⟨rfl, hJx3⟩)
      · gi_wp2
        go_roundw
        case rel =>
          have hA : Below w.heap.size wr (wr.alloc (.cells #[.int .i64 y.f0, .int .i64 y.f1, .int .i64 y.f2, .slice B3 y.f3.length d3, .slice B4 y.f4.length d4] 25)) := (Below.refl _ _).alloc hW1.out.size _
          refine ⟨j + 1, _, by omega, by go_num, Lib.hid ?_, Lib.hid hJ3, Lib.hid ((hW1.out.trans hA).trans hk3), Lib.hid ?_, Lib.hid ?_⟩
          · rw [List.map_append, hp.out, take_one _ _ hlt, HYY.out]; rfl
          · exact Nat.le_trans hsz.out (Nat.le_trans hA.size hk3.size)
          · rw [hb3]; exact blk_alloc hB1.out _
        case measure => simp [intOf]; omega
      · gi_wp2
        refine bodyPost_ret (results_none rfl _ _ _) rfl ?_
        exact ⟨⟨_, rfl⟩, .inr ⟨_, trivial, hJx3⟩⟩
    · gi_wp2
      go_end0
      refine ⟨⟨_, rfl⟩, .inl ⟨pre, ?_, hJs.out⟩⟩
      rw [hp.out, List.take_of_length_le (by omega)]
theorem tkids_len {l : List S25} {j i : Nat} (hj : j < l.length) (hi : i < l[j].f4.length) : (tkids (l.take j)).length + i < (tkids l).length := by
  have h1 := tkids_take l j hj
  have h2 : tkids l = tkids (l.take (j + 1)) ++ tkids (l.drop (j + 1)) := by rw [← tkids_append, List.take_append_drop]
  rw [h2, h1, List.length_append, List.length_append]
  omega
set_option maxRecDepth 100000 in
set_option maxHeartbeats 4000000 in
theorem targets1_comp (n : Nat) (hn : 1 ≤ n) (l Bn : Nat) (w : World) (x : S25) (A3 : Option Addr) (c3 : Nat) (A4 : Option Addr) (c4 : Nat) (h7 : (x.f1 != 7) = false) (hC : Kd.C k25 w A4 x.f4.length x.f4)
    (J Jx : List (Els w (tkids x.f4)) → World → Prop) (W : World) (hJ : AbidesFrom W.heap.size J) (hwW : Below w.heap.size w W)
    (hY : ∀ pre (y : Els w (tkids x.f4)) W1, J pre W1 → pre.length < (tkids x.f4).length → YieldAt Fence.wide (n - 1) Tryd.prog l #[y.1.enc] W1 fun e W' =>
      (e = .returned (.bool true) ∧ J (pre ++ [y]) W' ∧ KpN w.heap.size Bn W1 W') ∨ (e = .returned (.bool false) ∧ Jx (pre ++ [y]) W'))
    (hB : W.heap[Bn]? = some (.cells #[.int .i64 x.f0, .int .i64 x.f1, .int .i64 x.f2, .slice A3 x.f3.length c3, .slice A4 x.f4.length c4] 25 (0, 0))) (h0 : J [] W) :
    CallsIn Fence.wide n Tryd.prog 35 #[.func (.yield l) #[] #[], .pointer (some ⟨Bn, 0, none⟩)] W fun e W' => (∃ v, e = .returned v) ∧
      ((∃ ys : List (Els w (tkids x.f4)), ys.map (fun y => y.1.x) = tkids x.f4 ∧ J ys W') ∨ (∃ pre : List (Els w (tkids x.f4)), True ∧ Jx pre W')) := by
  have HC := Lib.hid hC; have HB := Lib.hid hB; have HJ := Lib.hid hJ; have HY := Lib.hid hY; have HW := Lib.hid hwW; have H7 := Lib.hid h7
  have hl : x.f4.length ≤ 9223372036854775807 := hC.2.1
  have b4 : W.cell? ⟨Bn, 4, none⟩ = some (.slice A4 x.f4.length c4) := (blk_cell hB 4).trans rfl
  clear hC hB hJ hY hwW h7
  refine callsIn_of_wp Tryd.func35 rfl trivial ?_ rfl
  simp only [Tryd.ntmps35, List.size_toArray, List.length_cons, List.length_nil, Nat.reduceAdd, Nat.reduceSub, Array.replicate_succ, Array.replicate_zero, List.push_toArray, List.append_toArray, List.nil_append, List.cons_append]
  gi_wp2
  clear b4
  gi_loopw [10] (fun i wr => ∃ (j : Nat) (pre : List (Els w (tkids x.f4))), j ≤ x.f4.length ∧ i = .int .i64 j ∧ Hid (pre.map (fun y => y.1.x) = tkids (x.f4.take j)) ∧ Hid (J pre wr) ∧ Hid (Below w.heap.size w wr) ∧ Hid (W.heap.size ≤ wr.heap.size) ∧ Hid (wr.heap[Bn]? = some (.cells #[.int .i64 x.f0, .int .i64 x.f1, .int .i64 x.f2, .slice A3 x.f3.length c3, .slice A4 x.f4.length c4] 25 (0, 0))))
    (fun i _ => x.f4.length - (intOf i).toNat)
  case atStart => exact ⟨0, [], Nat.zero_le _, rfl, Lib.hid (by simp [tkids]), Lib.hid h0, HW, Lib.hid (Nat.le_refl _), HB⟩
  case round =>
    obtain ⟨j, pre, hj, rfl, hp, hJs, hW1, hsz, hB1⟩ := hrel
    by_cases hlt : j < x.f4.length
    · obtain ⟨ad, y, B3, d3, B4, d4, e, hy, hok, r0, r1, r2, r3, r4⟩ := el_at HC.out rfl j hlt
      subst e
      have hbd : (ad.add (j * 5)).block < w.heap.size := World.block_lt_of_cell? _ _ r0
      have k0 := (hW1.out.cell hbd).trans r0
      have k1 := (hW1.out.cell (p := ⟨(ad.add (j * 5)).block, (ad.add (j * 5)).off + 1, none⟩) hbd).trans r1
      have k2 := (hW1.out.cell (p := ⟨(ad.add (j * 5)).block, (ad.add (j * 5)).off + 2, none⟩) hbd).trans r2
      have k3 := (hW1.out.cell (p := ⟨(ad.add (j * 5)).block, (ad.add (j * 5)).off + 3, none⟩) hbd).trans r3
      have k4 := (hW1.out.cell (p := ⟨(ad.add (j * 5)).block, (ad.add (j * 5)).off + 4, none⟩) hbd).trans r4
      clear r0 r1 r2 r3 r4
      have hbd2 : (ad.add (j * 5)).block < wr.heap.size := Nat.lt_of_lt_of_le hbd hW1.out.size
      have b1 : wr.cell? ⟨Bn, 1, none⟩ = some (.int .i64 x.f1) := (blk_cell hB1.out 1).trans rfl
      have lb : Bn < wr.heap.size := blk_lt hB1.out
      have h7 := H7.out
      have hyl : y.f4.length ≤ 9223372036854775807 := hok.2.2.1.2.1
      have HYY := Lib.hid hy
      have HOK := Lib.hid hok
      have hA : Below w.heap.size wr (wr.alloc (.cells #[.int .i64 y.f0, .int .i64 y.f1, .int .i64 y.f2, .slice B3 y.f3.length d3, .slice B4 y.f4.length d4] 25)) := (Below.refl _ _).alloc hW1.out.size _
      have HA := Lib.hid hA
      have hJ1 := Lib.hid (HJ.out pre wr _ none hJs.out (World.grownBy_alloc wr (.cells #[.int .i64 y.f0, .int .i64 y.f1, .int .i64 y.f2, .slice B3 y.f3.length d3, .slice B4 y.f4.length d4] 25) none) (fun r e => by cases e))
      have hB2 := Lib.hid (blk_alloc hB1.out (.cells #[.int .i64 y.f0, .int .i64 y.f1, .int .i64 y.f2, .slice B3 y.f3.length d3, .slice B4 y.f4.length d4] 25))
      clear hy hok hA
      gi_wp2
      clear k0 k1 k2 k3 k4 b1 h7
      gi_loopw [24] (fun i wq => ∃ (m : Nat) (qre : List (Els w (tkids x.f4))), m ≤ y.f4.length ∧ i = .int .i64 m ∧ Hid (qre.map (fun y => y.1.x) = tkids (x.f4.take j) ++ y.f4.take m) ∧ Hid (J qre wq) ∧ Hid (Below w.heap.size w wq) ∧ Hid (W.heap.size ≤ wq.heap.size) ∧ Hid (wq.heap[Bn]? = some (.cells #[.int .i64 x.f0, .int .i64 x.f1, .int .i64 x.f2, .slice A3 x.f3.length c3, .slice (some ad) x.f4.length c4] 25 (0, 0))))
        (fun i _ => y.f4.length - (intOf i).toNat)
      case atStart => exact ⟨0, pre, Nat.zero_le _, rfl, Lib.hid (by rw [hp.out]; simp), hJ1, Lib.hid (hW1.out.trans HA.out), Lib.hid (Nat.le_trans hsz.out HA.out.size), hB2⟩
      case round =>
        clear hJ1 HA hB2 hW1 hsz hB1 hJs hp lb hbd2
        obtain ⟨m, qre, hm, rfl, hp, hJs, hW1, hsz, hB1⟩ := hrel
        by_cases hlm : m < y.f4.length
        · obtain ⟨bd, z, C3, e3, C4, e4, e, hz, hok, r0, r1, r2, r3, r4⟩ := el_at HOK.out.2.2.1 rfl m hlm
          dsimp only at e
          subst e
          have hbe : (bd.add (m * 5)).block < w.heap.size := World.block_lt_of_cell? _ _ r0
          have k0 := (hW1.out.cell hbe).trans r0
          have k1 := (hW1.out.cell (p := ⟨(bd.add (m * 5)).block, (bd.add (m * 5)).off + 1, none⟩) hbe).trans r1
          have k2 := (hW1.out.cell (p := ⟨(bd.add (m * 5)).block, (bd.add (m * 5)).off + 2, none⟩) hbe).trans r2
          have k3 := (hW1.out.cell (p := ⟨(bd.add (m * 5)).block, (bd.add (m * 5)).off + 3, none⟩) hbe).trans r3
          have k4 := (hW1.out.cell (p := ⟨(bd.add (m * 5)).block, (bd.add (m * 5)).off + 4, none⟩) hbe).trans r4
          clear r0 r1 r2 r3 r4
          have hbe2 : (bd.add (m * 5)).block < wr.heap.size := Nat.lt_of_lt_of_le hbe hW1.out.size
          have lb : Bn < wr.heap.size := blk_lt hB1.out
          have hmem : z ∈ tkids x.f4 := mem_tkids.2 ⟨y, HYY.out ▸ List.getElem_mem hlt, hz ▸ List.getElem_mem hlm⟩
          have hlen : qre.length < (tkids x.f4).length := by
            have := congrArg List.length hp.out
            rw [List.length_map, List.length_append, List.length_take] at this
            have h2 := tkids_len (l := x.f4) (j := j) (i := m) hlt (by rw [HYY.out]; exact hlm)
            omega
          obtain ⟨fn, tmps, assign, body, hyy, hR⟩ := HY.out qre ⟨⟨z, C3, e3, C4, e4⟩, hok, hmem⟩ (wr.alloc (.cells #[.int .i64 z.f0, .int .i64 z.f1, .int .i64 z.f2, .slice C3 z.f3.length e3, .slice C4 z.f4.length e4] 25))
            (HJ.out qre wr _ none hJs.out (World.grownBy_alloc wr _ none) (fun r e => by cases e)) hlen
          dsimp only [El.enc] at hyy
          have HR := Lib.hid hR
          have HZ := Lib.hid hz
          clear hR hz
          gi_wp2
          refine HR.out.mono ?_
          rintro e W3 (⟨rfl, hJ3, hk3, hb3⟩ | ⟨rfl, hJx3⟩)
          · gi_wp2
            go_roundw
            case rel =>
              have hA : Below w.heap.size wr (wr.alloc (.cells #[.int .i64 z.f0, .int .i64 z.f1, .int .i64 z.f2, .slice C3 z.f3.length e3, .slice C4 z.f4.length e4] 25)) := (Below.refl _ _).alloc hW1.out.size _
              refine ⟨m + 1, _, by omega, by go_num, Lib.hid ?_, Lib.hid hJ3, Lib.hid ((hW1.out.trans hA).trans hk3), Lib.hid ?_, Lib.hid ?_⟩
              · rw [List.map_append, hp.out, take_one _ _ hlm, HZ.out, List.append_assoc]; rfl
              · exact Nat.le_trans hsz.out (Nat.le_trans hA.size hk3.size)
              · rw [hb3]; exact blk_alloc hB1.out _
            case measure => simp [intOf]; omega
          · gi_wp2
            refine bodyPost_ret (results_none rfl _ _ _) rfl ?_
            exact ⟨⟨_, rfl⟩, .inr ⟨_, trivial, hJx3⟩⟩
        · gi_wp2
          go_roundw
          case rel =>
            refine ⟨j + 1, qre, by omega, by go_num, Lib.hid ?_, hJs, hW1, hsz, hB1⟩
            rw [hp.out, tkids_take _ _ hlt, HYY.out, List.take_of_length_le (show y.f4.length ≤ m by omega)]
          case measure => simp [intOf]; omega
    · gi_wp2
      go_end0
      refine ⟨⟨_, rfl⟩, .inl ⟨pre, ?_, hJs.out⟩⟩
      rw [hp.out, List.take_of_length_le (by omega)]
end Go.Proofs.YtmbockhcmhghlaaDoor.Pr
end
section
namespace Go.Proofs.YtmbockhcmhghlaaDoor.Pr
open Go.RowKit Go.Proofs.YtmbockhcmhghlaaDoorW.PrintWords Go.Proofs.YtmbockhcmhghlaaDoorW.PrintLast Go.Proofs.YtmbockhcmhghlaaDoorW.PrintMore
set_option linter.unusedVariables false
set_option linter.unusedSimpArgs false
theorem wp_at {P : Program} {c : Code} {Q : Exit → Act → World → Prop} {a : Act} {w : World} (h : ∀ W, W = w → c.wp P Q a W) : c.wp P Q a w := h w rfl
section
variable {α : Type} {d : Kd α} {e base n c g sz : Nat} {W W' : World} {v : Value} {A : Option Addr} {xs ys : List α} {rows news : List (List Value)}
def RowsK (d : Kd α) (W : World) (xs : List α) (rows : List (List Value)) : Prop := rows.length = xs.length ∧ ∀ (j : Nat) (x : α) (cs : List Value), xs[j]? = some x → rows[j]? = some cs → d.K W x cs
theorem RowsK.below (h : RowsK d W xs rows) (hb : Below W.heap.size W W') : RowsK d W' xs rows := ⟨h.1, fun j x cs hx hc => d.K_below hb (h.2 j x cs hx hc)⟩
theorem RowsK.nil (d : Kd α) (W : World) : RowsK d W [] [] := ⟨rfl, fun j x cs hx _ => by simp at hx⟩
theorem RowsK.append (h : RowsK d W xs rows) (k : RowsK d W ys news) : RowsK d W (xs ++ ys) (rows ++ news) := ⟨by rw [List.length_append, List.length_append, h.1, k.1], fun j x cs hx hc => by
  rcases Nat.lt_or_ge j xs.length with hj | hj
  · rw [List.getElem?_append_left hj] at hx
    rw [List.getElem?_append_left (by rw [h.1]; exact hj)] at hc
    exact h.2 j x cs hx hc
  · rw [List.getElem?_append_right hj] at hx
    rw [List.getElem?_append_right (by rw [h.1]; exact hj), h.1] at hc
    exact k.2 _ x cs hx hc⟩
theorem RowsK.replicate {x : α} {cs : List Value} (h : d.K W x cs) (m : Nat) : RowsK d W (List.replicate m x) (List.replicate m cs) := ⟨by simp, fun j y c hy hc => by
  obtain ⟨_, rfl⟩ := List.getElem?_eq_some_iff.1 hy
  obtain ⟨_, rfl⟩ := List.getElem?_eq_some_iff.1 hc
  simpa using h⟩
end
end Go.Proofs.YtmbockhcmhghlaaDoor.Pr
end
section
namespace Go.Proofs.YtmbockhcmhghlaaDoor.Pr
open Go.RowKit Go.Proofs.YtmbockhcmhghlaaDoorW.PrintWords Go.Proofs.YtmbockhcmhghlaaDoorW.PrintLast Go.Proofs.YtmbockhcmhghlaaDoorW.PrintMore
set_option linter.unusedVariables false
set_option linter.unusedSimpArgs false
def elemV (k : S25) : Bool := (k.f0 == 1) && structV k
def listV (x : S25) : Bool :=
  if x.f2 < 0 ∨ 536870911 < x.f2 ∨ x.f1 < 0 ∨ 7 < x.f1 then false
  else if x.f1 = 6 then ((x.f3.length : Int) == 0) && (((x.f4.length : Int) == x.f2) && x.f4.all tvalid)
  else if x.f1 = 7 then ((x.f3.length : Int) == 0) && (((x.f4.length : Int) == x.f2) && x.f4.all elemV)
  else ((x.f4.length : Int) == 0) && (((x.f3.length : Int) == bytesOf x.f1 x.f2) && decide (rL x.f1 x.f2 x.f3 x.f3.length = x.f3))
theorem own_reads {w : World} {base : Nat} {v : Value} {n : Nat} {ys : List Int} (h : w.ownsRow base 5 1 v n (Ls.nums .u8 ys)) (hn : ys.length = n) : ∃ A c, v = .slice A ys.length c ∧ ys.length ≤ c ∧ (Kd.int .u8).C w A ys.length ys := by
  subst hn
  have h' : (Kd.int .u8).R 5 w base (fun _ => True) v ys := Kd.R_of_own (h1 := fun _ => rfl) (ok := fun _ => True) h (fun _ _ => trivial)
  obtain ⟨A, c, e, hl, hC⟩ := Kd.R_reads h'
  exact ⟨A, c, e, hl, hC⟩
set_option maxRecDepth 100000 in
set_option maxHeartbeats 4000000 in
theorem list_any (x : S25) (hN : ∀ y ∈ x.f4, NodeC 10 (tvalid y) y) (hE : ∀ y ∈ x.f4, NodeC 31 (elemV y) y) (hx : ∀ b ∈ x.f3, 0 ≤ b ∧ b ≤ 255) : NodeC 22 (listV x) x := by
  intro A3 c3 A4 c4 W h3 l3 h4 l4 ht
  have H3 := Lib.hid h3; have H4 := Lib.hid h4; have HT := Lib.hid ht; have HN := Lib.hid hN; have HE := Lib.hid hE; have HX := Lib.hid hx
  have hm3 : x.f3.length ≤ 9223372036854775807 := h3.2.1
  have hm4 : x.f4.length ≤ 9223372036854775807 := h4.2.1
  clear h3 h4 ht hN hE hx
  have HD : Hid (listV x = _) := Lib.hid (listV.eq_1 x)
  by_cases q1 : x.f1 < 0
  · have d1 : decide (x.f1 < 0) = true := decide_eq_true q1
    have HDD : Hid (listV x = false) := Lib.hid (by rw [HD.out]; rw [if_pos (by omega)])
    clear HD
    go_enter Tryd.func22, Tryd.ntmps22
    go_wp2
    go_ret
    exact ⟨by rw [HDD.out]; rfl, (Below.refl _ _).alloc (Nat.le_refl _) _⟩
  have d1 : decide (x.f1 < 0) = false := decide_eq_false q1
  by_cases q2 : 7 < x.f1
  · have d2 : decide (7 < x.f1) = true := decide_eq_true q2
    have HDD : Hid (listV x = false) := Lib.hid (by rw [HD.out]; rw [if_pos (by omega)])
    clear HD
    go_enter Tryd.func22, Tryd.ntmps22
    go_wp2
    go_ret
    exact ⟨by rw [HDD.out]; rfl, (Below.refl _ _).alloc (Nat.le_refl _) _⟩
  have d2 : decide (7 < x.f1) = false := decide_eq_false q2
  by_cases q3 : x.f2 < 0
  · have d3 : decide (x.f2 < 0) = true := decide_eq_true q3
    have HDD : Hid (listV x = false) := Lib.hid (by rw [HD.out]; rw [if_pos (by omega)])
    clear HD
    go_enter Tryd.func22, Tryd.ntmps22
    go_wp2
    go_ret
    exact ⟨by rw [HDD.out]; rfl, (Below.refl _ _).alloc (Nat.le_refl _) _⟩
  have d3 : decide (x.f2 < 0) = false := decide_eq_false q3
  by_cases q4 : 536870911 < x.f2
  · have d4 : decide (536870911 < x.f2) = true := decide_eq_true q4
    have HDD : Hid (listV x = false) := Lib.hid (by rw [HD.out]; rw [if_pos (by omega)])
    clear HD
    go_enter Tryd.func22, Tryd.ntmps22
    go_wp2
    go_ret
    exact ⟨by rw [HDD.out]; rfl, (Below.refl _ _).alloc (Nat.le_refl _) _⟩
  have d4 : decide (536870911 < x.f2) = false := decide_eq_false q4
  have HD1 := Lib.hid (HD.out.trans (if_neg (by omega)))
  clear HD
  by_cases e6 : x.f1 = 6
  · have g6 : (x.f1 == 6) = true := beq_iff_eq.2 e6
    have HD2 := Lib.hid (HD1.out.trans (if_pos e6))
    clear HD1 e6
    cases b1 : ((x.f3.length : Int) == 0) with
    | false =>
      have HDD : Hid (listV x = false) := Lib.hid (by rw [HD2.out]; rw [b1]; rfl)
      clear HD2
      go_enter Tryd.func22, Tryd.ntmps22
      go_wp2
      go_ret
      exact ⟨by rw [HDD.out]; rfl, (Below.refl _ _).alloc (Nat.le_refl _) _⟩
    | true =>
    cases b2 : ((x.f4.length : Int) == x.f2) with
    | false =>
      have HDD : Hid (listV x = false) := Lib.hid (by rw [HD2.out]; rw [b1, b2]; rfl)
      clear HD2
      go_enter Tryd.func22, Tryd.ntmps22
      go_wp2
      go_ret
      exact ⟨by rw [HDD.out]; rfl, (Below.refl _ _).alloc (Nat.le_refl _) _⟩
    | true =>
    have HDD := Lib.hid (show listV x = x.f4.all tvalid by rw [HD2.out, b1, b2]; rfl)
    clear HD2
    go_enter Tryd.func22, Tryd.ntmps22
    go_wp2_with fail
    refine calls_at (fun W1 hW => ?_)
    have hb : Below W.heap.size W W1 := by rw [hW]; exact (Below.refl _ _).alloc (Nat.le_refl _) _
    clear hW
    refine (all10 tvalid A4 c4 x.f4 W1 HN.out (Kd.C_below H4.out hb) (HT.out.below hb)).mono ?_
    rintro e w1 ⟨rfl, hb1⟩
    go_wp2
    go_ret
    exact ⟨by rw [HDD.out]; rfl, hb.trans (hb1.mono hb.size)⟩
  have g6 : (x.f1 == 6) = false := beq_eq_false_iff_ne.2 e6
  have HD1b := Lib.hid (HD1.out.trans (if_neg e6))
  by_cases e7 : x.f1 = 7
  · have g7 : (x.f1 == 7) = true := beq_iff_eq.2 e7
    have HD2 := Lib.hid (HD1b.out.trans (if_pos e7))
    clear HD1b e7
    cases b1 : ((x.f3.length : Int) == 0) with
    | false =>
      have HDD : Hid (listV x = false) := Lib.hid (by rw [HD2.out]; rw [b1]; rfl)
      clear HD2
      go_enter Tryd.func22, Tryd.ntmps22
      go_wp2
      go_ret
      exact ⟨by rw [HDD.out]; rfl, (Below.refl _ _).alloc (Nat.le_refl _) _⟩
    | true =>
    cases b2 : ((x.f4.length : Int) == x.f2) with
    | false =>
      have HDD : Hid (listV x = false) := Lib.hid (by rw [HD2.out]; rw [b1, b2]; rfl)
      clear HD2
      go_enter Tryd.func22, Tryd.ntmps22
      go_wp2
      go_ret
      exact ⟨by rw [HDD.out]; rfl, (Below.refl _ _).alloc (Nat.le_refl _) _⟩
    | true =>
    have HDD := Lib.hid (show listV x = x.f4.all elemV by rw [HD2.out, b1, b2]; rfl)
    clear HD2
    go_enter Tryd.func22, Tryd.ntmps22
    go_wp2_with fail
    refine calls_at (fun W1 hW => ?_)
    have hb : Below W.heap.size W W1 := by rw [hW]; exact (Below.refl _ _).alloc (Nat.le_refl _) _
    clear hW
    refine (all31 elemV A4 c4 x.f4 W1 HE.out (Kd.C_below H4.out hb) (HT.out.below hb)).mono ?_
    rintro e w1 ⟨rfl, hb1⟩
    go_wp2
    go_ret
    exact ⟨by rw [HDD.out]; rfl, hb.trans (hb1.mono hb.size)⟩
  have g7 : (x.f1 == 7) = false := beq_eq_false_iff_ne.2 e7
  have HD1c := Lib.hid (HD1b.out.trans (if_neg e7))
  have p0 : 0 ≤ x.f1 := by omega
  have p5 : x.f1 ≤ 5 := by omega
  have r0 : 0 ≤ x.f2 := by omega
  have r1 : x.f2 ≤ 536870911 := by omega
  clear HD1 HD1b e6 e7 q1 q2 q3 q4
  cases b1 : ((x.f4.length : Int) == 0) with
  | false =>
    have HDD : Hid (listV x = false) := Lib.hid (by rw [HD1c.out, b1]; rfl)
    clear HD1c
    go_enter Tryd.func22, Tryd.ntmps22
    go_upto_region 8 with fail
    refine wp_at (fun W1 hW => ?_)
    have hb : Below W.heap.size W W1 := by rw [hW]; exact (Below.refl _ _).alloc (Nat.le_refl _) _
    have hB : W1.heap[W.heap.size]? = some (.cells #[.int .i64 x.f0, .int .i64 x.f1, .int .i64 x.f2, .slice A3 x.f3.length c3, .slice A4 x.f4.length c4] 25 (0, 0)) := by rw [hW]; exact heap_alloc_new _ _
    clear hW
    have l_b := blk_lt hB
    have q0 : W1.cell? ⟨W.heap.size, 0, none⟩ = some (.int .i64 x.f0) := (blk_cell hB 0).trans rfl
    have q1 : W1.cell? ⟨W.heap.size, 1, none⟩ = some (.int .i64 x.f1) := (blk_cell hB 1).trans rfl
    have q2 : W1.cell? ⟨W.heap.size, 2, none⟩ = some (.int .i64 x.f2) := (blk_cell hB 2).trans rfl
    have q3 : W1.cell? ⟨W.heap.size, 3, none⟩ = some (.slice A3 x.f3.length c3) := (blk_cell hB 3).trans rfl
    have q4 : W1.cell? ⟨W.heap.size, 4, none⟩ = some (.slice A4 x.f4.length c4) := (blk_cell hB 4).trans rfl
    clear hB
    refine start_ (n := 28) (S := fun w' => w'.cell? ⟨W.heap.size, 0, none⟩ = some (.int .i64 x.f0) ∧ w'.cell? ⟨W.heap.size, 1, none⟩ = some (.int .i64 x.f1) ∧ w'.cell? ⟨W.heap.size, 2, none⟩ = some (.int .i64 x.f2) ∧ w'.cell? ⟨W.heap.size, 3, none⟩ = some (.slice A3 x.f3.length c3) ∧ w'.cell? ⟨W.heap.size, 4, none⟩ = some (.slice A4 x.f4.length c4)) (ds := []) #[false, false, false, false, false, false, false, false, false, false, false, false, false, false, false, false, false, false, false, false, false, false, false, false, false, false, false, false] (by kernel_rfl) rfl rfl ⟨q0, q1, q2, q3, q4⟩ (fun hHeld => ?_)
    obtain ⟨wd, hwd⟩ : ∃ W', W' = W1.drew := ⟨_, rfl⟩
    rw [← hwd] at hHeld ⊢
    have hbR : Below W1.heap.size W1 wd := by rw [hwd]; exact (Below.refl _ _).drew
    clear hwd
    refine pure_ (i := 0) (N := some 61) (v := ?_) (a' := ?_) #[true, false, false, false, false, false, false, false, false, false, false, false, false, false, false, false, false, false, false, false, false, false, false, false, false, false, false, false] rfl rfl (by kernel_rfl) (fun _ _ _ h => h) (Or.inl ⟨by rfl, ?_⟩) ?_ ?_
    rotate_left
    · intro w'
      go_simp
      with_reducible rfl
    rotate_left
    · simp only [Act.put, List.setIfInBounds_toArray, List.set_cons_zero, List.set_cons_succ, i64_w, i32_w]
      rfl
    refine take_ (i := 1) (N := some 62) (v := ?_) (a' := ?_) #[true, true, false, false, false, false, false, false, false, false, false, false, false, false, false, false, false, false, false, false, false, false, false, false, false, false, false, false] rfl rfl (by kernel_rfl) (fun _ _ _ h => h) (Or.inl ⟨by rfl, ?_⟩) hHeld ?_ ?_
    rotate_left
    · rintro w' ⟨s0, s1, s2, s3, s4⟩
      go_simp
      with_reducible rfl
    rotate_left
    · simp only [Act.put, List.setIfInBounds_toArray, List.set_cons_zero, List.set_cons_succ, i64_w, i32_w]
      rfl
    refine pure_ (i := 2) (N := some 63) (v := ?_) (a' := ?_) #[true, true, true, false, false, false, false, false, false, false, false, false, false, false, false, false, false, false, false, false, false, false, false, false, false, false, false, false] rfl rfl (by kernel_rfl) (fun _ _ _ h => h) (Or.inl ⟨by rfl, ?_⟩) ?_ ?_
    rotate_left
    · intro w'
      go_simp
      with_reducible rfl
    rotate_left
    · simp only [Act.put, List.setIfInBounds_toArray, List.set_cons_zero, List.set_cons_succ, i64_w, i32_w]
      rfl
    refine pure_ (i := 3) (N := some 64) (v := ?_) (a' := ?_) #[true, true, true, true, false, false, false, false, false, false, false, false, false, false, false, false, false, false, false, false, false, false, false, false, false, false, false, false] rfl rfl (by kernel_rfl) (fun _ _ _ h => h) (Or.inl ⟨by rfl, ?_⟩) ?_ ?_
    rotate_left
    · intro w'
      go_simp
      with_reducible rfl
    rotate_left
    · simp only [Act.put, List.setIfInBounds_toArray, List.set_cons_zero, List.set_cons_succ, i64_w, i32_w]
      rfl
    refine pure_ (i := 4) (N := some 65) (v := ?_) (a' := ?_) #[true, true, true, true, true, false, false, false, false, false, false, false, false, false, false, false, false, false, false, false, false, false, false, false, false, false, false, false] rfl rfl (by kernel_rfl) (fun _ _ _ h => h) (Or.inl ⟨by rfl, ?_⟩) ?_ ?_
    rotate_left
    · intro w'
      go_simp
      with_reducible rfl
    rotate_left
    · simp only [Act.put, List.setIfInBounds_toArray, List.set_cons_zero, List.set_cons_succ, i64_w, i32_w]
      rfl
    refine pure_ (i := 5) (N := some 66) (v := undef) (a' := ?_) #[true, true, true, true, true, true, false, false, false, false, false, false, false, false, false, false, false, false, false, false, false, false, false, false, false, false, false, false] rfl rfl (by kernel_rfl) (fun _ _ _ h => h) (Or.inr ⟨by rfl, rfl⟩) ?_ ?_
    rotate_left
    · simp only [Act.put, List.setIfInBounds_toArray, List.set_cons_zero, List.set_cons_succ, i64_w, i32_w]
      rfl
    refine pure_ (i := 6) (N := some 67) (v := undef) (a' := ?_) #[true, true, true, true, true, true, true, false, false, false, false, false, false, false, false, false, false, false, false, false, false, false, false, false, false, false, false, false] rfl rfl (by kernel_rfl) (fun _ _ _ h => h) (Or.inr ⟨by rfl, rfl⟩) ?_ ?_
    rotate_left
    · simp only [Act.put, List.setIfInBounds_toArray, List.set_cons_zero, List.set_cons_succ, i64_w, i32_w]
      rfl
    refine pure_ (i := 7) (N := some 68) (v := undef) (a' := ?_) #[true, true, true, true, true, true, true, true, false, false, false, false, false, false, false, false, false, false, false, false, false, false, false, false, false, false, false, false] rfl rfl (by kernel_rfl) (fun _ _ _ h => h) (Or.inr ⟨by rfl, rfl⟩) ?_ ?_
    rotate_left
    · simp only [Act.put, List.setIfInBounds_toArray, List.set_cons_zero, List.set_cons_succ, i64_w, i32_w]
      rfl
    refine pure_ (i := 8) (N := some 69) (v := undef) (a' := ?_) #[true, true, true, true, true, true, true, true, true, false, false, false, false, false, false, false, false, false, false, false, false, false, false, false, false, false, false, false] rfl rfl (by kernel_rfl) (fun _ _ _ h => h) (Or.inr ⟨by rfl, rfl⟩) ?_ ?_
    rotate_left
    · simp only [Act.put, List.setIfInBounds_toArray, List.set_cons_zero, List.set_cons_succ, i64_w, i32_w]
      rfl
    refine pure_ (i := 9) (N := some 70) (v := undef) (a' := ?_) #[true, true, true, true, true, true, true, true, true, true, false, false, false, false, false, false, false, false, false, false, false, false, false, false, false, false, false, false] rfl rfl (by kernel_rfl) (fun _ _ _ h => h) (Or.inr ⟨by rfl, rfl⟩) ?_ ?_
    rotate_left
    · simp only [Act.put, List.setIfInBounds_toArray, List.set_cons_zero, List.set_cons_succ, i64_w, i32_w]
      rfl
    refine pure_ (i := 10) (N := some 71) (v := undef) (a' := ?_) #[true, true, true, true, true, true, true, true, true, true, true, false, false, false, false, false, false, false, false, false, false, false, false, false, false, false, false, false] rfl rfl (by kernel_rfl) (fun _ _ _ h => h) (Or.inr ⟨by rfl, rfl⟩) ?_ ?_
    rotate_left
    · simp only [Act.put, List.setIfInBounds_toArray, List.set_cons_zero, List.set_cons_succ, i64_w, i32_w]
      rfl
    refine pure_ (i := 11) (N := some 72) (v := undef) (a' := ?_) #[true, true, true, true, true, true, true, true, true, true, true, true, false, false, false, false, false, false, false, false, false, false, false, false, false, false, false, false] rfl rfl (by kernel_rfl) (fun _ _ _ h => h) (Or.inr ⟨by rfl, rfl⟩) ?_ ?_
    rotate_left
    · simp only [Act.put, List.setIfInBounds_toArray, List.set_cons_zero, List.set_cons_succ, i64_w, i32_w]
      rfl
    refine pure_ (i := 12) (N := some 73) (v := undef) (a' := ?_) #[true, true, true, true, true, true, true, true, true, true, true, true, true, false, false, false, false, false, false, false, false, false, false, false, false, false, false, false] rfl rfl (by kernel_rfl) (fun _ _ _ h => h) (Or.inr ⟨by rfl, rfl⟩) ?_ ?_
    rotate_left
    · simp only [Act.put, List.setIfInBounds_toArray, List.set_cons_zero, List.set_cons_succ, i64_w, i32_w]
      rfl
    refine pure_ (i := 13) (N := some 74) (v := undef) (a' := ?_) #[true, true, true, true, true, true, true, true, true, true, true, true, true, true, false, false, false, false, false, false, false, false, false, false, false, false, false, false] rfl rfl (by kernel_rfl) (fun _ _ _ h => h) (Or.inr ⟨by rfl, rfl⟩) ?_ ?_
    rotate_left
    · simp only [Act.put, List.setIfInBounds_toArray, List.set_cons_zero, List.set_cons_succ, i64_w, i32_w]
      rfl
    refine pure_ (i := 14) (N := some 75) (v := ?_) (a' := ?_) #[true, true, true, true, true, true, true, true, true, true, true, true, true, true, true, false, false, false, false, false, false, false, false, false, false, false, false, false] rfl rfl (by kernel_rfl) (fun _ _ _ h => h) (Or.inl ⟨by rfl, ?_⟩) ?_ ?_
    rotate_left
    · intro w'
      go_simp
      with_reducible rfl
    rotate_left
    · simp only [Act.put, List.setIfInBounds_toArray, List.set_cons_zero, List.set_cons_succ, i64_w, i32_w]
      rfl
    refine pure_ (i := 15) (N := some 76) (v := ?_) (a' := ?_) #[true, true, true, true, true, true, true, true, true, true, true, true, true, true, true, true, false, false, false, false, false, false, false, false, false, false, false, false] rfl rfl (by kernel_rfl) (fun _ _ _ h => h) (Or.inl ⟨by rfl, ?_⟩) ?_ ?_
    rotate_left
    · intro w'
      go_simp
      with_reducible rfl
    rotate_left
    · simp only [Act.put, List.setIfInBounds_toArray, List.set_cons_zero, List.set_cons_succ, i64_w, i32_w]
      rfl
    refine pure_ (i := 16) (N := some 77) (v := undef) (a' := ?_) #[true, true, true, true, true, true, true, true, true, true, true, true, true, true, true, true, true, false, false, false, false, false, false, false, false, false, false, false] rfl rfl (by kernel_rfl) (fun _ _ _ h => h) (Or.inr ⟨by rfl, rfl⟩) ?_ ?_
    rotate_left
    · simp only [Act.put, List.setIfInBounds_toArray, List.set_cons_zero, List.set_cons_succ, i64_w, i32_w]
      rfl
    refine pure_ (i := 17) (N := some 78) (v := undef) (a' := ?_) #[true, true, true, true, true, true, true, true, true, true, true, true, true, true, true, true, true, true, false, false, false, false, false, false, false, false, false, false] rfl rfl (by kernel_rfl) (fun _ _ _ h => h) (Or.inr ⟨by rfl, rfl⟩) ?_ ?_
    rotate_left
    · simp only [Act.put, List.setIfInBounds_toArray, List.set_cons_zero, List.set_cons_succ, i64_w, i32_w]
      rfl
    refine pure_ (i := 18) (N := some 79) (v := undef) (a' := ?_) #[true, true, true, true, true, true, true, true, true, true, true, true, true, true, true, true, true, true, true, false, false, false, false, false, false, false, false, false] rfl rfl (by kernel_rfl) (fun _ _ _ h => h) (Or.inr ⟨by rfl, rfl⟩) ?_ ?_
    rotate_left
    · simp only [Act.put, List.setIfInBounds_toArray, List.set_cons_zero, List.set_cons_succ, i64_w, i32_w]
      rfl
    refine pure_ (i := 19) (N := some 80) (v := undef) (a' := ?_) #[true, true, true, true, true, true, true, true, true, true, true, true, true, true, true, true, true, true, true, true, false, false, false, false, false, false, false, false] rfl rfl (by kernel_rfl) (fun _ _ _ h => h) (Or.inr ⟨by rfl, rfl⟩) ?_ ?_
    rotate_left
    · simp only [Act.put, List.setIfInBounds_toArray, List.set_cons_zero, List.set_cons_succ, i64_w, i32_w]
      rfl
    refine pure_ (i := 20) (N := some 81) (v := undef) (a' := ?_) #[true, true, true, true, true, true, true, true, true, true, true, true, true, true, true, true, true, true, true, true, true, false, false, false, false, false, false, false] rfl rfl (by kernel_rfl) (fun _ _ _ h => h) (Or.inr ⟨by rfl, rfl⟩) ?_ ?_
    rotate_left
    · simp only [Act.put, List.setIfInBounds_toArray, List.set_cons_zero, List.set_cons_succ, i64_w, i32_w]
      rfl
    refine pure_ (i := 21) (N := some 82) (v := undef) (a' := ?_) #[true, true, true, true, true, true, true, true, true, true, true, true, true, true, true, true, true, true, true, true, true, true, false, false, false, false, false, false] rfl rfl (by kernel_rfl) (fun _ _ _ h => h) (Or.inr ⟨by rfl, rfl⟩) ?_ ?_
    rotate_left
    · simp only [Act.put, List.setIfInBounds_toArray, List.set_cons_zero, List.set_cons_succ, i64_w, i32_w]
      rfl
    refine pure_ (i := 22) (N := some 83) (v := undef) (a' := ?_) #[true, true, true, true, true, true, true, true, true, true, true, true, true, true, true, true, true, true, true, true, true, true, true, false, false, false, false, false] rfl rfl (by kernel_rfl) (fun _ _ _ h => h) (Or.inr ⟨by rfl, rfl⟩) ?_ ?_
    rotate_left
    · simp only [Act.put, List.setIfInBounds_toArray, List.set_cons_zero, List.set_cons_succ, i64_w, i32_w]
      rfl
    refine pure_ (i := 23) (N := some 84) (v := undef) (a' := ?_) #[true, true, true, true, true, true, true, true, true, true, true, true, true, true, true, true, true, true, true, true, true, true, true, true, false, false, false, false] rfl rfl (by kernel_rfl) (fun _ _ _ h => h) (Or.inr ⟨by rfl, rfl⟩) ?_ ?_
    rotate_left
    · simp only [Act.put, List.setIfInBounds_toArray, List.set_cons_zero, List.set_cons_succ, i64_w, i32_w]
      rfl
    refine pure_ (i := 24) (N := some 85) (v := undef) (a' := ?_) #[true, true, true, true, true, true, true, true, true, true, true, true, true, true, true, true, true, true, true, true, true, true, true, true, true, false, false, false] rfl rfl (by kernel_rfl) (fun _ _ _ h => h) (Or.inr ⟨by rfl, rfl⟩) ?_ ?_
    rotate_left
    · simp only [Act.put, List.setIfInBounds_toArray, List.set_cons_zero, List.set_cons_succ, i64_w, i32_w]
      rfl
    refine pure_ (i := 25) (N := some 86) (v := undef) (a' := ?_) #[true, true, true, true, true, true, true, true, true, true, true, true, true, true, true, true, true, true, true, true, true, true, true, true, true, true, false, false] rfl rfl (by kernel_rfl) (fun _ _ _ h => h) (Or.inr ⟨by rfl, rfl⟩) ?_ ?_
    rotate_left
    · simp only [Act.put, List.setIfInBounds_toArray, List.set_cons_zero, List.set_cons_succ, i64_w, i32_w]
      rfl
    refine pure_ (i := 26) (N := some 87) (v := ?_) (a' := ?_) #[true, true, true, true, true, true, true, true, true, true, true, true, true, true, true, true, true, true, true, true, true, true, true, true, true, true, true, false] rfl rfl (by kernel_rfl) (fun _ _ _ h => h) (Or.inl ⟨by rfl, ?_⟩) ?_ ?_
    rotate_left
    · intro w'
      go_simp
      with_reducible rfl
    rotate_left
    · simp only [Act.put, List.setIfInBounds_toArray, List.set_cons_zero, List.set_cons_succ, i64_w, i32_w]
      rfl
    refine pure_ (i := 27) (N := some 2) (v := ?_) (a' := ?_) #[true, true, true, true, true, true, true, true, true, true, true, true, true, true, true, true, true, true, true, true, true, true, true, true, true, true, true, true] rfl rfl (by kernel_rfl) (fun _ _ _ h => h) (Or.inl ⟨by rfl, ?_⟩) ?_ ?_
    rotate_left
    · intro w'
      go_simp
      with_reducible rfl
    rotate_left
    · simp only [Act.put, List.setIfInBounds_toArray, List.set_cons_zero, List.set_cons_succ, i64_w, i32_w]
      rfl
    refine done_ (by kernel_rfl) ?_
    go_wp2
    go_ret
    exact ⟨by rw [HDD.out]; rfl, hb.trans (hbR.mono hb.size)⟩
  | true =>
  obtain ⟨m, hm⟩ : ∃ m : Nat, Hid (bytesOf x.f1 x.f2 = (m : Int)) := ⟨(bytesOf x.f1 x.f2).toNat, Lib.hid (by have := bytesOf_nonneg x.f1 x.f2 r0; omega)⟩
  cases b2 : ((x.f3.length : Int) == (m : Int)) with
  | false =>
    have HDD : Hid (listV x = false) := Lib.hid (by rw [HD1c.out, b1, hm.out, b2]; rfl)
    clear HD1c
    go_enter Tryd.func22, Tryd.ntmps22
    go_upto_region 8 with fail
    refine wp_at (fun W1 hW => ?_)
    have hb : Below W.heap.size W W1 := by rw [hW]; exact (Below.refl _ _).alloc (Nat.le_refl _) _
    have hB : W1.heap[W.heap.size]? = some (.cells #[.int .i64 x.f0, .int .i64 x.f1, .int .i64 x.f2, .slice A3 x.f3.length c3, .slice A4 x.f4.length c4] 25 (0, 0)) := by rw [hW]; exact heap_alloc_new _ _
    clear hW
    have l_b := blk_lt hB
    have q0 : W1.cell? ⟨W.heap.size, 0, none⟩ = some (.int .i64 x.f0) := (blk_cell hB 0).trans rfl
    have q1 : W1.cell? ⟨W.heap.size, 1, none⟩ = some (.int .i64 x.f1) := (blk_cell hB 1).trans rfl
    have q2 : W1.cell? ⟨W.heap.size, 2, none⟩ = some (.int .i64 x.f2) := (blk_cell hB 2).trans rfl
    have q3 : W1.cell? ⟨W.heap.size, 3, none⟩ = some (.slice A3 x.f3.length c3) := (blk_cell hB 3).trans rfl
    have q4 : W1.cell? ⟨W.heap.size, 4, none⟩ = some (.slice A4 x.f4.length c4) := (blk_cell hB 4).trans rfl
    clear hB
    refine start_ (n := 28) (S := fun w' => w'.cell? ⟨W.heap.size, 0, none⟩ = some (.int .i64 x.f0) ∧ w'.cell? ⟨W.heap.size, 1, none⟩ = some (.int .i64 x.f1) ∧ w'.cell? ⟨W.heap.size, 2, none⟩ = some (.int .i64 x.f2) ∧ w'.cell? ⟨W.heap.size, 3, none⟩ = some (.slice A3 x.f3.length c3) ∧ w'.cell? ⟨W.heap.size, 4, none⟩ = some (.slice A4 x.f4.length c4)) (ds := []) #[false, false, false, false, false, false, false, false, false, false, false, false, false, false, false, false, false, false, false, false, false, false, false, false, false, false, false, false] (by kernel_rfl) rfl rfl ⟨q0, q1, q2, q3, q4⟩ (fun hHeld => ?_)
    obtain ⟨wd, hwd⟩ : ∃ W', W' = W1.drew := ⟨_, rfl⟩
    rw [← hwd] at hHeld ⊢
    have hbR : Below W1.heap.size W1 wd := by rw [hwd]; exact (Below.refl _ _).drew
    clear hwd
    refine pure_ (i := 0) (N := some 61) (v := ?_) (a' := ?_) #[true, false, false, false, false, false, false, false, false, false, false, false, false, false, false, false, false, false, false, false, false, false, false, false, false, false, false, false] rfl rfl (by kernel_rfl) (fun _ _ _ h => h) (Or.inl ⟨by rfl, ?_⟩) ?_ ?_
    rotate_left
    · intro w'
      go_simp
      with_reducible rfl
    rotate_left
    · simp only [Act.put, List.setIfInBounds_toArray, List.set_cons_zero, List.set_cons_succ, i64_w, i32_w]
      rfl
    refine take_ (i := 1) (N := some 62) (v := ?_) (a' := ?_) #[true, true, false, false, false, false, false, false, false, false, false, false, false, false, false, false, false, false, false, false, false, false, false, false, false, false, false, false] rfl rfl (by kernel_rfl) (fun _ _ _ h => h) (Or.inl ⟨by rfl, ?_⟩) hHeld ?_ ?_
    rotate_left
    · rintro w' ⟨s0, s1, s2, s3, s4⟩
      go_simp
      with_reducible rfl
    rotate_left
    · simp only [Act.put, List.setIfInBounds_toArray, List.set_cons_zero, List.set_cons_succ, i64_w, i32_w]
      rfl
    refine pure_ (i := 2) (N := some 63) (v := ?_) (a' := ?_) #[true, true, true, false, false, false, false, false, false, false, false, false, false, false, false, false, false, false, false, false, false, false, false, false, false, false, false, false] rfl rfl (by kernel_rfl) (fun _ _ _ h => h) (Or.inl ⟨by rfl, ?_⟩) ?_ ?_
    rotate_left
    · intro w'
      go_simp
      with_reducible rfl
    rotate_left
    · simp only [Act.put, List.setIfInBounds_toArray, List.set_cons_zero, List.set_cons_succ, i64_w, i32_w]
      rfl
    refine pure_ (i := 3) (N := some 64) (v := ?_) (a' := ?_) #[true, true, true, true, false, false, false, false, false, false, false, false, false, false, false, false, false, false, false, false, false, false, false, false, false, false, false, false] rfl rfl (by kernel_rfl) (fun _ _ _ h => h) (Or.inl ⟨by rfl, ?_⟩) ?_ ?_
    rotate_left
    · intro w'
      go_simp
      with_reducible rfl
    rotate_left
    · simp only [Act.put, List.setIfInBounds_toArray, List.set_cons_zero, List.set_cons_succ, i64_w, i32_w]
      rfl
    refine pure_ (i := 4) (N := some 65) (v := ?_) (a' := ?_) #[true, true, true, true, true, false, false, false, false, false, false, false, false, false, false, false, false, false, false, false, false, false, false, false, false, false, false, false] rfl rfl (by kernel_rfl) (fun _ _ _ h => h) (Or.inl ⟨by rfl, ?_⟩) ?_ ?_
    rotate_left
    · intro w'
      go_simp
      with_reducible rfl
    rotate_left
    · simp only [Act.put, List.setIfInBounds_toArray, List.set_cons_zero, List.set_cons_succ, i64_w, i32_w]
      rfl
    refine pure_ (i := 5) (N := some 66) (v := ?_) (a' := ?_) #[true, true, true, true, true, true, false, false, false, false, false, false, false, false, false, false, false, false, false, false, false, false, false, false, false, false, false, false] rfl rfl (by kernel_rfl) (fun _ _ _ h => h) (Or.inl ⟨by rfl, ?_⟩) ?_ ?_
    rotate_left
    · intro w'
      go_simp
      with_reducible rfl
    rotate_left
    · simp only [Act.put, List.setIfInBounds_toArray, List.set_cons_zero, List.set_cons_succ, i64_w, i32_w]
      rfl
    refine pure_ (i := 8) (N := some 69) (v := ?_) (a' := ?_) #[true, true, true, true, true, true, false, false, true, false, false, false, false, false, false, false, false, false, false, false, false, false, false, false, false, false, false, false] rfl rfl (by kernel_rfl) (fun _ _ _ h => h) (Or.inl ⟨by rfl, ?_⟩) ?_ ?_
    rotate_left
    · intro w'
      go_simp
      with_reducible rfl
    rotate_left
    · simp only [Act.put, List.setIfInBounds_toArray, List.set_cons_zero, List.set_cons_succ, i64_w, i32_w]
      rfl
    refine pure_ (i := 10) (N := some 71) (v := ?_) (a' := ?_) #[true, true, true, true, true, true, false, false, true, false, true, false, false, false, false, false, false, false, false, false, false, false, false, false, false, false, false, false] rfl rfl (by kernel_rfl) (fun _ _ _ h => h) (Or.inl ⟨by rfl, ?_⟩) ?_ ?_
    rotate_left
    · intro w'
      go_simp
      with_reducible rfl
    rotate_left
    · simp only [Act.put, List.setIfInBounds_toArray, List.set_cons_zero, List.set_cons_succ, i64_w, i32_w]
      rfl
    refine take_ (i := 6) (N := some 67) (v := ?_) (a' := ?_) #[true, true, true, true, true, true, true, false, true, false, true, false, false, false, false, false, false, false, false, false, false, false, false, false, false, false, false, false] rfl rfl (by kernel_rfl) (fun _ _ _ h => h) (Or.inl ⟨by rfl, ?_⟩) hHeld ?_ ?_
    rotate_left
    · rintro w' ⟨s0, s1, s2, s3, s4⟩
      go_simp
      with_reducible rfl
    rotate_left
    · simp only [Act.put, List.setIfInBounds_toArray, List.set_cons_zero, List.set_cons_succ, i64_w, i32_w]
      rfl
    refine pure_ (i := 7) (N := some 68) (v := ?_) (a' := ?_) #[true, true, true, true, true, true, true, true, true, false, true, false, false, false, false, false, false, false, false, false, false, false, false, false, false, false, false, false] rfl rfl (by kernel_rfl) (fun _ _ _ h => h) (Or.inl ⟨by rfl, ?_⟩) ?_ ?_
    rotate_left
    · intro w'
      go_simp
      with_reducible rfl
    rotate_left
    · simp only [Act.put, List.setIfInBounds_toArray, List.set_cons_zero, List.set_cons_succ, i64_w, i32_w]
      rfl
    refine take_ (i := 9) (N := some 70) (v := ?_) (a' := ?_) #[true, true, true, true, true, true, true, true, true, true, true, false, false, false, false, false, false, false, false, false, false, false, false, false, false, false, false, false] rfl rfl (by kernel_rfl) (fun _ _ _ h => h) (Or.inl ⟨by rfl, ?_⟩) hHeld ?_ ?_
    rotate_left
    · rintro w' ⟨s0, s1, s2, s3, s4⟩
      go_simp
      with_reducible rfl
    rotate_left
    · simp only [Act.put, List.setIfInBounds_toArray, List.set_cons_zero, List.set_cons_succ, i64_w, i32_w]
      rfl
    refine take_ (i := 11) (N := some 72) (v := ?_) (a' := ?_) #[true, true, true, true, true, true, true, true, true, true, true, true, false, false, false, false, false, false, false, false, false, false, false, false, false, false, false, false] rfl rfl (by kernel_rfl) (fun _ _ _ h => h) (Or.inl ⟨by rfl, ?_⟩) hHeld ?_ ?_
    rotate_left
    · rintro w' ⟨s0, s1, s2, s3, s4⟩
      go_simp
      with_reducible rfl
    rotate_left
    · simp only [Act.put, List.setIfInBounds_toArray, List.set_cons_zero, List.set_cons_succ, i64_w, i32_w]
      rfl
    refine one_ (i := 12) (N := some 73) #[true, true, true, true, true, true, true, true, true, true, true, true, true, false, false, false, false, false, false, false, false, false, false, false, false, false, false, false] rfl rfl (by kernel_rfl) (by decide) (fun K hK => ?_)
    refine goes_ Tryd.func32 (by kernel_rfl) rfl #[.int .i64 x.f1, .int .i64 x.f2] (by rfl) rfl rfl (by simp only [List.map_toArray, List.map_cons, List.map_nil]; rfl) ?_
    with_reducible refine (Ls.bytes_any x.f1 x.f2 p0 (by omega) r0 (by omega) _ (HT.out.below (hb.trans (hbR.mono hb.size)))).mono ?_
    rintro e r1_ ⟨rfl, rfl⟩
    rw [bytes_same, hm.out]
    refine ⟨_, rfl, ?_⟩
    refine hK.out _ _ ⟨(hbR.cell (p := ⟨W.heap.size, 0, none⟩) l_b).trans q0, (hbR.cell (p := ⟨W.heap.size, 1, none⟩) l_b).trans q1, (hbR.cell (p := ⟨W.heap.size, 2, none⟩) l_b).trans q2, (hbR.cell (p := ⟨W.heap.size, 3, none⟩) l_b).trans q3, (hbR.cell (p := ⟨W.heap.size, 4, none⟩) l_b).trans q4⟩ (fun hHeld => ?_)
    clear hK K
    refine norm_ (a' := ?_) ?_ ?_
    rotate_left
    · show Act.put _ (some 73) _ = _
      simp only [Act.put, List.setIfInBounds_toArray, List.set_cons_zero, List.set_cons_succ, i64_w, i32_w]
      rfl
    refine pure_ (i := 13) (N := some 74) (v := ?_) (a' := ?_) #[true, true, true, true, true, true, true, true, true, true, true, true, true, true, false, false, false, false, false, false, false, false, false, false, false, false, false, false] rfl rfl (by kernel_rfl) (fun _ _ _ h => h) (Or.inl ⟨by rfl, ?_⟩) ?_ ?_
    rotate_left
    · intro w'
      go_simp
      with_reducible rfl
    rotate_left
    · simp only [Act.put, List.setIfInBounds_toArray, List.set_cons_zero, List.set_cons_succ, i64_w, i32_w]
      rfl
    refine pure_ (i := 14) (N := some 75) (v := ?_) (a' := ?_) #[true, true, true, true, true, true, true, true, true, true, true, true, true, true, true, false, false, false, false, false, false, false, false, false, false, false, false, false] rfl rfl (by kernel_rfl) (fun _ _ _ h => h) (Or.inl ⟨by rfl, ?_⟩) ?_ ?_
    rotate_left
    · intro w'
      go_simp
      with_reducible rfl
    rotate_left
    · simp only [Act.put, List.setIfInBounds_toArray, List.set_cons_zero, List.set_cons_succ, i64_w, i32_w]
      rfl
    refine pure_ (i := 15) (N := some 76) (v := ?_) (a' := ?_) #[true, true, true, true, true, true, true, true, true, true, true, true, true, true, true, true, false, false, false, false, false, false, false, false, false, false, false, false] rfl rfl (by kernel_rfl) (fun _ _ _ h => h) (Or.inl ⟨by rfl, ?_⟩) ?_ ?_
    rotate_left
    · intro w'
      go_simp
      with_reducible rfl
    rotate_left
    · simp only [Act.put, List.setIfInBounds_toArray, List.set_cons_zero, List.set_cons_succ, i64_w, i32_w]
      rfl
    refine pure_ (i := 16) (N := some 77) (v := undef) (a' := ?_) #[true, true, true, true, true, true, true, true, true, true, true, true, true, true, true, true, true, false, false, false, false, false, false, false, false, false, false, false] rfl rfl (by kernel_rfl) (fun _ _ _ h => h) (Or.inr ⟨by rfl, rfl⟩) ?_ ?_
    rotate_left
    · simp only [Act.put, List.setIfInBounds_toArray, List.set_cons_zero, List.set_cons_succ, i64_w, i32_w]
      rfl
    refine pure_ (i := 17) (N := some 78) (v := undef) (a' := ?_) #[true, true, true, true, true, true, true, true, true, true, true, true, true, true, true, true, true, true, false, false, false, false, false, false, false, false, false, false] rfl rfl (by kernel_rfl) (fun _ _ _ h => h) (Or.inr ⟨by rfl, rfl⟩) ?_ ?_
    rotate_left
    · simp only [Act.put, List.setIfInBounds_toArray, List.set_cons_zero, List.set_cons_succ, i64_w, i32_w]
      rfl
    refine pure_ (i := 18) (N := some 79) (v := undef) (a' := ?_) #[true, true, true, true, true, true, true, true, true, true, true, true, true, true, true, true, true, true, true, false, false, false, false, false, false, false, false, false] rfl rfl (by kernel_rfl) (fun _ _ _ h => h) (Or.inr ⟨by rfl, rfl⟩) ?_ ?_
    rotate_left
    · simp only [Act.put, List.setIfInBounds_toArray, List.set_cons_zero, List.set_cons_succ, i64_w, i32_w]
      rfl
    refine pure_ (i := 19) (N := some 80) (v := undef) (a' := ?_) #[true, true, true, true, true, true, true, true, true, true, true, true, true, true, true, true, true, true, true, true, false, false, false, false, false, false, false, false] rfl rfl (by kernel_rfl) (fun _ _ _ h => h) (Or.inr ⟨by rfl, rfl⟩) ?_ ?_
    rotate_left
    · simp only [Act.put, List.setIfInBounds_toArray, List.set_cons_zero, List.set_cons_succ, i64_w, i32_w]
      rfl
    refine pure_ (i := 20) (N := some 81) (v := undef) (a' := ?_) #[true, true, true, true, true, true, true, true, true, true, true, true, true, true, true, true, true, true, true, true, true, false, false, false, false, false, false, false] rfl rfl (by kernel_rfl) (fun _ _ _ h => h) (Or.inr ⟨by rfl, rfl⟩) ?_ ?_
    rotate_left
    · simp only [Act.put, List.setIfInBounds_toArray, List.set_cons_zero, List.set_cons_succ, i64_w, i32_w]
      rfl
    refine pure_ (i := 21) (N := some 82) (v := undef) (a' := ?_) #[true, true, true, true, true, true, true, true, true, true, true, true, true, true, true, true, true, true, true, true, true, true, false, false, false, false, false, false] rfl rfl (by kernel_rfl) (fun _ _ _ h => h) (Or.inr ⟨by rfl, rfl⟩) ?_ ?_
    rotate_left
    · simp only [Act.put, List.setIfInBounds_toArray, List.set_cons_zero, List.set_cons_succ, i64_w, i32_w]
      rfl
    refine pure_ (i := 22) (N := some 83) (v := undef) (a' := ?_) #[true, true, true, true, true, true, true, true, true, true, true, true, true, true, true, true, true, true, true, true, true, true, true, false, false, false, false, false] rfl rfl (by kernel_rfl) (fun _ _ _ h => h) (Or.inr ⟨by rfl, rfl⟩) ?_ ?_
    rotate_left
    · simp only [Act.put, List.setIfInBounds_toArray, List.set_cons_zero, List.set_cons_succ, i64_w, i32_w]
      rfl
    refine pure_ (i := 23) (N := some 84) (v := undef) (a' := ?_) #[true, true, true, true, true, true, true, true, true, true, true, true, true, true, true, true, true, true, true, true, true, true, true, true, false, false, false, false] rfl rfl (by kernel_rfl) (fun _ _ _ h => h) (Or.inr ⟨by rfl, rfl⟩) ?_ ?_
    rotate_left
    · simp only [Act.put, List.setIfInBounds_toArray, List.set_cons_zero, List.set_cons_succ, i64_w, i32_w]
      rfl
    refine pure_ (i := 24) (N := some 85) (v := undef) (a' := ?_) #[true, true, true, true, true, true, true, true, true, true, true, true, true, true, true, true, true, true, true, true, true, true, true, true, true, false, false, false] rfl rfl (by kernel_rfl) (fun _ _ _ h => h) (Or.inr ⟨by rfl, rfl⟩) ?_ ?_
    rotate_left
    · simp only [Act.put, List.setIfInBounds_toArray, List.set_cons_zero, List.set_cons_succ, i64_w, i32_w]
      rfl
    refine pure_ (i := 25) (N := some 86) (v := undef) (a' := ?_) #[true, true, true, true, true, true, true, true, true, true, true, true, true, true, true, true, true, true, true, true, true, true, true, true, true, true, false, false] rfl rfl (by kernel_rfl) (fun _ _ _ h => h) (Or.inr ⟨by rfl, rfl⟩) ?_ ?_
    rotate_left
    · simp only [Act.put, List.setIfInBounds_toArray, List.set_cons_zero, List.set_cons_succ, i64_w, i32_w]
      rfl
    refine pure_ (i := 26) (N := some 87) (v := ?_) (a' := ?_) #[true, true, true, true, true, true, true, true, true, true, true, true, true, true, true, true, true, true, true, true, true, true, true, true, true, true, true, false] rfl rfl (by kernel_rfl) (fun _ _ _ h => h) (Or.inl ⟨by rfl, ?_⟩) ?_ ?_
    rotate_left
    · intro w'
      go_simp
      with_reducible rfl
    rotate_left
    · simp only [Act.put, List.setIfInBounds_toArray, List.set_cons_zero, List.set_cons_succ, i64_w, i32_w]
      rfl
    refine pure_ (i := 27) (N := some 2) (v := ?_) (a' := ?_) #[true, true, true, true, true, true, true, true, true, true, true, true, true, true, true, true, true, true, true, true, true, true, true, true, true, true, true, true] rfl rfl (by kernel_rfl) (fun _ _ _ h => h) (Or.inl ⟨by rfl, ?_⟩) ?_ ?_
    rotate_left
    · intro w'
      go_simp
      with_reducible rfl
    rotate_left
    · simp only [Act.put, List.setIfInBounds_toArray, List.set_cons_zero, List.set_cons_succ, i64_w, i32_w]
      rfl
    refine done_ (by kernel_rfl) ?_
    go_wp2
    go_ret
    exact ⟨by rw [HDD.out]; rfl, hb.trans (hbR.mono hb.size)⟩
  | true =>
    have hmx : m = x.f3.length := by have := beq_iff_eq.1 b2; omega
    have hmx' := Lib.hid hmx
    have HDD : Hid (listV x = decide (rL x.f1 x.f2 x.f3 x.f3.length = x.f3)) := Lib.hid (by rw [HD1c.out, b1, hm.out, b2]; rfl)
    clear HD1c hmx
    have hA : A3 = none → x.f3.length = 0 := fun h => by
      rcases Nat.eq_zero_or_pos x.f3.length with h0 | h0
      · exact h0
      · obtain ⟨ad, e, _⟩ := H3.out.2.2 h0
        rw [h] at e
        cases e
    have hbnd : x.f3.length ≤ 140737488355328 := by have := bytesOf_le x.f1 x.f2 r0 (by omega); have := hm.out; have := hmx'.out; omega
    have hlst : Ls.trimL x.f1 x.f2 x.f3 = rL x.f1 x.f2 x.f3 x.f3.length := (rL_eq x.f1 x.f2 p0 p5 r0 x.f3 x.f3.length (by have := hm.out; have := hmx'.out; omega) (Nat.le_refl _)).symm
    obtain ⟨ys, hys⟩ : ∃ ys, rL x.f1 x.f2 x.f3 x.f3.length = ys := ⟨_, rfl⟩
    have hyl : ys.length = x.f3.length := by rw [← hys]; exact rL_length _ _ _ _
    have hyr : ∀ y ∈ ys, 0 ≤ y ∧ y ≤ 255 := by rw [← hys]; exact rL_range HX.out (Nat.le_refl _)
    have HLS := Lib.hid (hlst.trans hys)
    have HDY : Hid (listV x = decide (ys = x.f3)) := Lib.hid (by rw [HDD.out, hys])
    have HYL := Lib.hid hyl; have HYR := Lib.hid hyr
    clear HDD hlst hys hyl hyr
    go_enter Tryd.func22, Tryd.ntmps22
    go_upto_region 8 with fail
    refine wp_at (fun W1 hW => ?_)
    have hb : Below W.heap.size W W1 := by rw [hW]; exact (Below.refl _ _).alloc (Nat.le_refl _) _
    have hB : W1.heap[W.heap.size]? = some (.cells #[.int .i64 x.f0, .int .i64 x.f1, .int .i64 x.f2, .slice A3 x.f3.length c3, .slice A4 x.f4.length c4] 25 (0, 0)) := by rw [hW]; exact heap_alloc_new _ _
    clear hW
    have l_b := blk_lt hB
    have q0 : W1.cell? ⟨W.heap.size, 0, none⟩ = some (.int .i64 x.f0) := (blk_cell hB 0).trans rfl
    have q1 : W1.cell? ⟨W.heap.size, 1, none⟩ = some (.int .i64 x.f1) := (blk_cell hB 1).trans rfl
    have q2 : W1.cell? ⟨W.heap.size, 2, none⟩ = some (.int .i64 x.f2) := (blk_cell hB 2).trans rfl
    have q3 : W1.cell? ⟨W.heap.size, 3, none⟩ = some (.slice A3 x.f3.length c3) := (blk_cell hB 3).trans rfl
    have q4 : W1.cell? ⟨W.heap.size, 4, none⟩ = some (.slice A4 x.f4.length c4) := (blk_cell hB 4).trans rfl
    clear hB
    have HRd := Lib.hid (Rd_of_C H3.out HX.out)
    refine start_ (n := 28) (S := fun w' => w'.cell? ⟨W.heap.size, 0, none⟩ = some (.int .i64 x.f0) ∧ w'.cell? ⟨W.heap.size, 1, none⟩ = some (.int .i64 x.f1) ∧ w'.cell? ⟨W.heap.size, 2, none⟩ = some (.int .i64 x.f2) ∧ w'.cell? ⟨W.heap.size, 3, none⟩ = some (.slice A3 x.f3.length c3) ∧ w'.cell? ⟨W.heap.size, 4, none⟩ = some (.slice A4 x.f4.length c4)) (ds := []) #[false, false, false, false, false, false, false, false, false, false, false, false, false, false, false, false, false, false, false, false, false, false, false, false, false, false, false, false] (by kernel_rfl) rfl rfl ⟨q0, q1, q2, q3, q4⟩ (fun hHeld => ?_)
    obtain ⟨wd, hwd⟩ : ∃ W', W' = W1.drew := ⟨_, rfl⟩
    rw [← hwd] at hHeld ⊢
    have hbR : Below W1.heap.size W1 wd := by rw [hwd]; exact (Below.refl _ _).drew
    clear hwd
    refine pure_ (i := 0) (N := some 61) (v := ?_) (a' := ?_) #[true, false, false, false, false, false, false, false, false, false, false, false, false, false, false, false, false, false, false, false, false, false, false, false, false, false, false, false] rfl rfl (by kernel_rfl) (fun _ _ _ h => h) (Or.inl ⟨by rfl, ?_⟩) ?_ ?_
    rotate_left
    · intro w'
      go_simp
      with_reducible rfl
    rotate_left
    · simp only [Act.put, List.setIfInBounds_toArray, List.set_cons_zero, List.set_cons_succ, i64_w, i32_w]
      rfl
    refine take_ (i := 1) (N := some 62) (v := ?_) (a' := ?_) #[true, true, false, false, false, false, false, false, false, false, false, false, false, false, false, false, false, false, false, false, false, false, false, false, false, false, false, false] rfl rfl (by kernel_rfl) (fun _ _ _ h => h) (Or.inl ⟨by rfl, ?_⟩) hHeld ?_ ?_
    rotate_left
    · rintro w' ⟨s0, s1, s2, s3, s4⟩
      go_simp
      with_reducible rfl
    rotate_left
    · simp only [Act.put, List.setIfInBounds_toArray, List.set_cons_zero, List.set_cons_succ, i64_w, i32_w]
      rfl
    refine pure_ (i := 2) (N := some 63) (v := ?_) (a' := ?_) #[true, true, true, false, false, false, false, false, false, false, false, false, false, false, false, false, false, false, false, false, false, false, false, false, false, false, false, false] rfl rfl (by kernel_rfl) (fun _ _ _ h => h) (Or.inl ⟨by rfl, ?_⟩) ?_ ?_
    rotate_left
    · intro w'
      go_simp
      with_reducible rfl
    rotate_left
    · simp only [Act.put, List.setIfInBounds_toArray, List.set_cons_zero, List.set_cons_succ, i64_w, i32_w]
      rfl
    refine pure_ (i := 3) (N := some 64) (v := ?_) (a' := ?_) #[true, true, true, true, false, false, false, false, false, false, false, false, false, false, false, false, false, false, false, false, false, false, false, false, false, false, false, false] rfl rfl (by kernel_rfl) (fun _ _ _ h => h) (Or.inl ⟨by rfl, ?_⟩) ?_ ?_
    rotate_left
    · intro w'
      go_simp
      with_reducible rfl
    rotate_left
    · simp only [Act.put, List.setIfInBounds_toArray, List.set_cons_zero, List.set_cons_succ, i64_w, i32_w]
      rfl
    refine pure_ (i := 4) (N := some 65) (v := ?_) (a' := ?_) #[true, true, true, true, true, false, false, false, false, false, false, false, false, false, false, false, false, false, false, false, false, false, false, false, false, false, false, false] rfl rfl (by kernel_rfl) (fun _ _ _ h => h) (Or.inl ⟨by rfl, ?_⟩) ?_ ?_
    rotate_left
    · intro w'
      go_simp
      with_reducible rfl
    rotate_left
    · simp only [Act.put, List.setIfInBounds_toArray, List.set_cons_zero, List.set_cons_succ, i64_w, i32_w]
      rfl
    refine pure_ (i := 5) (N := some 66) (v := ?_) (a' := ?_) #[true, true, true, true, true, true, false, false, false, false, false, false, false, false, false, false, false, false, false, false, false, false, false, false, false, false, false, false] rfl rfl (by kernel_rfl) (fun _ _ _ h => h) (Or.inl ⟨by rfl, ?_⟩) ?_ ?_
    rotate_left
    · intro w'
      go_simp
      with_reducible rfl
    rotate_left
    · simp only [Act.put, List.setIfInBounds_toArray, List.set_cons_zero, List.set_cons_succ, i64_w, i32_w]
      rfl
    refine pure_ (i := 8) (N := some 69) (v := ?_) (a' := ?_) #[true, true, true, true, true, true, false, false, true, false, false, false, false, false, false, false, false, false, false, false, false, false, false, false, false, false, false, false] rfl rfl (by kernel_rfl) (fun _ _ _ h => h) (Or.inl ⟨by rfl, ?_⟩) ?_ ?_
    rotate_left
    · intro w'
      go_simp
      with_reducible rfl
    rotate_left
    · simp only [Act.put, List.setIfInBounds_toArray, List.set_cons_zero, List.set_cons_succ, i64_w, i32_w]
      rfl
    refine pure_ (i := 10) (N := some 71) (v := ?_) (a' := ?_) #[true, true, true, true, true, true, false, false, true, false, true, false, false, false, false, false, false, false, false, false, false, false, false, false, false, false, false, false] rfl rfl (by kernel_rfl) (fun _ _ _ h => h) (Or.inl ⟨by rfl, ?_⟩) ?_ ?_
    rotate_left
    · intro w'
      go_simp
      with_reducible rfl
    rotate_left
    · simp only [Act.put, List.setIfInBounds_toArray, List.set_cons_zero, List.set_cons_succ, i64_w, i32_w]
      rfl
    refine take_ (i := 6) (N := some 67) (v := ?_) (a' := ?_) #[true, true, true, true, true, true, true, false, true, false, true, false, false, false, false, false, false, false, false, false, false, false, false, false, false, false, false, false] rfl rfl (by kernel_rfl) (fun _ _ _ h => h) (Or.inl ⟨by rfl, ?_⟩) hHeld ?_ ?_
    rotate_left
    · rintro w' ⟨s0, s1, s2, s3, s4⟩
      go_simp
      with_reducible rfl
    rotate_left
    · simp only [Act.put, List.setIfInBounds_toArray, List.set_cons_zero, List.set_cons_succ, i64_w, i32_w]
      rfl
    refine pure_ (i := 7) (N := some 68) (v := ?_) (a' := ?_) #[true, true, true, true, true, true, true, true, true, false, true, false, false, false, false, false, false, false, false, false, false, false, false, false, false, false, false, false] rfl rfl (by kernel_rfl) (fun _ _ _ h => h) (Or.inl ⟨by rfl, ?_⟩) ?_ ?_
    rotate_left
    · intro w'
      go_simp
      with_reducible rfl
    rotate_left
    · simp only [Act.put, List.setIfInBounds_toArray, List.set_cons_zero, List.set_cons_succ, i64_w, i32_w]
      rfl
    refine take_ (i := 9) (N := some 70) (v := ?_) (a' := ?_) #[true, true, true, true, true, true, true, true, true, true, true, false, false, false, false, false, false, false, false, false, false, false, false, false, false, false, false, false] rfl rfl (by kernel_rfl) (fun _ _ _ h => h) (Or.inl ⟨by rfl, ?_⟩) hHeld ?_ ?_
    rotate_left
    · rintro w' ⟨s0, s1, s2, s3, s4⟩
      go_simp
      with_reducible rfl
    rotate_left
    · simp only [Act.put, List.setIfInBounds_toArray, List.set_cons_zero, List.set_cons_succ, i64_w, i32_w]
      rfl
    refine take_ (i := 11) (N := some 72) (v := ?_) (a' := ?_) #[true, true, true, true, true, true, true, true, true, true, true, true, false, false, false, false, false, false, false, false, false, false, false, false, false, false, false, false] rfl rfl (by kernel_rfl) (fun _ _ _ h => h) (Or.inl ⟨by rfl, ?_⟩) hHeld ?_ ?_
    rotate_left
    · rintro w' ⟨s0, s1, s2, s3, s4⟩
      go_simp
      with_reducible rfl
    rotate_left
    · simp only [Act.put, List.setIfInBounds_toArray, List.set_cons_zero, List.set_cons_succ, i64_w, i32_w]
      rfl
    refine one_ (i := 12) (N := some 73) #[true, true, true, true, true, true, true, true, true, true, true, true, true, false, false, false, false, false, false, false, false, false, false, false, false, false, false, false] rfl rfl (by kernel_rfl) (by decide) (fun K hK => ?_)
    refine goes_ Tryd.func32 (by kernel_rfl) rfl #[.int .i64 x.f1, .int .i64 x.f2] (by rfl) rfl rfl (by simp only [List.map_toArray, List.map_cons, List.map_nil]; rfl) ?_
    with_reducible refine (Ls.bytes_any x.f1 x.f2 p0 (by omega) r0 (by omega) _ (HT.out.below (hb.trans (hbR.mono hb.size)))).mono ?_
    rintro e r1_ ⟨rfl, rfl⟩
    rw [bytes_same, hm.out]
    refine ⟨_, rfl, ?_⟩
    refine hK.out _ _ ⟨(hbR.cell (p := ⟨W.heap.size, 0, none⟩) l_b).trans q0, (hbR.cell (p := ⟨W.heap.size, 1, none⟩) l_b).trans q1, (hbR.cell (p := ⟨W.heap.size, 2, none⟩) l_b).trans q2, (hbR.cell (p := ⟨W.heap.size, 3, none⟩) l_b).trans q3, (hbR.cell (p := ⟨W.heap.size, 4, none⟩) l_b).trans q4⟩ (fun hHeld => ?_)
    clear hK K
    refine norm_ (a' := ?_) ?_ ?_
    rotate_left
    · show Act.put _ (some 73) _ = _
      simp only [Act.put, List.setIfInBounds_toArray, List.set_cons_zero, List.set_cons_succ, i64_w, i32_w]
      rfl
    refine pure_ (i := 13) (N := some 74) (v := ?_) (a' := ?_) #[true, true, true, true, true, true, true, true, true, true, true, true, true, true, false, false, false, false, false, false, false, false, false, false, false, false, false, false] rfl rfl (by kernel_rfl) (fun _ _ _ h => h) (Or.inl ⟨by rfl, ?_⟩) ?_ ?_
    rotate_left
    · intro w'
      go_simp
      with_reducible rfl
    rotate_left
    · simp only [Act.put, List.setIfInBounds_toArray, List.set_cons_zero, List.set_cons_succ, i64_w, i32_w]
      rfl
    refine pure_ (i := 14) (N := some 75) (v := ?_) (a' := ?_) #[true, true, true, true, true, true, true, true, true, true, true, true, true, true, true, false, false, false, false, false, false, false, false, false, false, false, false, false] rfl rfl (by kernel_rfl) (fun _ _ _ h => h) (Or.inl ⟨by rfl, ?_⟩) ?_ ?_
    rotate_left
    · intro w'
      go_simp
      with_reducible rfl
    rotate_left
    · simp only [Act.put, List.setIfInBounds_toArray, List.set_cons_zero, List.set_cons_succ, i64_w, i32_w]
      rfl
    refine pure_ (i := 15) (N := some 76) (v := ?_) (a' := ?_) #[true, true, true, true, true, true, true, true, true, true, true, true, true, true, true, true, false, false, false, false, false, false, false, false, false, false, false, false] rfl rfl (by kernel_rfl) (fun _ _ _ h => h) (Or.inl ⟨by rfl, ?_⟩) ?_ ?_
    rotate_left
    · intro w'
      go_simp
      with_reducible rfl
    rotate_left
    · simp only [Act.put, List.setIfInBounds_toArray, List.set_cons_zero, List.set_cons_succ, i64_w, i32_w]
      rfl
    refine pure_ (i := 16) (N := some 77) (v := ?_) (a' := ?_) #[true, true, true, true, true, true, true, true, true, true, true, true, true, true, true, true, true, false, false, false, false, false, false, false, false, false, false, false] rfl rfl (by kernel_rfl) (fun _ _ _ h => h) (Or.inl ⟨by rfl, ?_⟩) ?_ ?_
    rotate_left
    · intro w'
      go_simp
      with_reducible rfl
    rotate_left
    · simp only [Act.put, List.setIfInBounds_toArray, List.set_cons_zero, List.set_cons_succ, i64_w, i32_w]
      rfl
    refine pure_ (i := 18) (N := some 79) (v := ?_) (a' := ?_) #[true, true, true, true, true, true, true, true, true, true, true, true, true, true, true, true, true, false, true, false, false, false, false, false, false, false, false, false] rfl rfl (by kernel_rfl) (fun _ _ _ h => h) (Or.inl ⟨by rfl, ?_⟩) ?_ ?_
    rotate_left
    · intro w'
      go_simp
      with_reducible rfl
    rotate_left
    · simp only [Act.put, List.setIfInBounds_toArray, List.set_cons_zero, List.set_cons_succ, i64_w, i32_w]
      rfl
    refine pure_ (i := 20) (N := some 81) (v := ?_) (a' := ?_) #[true, true, true, true, true, true, true, true, true, true, true, true, true, true, true, true, true, false, true, false, true, false, false, false, false, false, false, false] rfl rfl (by kernel_rfl) (fun _ _ _ h => h) (Or.inl ⟨by rfl, ?_⟩) ?_ ?_
    rotate_left
    · intro w'
      go_simp
      with_reducible rfl
    rotate_left
    · simp only [Act.put, List.setIfInBounds_toArray, List.set_cons_zero, List.set_cons_succ, i64_w, i32_w]
      rfl
    refine pure_ (i := 23) (N := some 84) (v := ?_) (a' := ?_) #[true, true, true, true, true, true, true, true, true, true, true, true, true, true, true, true, true, false, true, false, true, false, false, true, false, false, false, false] rfl rfl (by kernel_rfl) (fun _ _ _ h => h) (Or.inl ⟨by rfl, ?_⟩) ?_ ?_
    rotate_left
    · intro w'
      go_simp
      with_reducible rfl
    rotate_left
    · simp only [Act.put, List.setIfInBounds_toArray, List.set_cons_zero, List.set_cons_succ, i64_w, i32_w]
      rfl
    refine take_ (i := 17) (N := some 78) (v := ?_) (a' := ?_) #[true, true, true, true, true, true, true, true, true, true, true, true, true, true, true, true, true, true, true, false, true, false, false, true, false, false, false, false] rfl rfl (by kernel_rfl) (fun _ _ _ h => h) (Or.inl ⟨by rfl, ?_⟩) hHeld ?_ ?_
    rotate_left
    · rintro w' ⟨s0, s1, s2, s3, s4⟩
      go_simp
      with_reducible rfl
    rotate_left
    · simp only [Act.put, List.setIfInBounds_toArray, List.set_cons_zero, List.set_cons_succ, i64_w, i32_w]
      rfl
    refine take_ (i := 19) (N := some 80) (v := ?_) (a' := ?_) #[true, true, true, true, true, true, true, true, true, true, true, true, true, true, true, true, true, true, true, true, true, false, false, true, false, false, false, false] rfl rfl (by kernel_rfl) (fun _ _ _ h => h) (Or.inl ⟨by rfl, ?_⟩) hHeld ?_ ?_
    rotate_left
    · rintro w' ⟨s0, s1, s2, s3, s4⟩
      go_simp
      with_reducible rfl
    rotate_left
    · simp only [Act.put, List.setIfInBounds_toArray, List.set_cons_zero, List.set_cons_succ, i64_w, i32_w]
      rfl
    refine take_ (i := 21) (N := some 82) (v := ?_) (a' := ?_) #[true, true, true, true, true, true, true, true, true, true, true, true, true, true, true, true, true, true, true, true, true, true, false, true, false, false, false, false] rfl rfl (by kernel_rfl) (fun _ _ _ h => h) (Or.inl ⟨by rfl, ?_⟩) hHeld ?_ ?_
    rotate_left
    · rintro w' ⟨s0, s1, s2, s3, s4⟩
      go_simp
      with_reducible rfl
    rotate_left
    · simp only [Act.put, List.setIfInBounds_toArray, List.set_cons_zero, List.set_cons_succ, i64_w, i32_w]
      rfl
    refine take_ (i := 24) (N := some 85) (v := ?_) (a' := ?_) #[true, true, true, true, true, true, true, true, true, true, true, true, true, true, true, true, true, true, true, true, true, true, false, true, true, false, false, false] rfl rfl (by kernel_rfl) (fun _ _ _ h => h) (Or.inl ⟨by rfl, ?_⟩) hHeld ?_ ?_
    rotate_left
    · rintro w' ⟨s0, s1, s2, s3, s4⟩
      go_simp
      with_reducible rfl
    rotate_left
    · simp only [Act.put, List.setIfInBounds_toArray, List.set_cons_zero, List.set_cons_succ, i64_w, i32_w]
      rfl
    refine one_ (i := 22) (N := some 83) #[true, true, true, true, true, true, true, true, true, true, true, true, true, true, true, true, true, true, true, true, true, true, true, true, true, false, false, false] rfl rfl (by kernel_rfl) (by decide) (fun K hK => ?_)
    refine goes_ Tryd.func33 (by kernel_rfl) rfl #[.int .i64 x.f1, .int .i64 x.f2, .slice A3 x.f3.length c3] (by rfl) rfl rfl (by simp only [List.map_toArray, List.map_cons, List.map_nil]; rfl) ?_
    with_reducible refine (Ls.trim_any x.f1 x.f2 p0 p5 r0 (by omega) A3 x.f3.length c3 x.f3 _ (HT.out.below (hb.trans (hbR.mono hb.size))) hbnd hA l3 (HRd.out.below (hb.trans (hbR.mono hb.size))) x.f3.length (by rw [bytes_same, hm.out, hmx'.out]) (Nat.le_refl _)).mono ?_
    rintro e r2_ ⟨⟨v, rfl, hown⟩, hb2⟩
    rw [HLS.out] at hown
    obtain ⟨B3, d3, rfl, hd3, hC⟩ := own_reads hown HYL.out
    replace hbR := hbR.trans (hb2.mono hbR.size)
    have HC := Lib.hid hC
    clear hC hown hb2
    refine ⟨_, rfl, ?_⟩
    refine hK.out _ _ ⟨(hbR.cell (p := ⟨W.heap.size, 0, none⟩) l_b).trans q0, (hbR.cell (p := ⟨W.heap.size, 1, none⟩) l_b).trans q1, (hbR.cell (p := ⟨W.heap.size, 2, none⟩) l_b).trans q2, (hbR.cell (p := ⟨W.heap.size, 3, none⟩) l_b).trans q3, (hbR.cell (p := ⟨W.heap.size, 4, none⟩) l_b).trans q4⟩ (fun hHeld => ?_)
    clear hK K
    refine norm_ (a' := ?_) ?_ ?_
    rotate_left
    · show Act.put _ (some 83) _ = _
      simp only [Act.put, List.setIfInBounds_toArray, List.set_cons_zero, List.set_cons_succ, i64_w, i32_w]
      rfl
    refine one_ (i := 25) (N := some 86) #[true, true, true, true, true, true, true, true, true, true, true, true, true, true, true, true, true, true, true, true, true, true, true, true, true, true, false, false] rfl rfl (by kernel_rfl) (by decide) (fun K hK => ?_)
    refine goes_ Tryd.func26 (by kernel_rfl) rfl #[.slice B3 ys.length d3, .slice A3 x.f3.length c3] (by rfl) rfl rfl (by simp only [List.map_toArray, List.map_cons, List.map_nil]; rfl) ?_
    with_reducible refine (bytes_Equal.calls B3 d3 ys A3 c3 x.f3 (decide (ys = x.f3)) _ HC.out hd3 (Kd.C_below H3.out (hb.trans (hbR.mono hb.size))) l3 (by unfold bytes_Equal.f; rw [same_bytes HYR.out HX.out])).mono ?_
    rintro e r3_ ⟨rfl, hb3⟩
    replace hbR := hbR.trans (hb3.below.mono hbR.size)
    clear hb3
    refine ⟨_, rfl, ?_⟩
    refine hK.out _ _ ⟨(hbR.cell (p := ⟨W.heap.size, 0, none⟩) l_b).trans q0, (hbR.cell (p := ⟨W.heap.size, 1, none⟩) l_b).trans q1, (hbR.cell (p := ⟨W.heap.size, 2, none⟩) l_b).trans q2, (hbR.cell (p := ⟨W.heap.size, 3, none⟩) l_b).trans q3, (hbR.cell (p := ⟨W.heap.size, 4, none⟩) l_b).trans q4⟩ (fun hHeld => ?_)
    clear hK K
    refine norm_ (a' := ?_) ?_ ?_
    rotate_left
    · show Act.put _ (some 86) _ = _
      simp only [Act.put, List.setIfInBounds_toArray, List.set_cons_zero, List.set_cons_succ, i64_w, i32_w]
      rfl
    refine pure_ (i := 26) (N := some 87) (v := ?_) (a' := ?_) #[true, true, true, true, true, true, true, true, true, true, true, true, true, true, true, true, true, true, true, true, true, true, true, true, true, true, true, false] rfl rfl (by kernel_rfl) (fun _ _ _ h => h) (Or.inl ⟨by rfl, ?_⟩) ?_ ?_
    rotate_left
    · intro w'
      go_simp
      with_reducible rfl
    rotate_left
    · simp only [Act.put, List.setIfInBounds_toArray, List.set_cons_zero, List.set_cons_succ, i64_w, i32_w]
      rfl
    refine pure_ (i := 27) (N := some 2) (v := ?_) (a' := ?_) #[true, true, true, true, true, true, true, true, true, true, true, true, true, true, true, true, true, true, true, true, true, true, true, true, true, true, true, true] rfl rfl (by kernel_rfl) (fun _ _ _ h => h) (Or.inl ⟨by rfl, ?_⟩) ?_ ?_
    rotate_left
    · intro w'
      go_simp
      with_reducible rfl
    rotate_left
    · simp only [Act.put, List.setIfInBounds_toArray, List.set_cons_zero, List.set_cons_succ, i64_w, i32_w]
      rfl
    refine done_ (by kernel_rfl) ?_
    go_wp2
    go_ret
    exact ⟨by rw [HDY.out]; rfl, hb.trans (hbR.mono hb.size)⟩
end Go.Proofs.YtmbockhcmhghlaaDoor.Pr
end
section
namespace Go.Proofs.YtmbockhcmhghlaaDoor.Pr
open Go.RowKit Go.Proofs.YtmbockhcmhghlaaDoorW.PrintWords Go.Proofs.YtmbockhcmhghlaaDoorW.PrintLast Go.Proofs.YtmbockhcmhghlaaDoorW.PrintMore
set_option linter.unusedVariables false
set_option linter.unusedSimpArgs false
theorem tvalids_false : ∀ l : List S25, tvalids false l = l.all tvalid
  | [] => rfl
  | x :: l => by simp [tvalids, tvalids_false l]
theorem tvalids_true : ∀ l : List S25, tvalids true l = l.all (fun k => tvalid k && (k.f0 == 1))
  | [] => rfl
  | x :: l => by simp [tvalids, tvalids_true l, bne]
theorem tvalid_struct (x : S25) (h : x.f0 = 1) : tvalid x = structV x := by
  rw [tvalid_eq]
  unfold topV structV
  rw [h, if_neg (by decide), if_pos rfl]
  simp only [show ((1 : Int) == 2) = false from rfl, Bool.false_and, tvalids_false]
  cases x.f4.all tvalid <;> simp
theorem elem_same (k : S25) : elemV k = (tvalid k && (k.f0 == 1)) := by
  unfold elemV
  by_cases h : k.f0 = 1
  · rw [tvalid_struct k h, h]; cases structV k <;> rfl
  · have : (k.f0 == 1) = false := beq_eq_false_iff_ne.2 h
    rw [this]; simp
theorem all_elem (l : List S25) : l.all elemV = tvalids true l := by
  rw [tvalids_true]
  congr 1
  funext k
  exact elem_same k
theorem tvalid_list (x : S25) (h : x.f0 = 2) : tvalid x = listV x := by
  rw [tvalid_eq]
  unfold topV listV
  rw [h, if_neg (by decide), if_neg (by decide), if_pos rfl]
  by_cases hb : x.f2 < 0 ∨ 536870911 < x.f2 ∨ x.f1 < 0 ∨ 7 < x.f1
  · rw [if_pos hb, if_pos hb]; simp
  · rw [if_neg hb, if_neg hb]
    by_cases h6 : x.f1 = 6
    · rw [if_pos h6, if_pos (by omega), h6]
      rw [show ((2 : Int) == 2 && (6 : Int) == 7) = false from rfl, tvalids_false]
      cases x.f4.all tvalid <;> simp
    · rw [if_neg h6]
      by_cases h7 : x.f1 = 7
      · rw [if_pos h7, if_pos (by omega), h7]
        rw [show ((2 : Int) == 2 && (7 : Int) == 7) = true from rfl, ← all_elem]
        cases x.f4.all elemV <;> simp
      · have e7 : (x.f1 == 7) = false := beq_eq_false_iff_ne.2 h7
        rw [if_neg h7, if_neg (by omega), e7, Bool.and_false, tvalids_false]
        by_cases h4 : x.f4.length = 0
        · have e4 : ((x.f4.length : Int) == 0) = true := by rw [beq_iff_eq]; omega
          have e5 : x.f4.all tvalid = true := by rw [List.length_eq_zero_iff.1 h4]; rfl
          rw [e4, e5]
          by_cases h3 : (x.f3.length : Int) = bytesOf x.f1 x.f2
          · rw [if_neg (by rintro (h | h); exact h h4; exact h h3), beq_iff_eq.2 h3]; rfl
          · rw [if_pos (.inr h3), beq_eq_false_iff_ne.2 h3]; rfl
        · have e4 : ((x.f4.length : Int) == 0) = false := by rw [beq_eq_false_iff_ne]; omega
          rw [e4, if_pos (.inl h4)]; simp
theorem tvalid_null (x : S25) (h : x.f0 = 0) : tvalid x = ((x.f1 == 0) && ((x.f2 == 0) && (((x.f3.length : Int) == 0) && ((x.f4.length : Int) == 0)))) := by
  rw [tvalid_eq]
  unfold topV
  rw [h, if_pos rfl]
  simp only [show ((0 : Int) == 2) = false from rfl, Bool.false_and, tvalids_false]
  by_cases h4 : x.f4.length = 0
  · rw [List.length_eq_zero_iff.1 h4]; rfl
  · have e4 : ((x.f4.length : Int) == 0) = false := by rw [beq_eq_false_iff_ne]; omega
    rw [e4]; simp
theorem tvalid_other (x : S25) (h0 : ¬ x.f0 = 0) (h1 : ¬ x.f0 = 1) (h2 : ¬ x.f0 = 2) : tvalid x = false := by
  rw [tvalid_eq]
  unfold topV
  rw [if_neg h0, if_neg h1, if_neg h2]; simp
set_option maxHeartbeats 2000000 in
theorem valid_step (x : S25) (hS : NodeC 21 (structV x) x) (hL : NodeC 22 (listV x) x) : NodeC 10 (tvalid x) x := by
  intro A3 c3 A4 c4 W h3 l3 h4 l4 ht
  have H3 := Lib.hid h3; have H4 := Lib.hid h4; have HT := Lib.hid ht; have HS := Lib.hid hS; have HL := Lib.hid hL
  have hm3 : x.f3.length ≤ 9223372036854775807 := h3.2.1
  have hm4 : x.f4.length ≤ 9223372036854775807 := h4.2.1
  clear h3 h4 ht hS hL
  by_cases k0 : x.f0 = 0
  · have HD := Lib.hid (tvalid_null x k0)
    have g0 : (x.f0 == 0) = true := beq_iff_eq.2 k0
    clear k0
    cases b1 : (x.f1 == 0) with
    | false =>
      have HDD : Hid (tvalid x = false) := Lib.hid (by rw [HD.out, b1]; rfl)
      clear HD
      go_enter Tryd.func10, Tryd.ntmps10
      go_wp2
      go_ret
      exact ⟨by rw [HDD.out]; rfl, (Below.refl _ _).alloc (Nat.le_refl _) _⟩
    | true =>
    cases b2 : (x.f2 == 0) with
    | false =>
      have HDD : Hid (tvalid x = false) := Lib.hid (by rw [HD.out, b1, b2]; rfl)
      clear HD
      go_enter Tryd.func10, Tryd.ntmps10
      go_wp2
      go_ret
      exact ⟨by rw [HDD.out]; rfl, (Below.refl _ _).alloc (Nat.le_refl _) _⟩
    | true =>
    cases b3 : ((x.f3.length : Int) == 0) with
    | false =>
      have HDD : Hid (tvalid x = false) := Lib.hid (by rw [HD.out, b1, b2, b3]; rfl)
      clear HD
      go_enter Tryd.func10, Tryd.ntmps10
      go_wp2
      go_ret
      exact ⟨by rw [HDD.out]; rfl, (Below.refl _ _).alloc (Nat.le_refl _) _⟩
    | true =>
    cases b4 : ((x.f4.length : Int) == 0)
    all_goals
      have HDD : Hid (tvalid x = _) := Lib.hid (HD.out.trans (by rw [b1, b2, b3, b4]))
      clear HD
      go_enter Tryd.func10, Tryd.ntmps10
      go_wp2
      go_ret
      exact ⟨by rw [HDD.out]; rfl, (Below.refl _ _).alloc (Nat.le_refl _) _⟩
  · have g0 : (x.f0 == 0) = false := beq_eq_false_iff_ne.2 k0
    by_cases k1 : x.f0 = 1
    · have HD := Lib.hid (tvalid_struct x k1)
      have g1 : (x.f0 == 1) = true := beq_iff_eq.2 k1
      clear k1 k0
      go_enter Tryd.func10, Tryd.ntmps10
      go_wp2_with fail
      refine calls_at (fun W1 hW => ?_)
      have hb : Below W.heap.size W W1 := by rw [hW]; exact (Below.refl _ _).alloc (Nat.le_refl _) _
      clear hW
      refine (HS.out _ _ _ _ W1 (Kd.C_below H3.out hb) l3 (Kd.C_below H4.out hb) l4 (HT.out.below hb)).mono ?_
      rintro e w1 ⟨rfl, hb1⟩
      go_wp2
      go_ret
      exact ⟨by rw [HD.out]; rfl, hb.trans (hb1.mono hb.size)⟩
    · have g1 : (x.f0 == 1) = false := beq_eq_false_iff_ne.2 k1
      by_cases k2 : x.f0 = 2
      · have HD := Lib.hid (tvalid_list x k2)
        have g2 : (x.f0 == 2) = true := beq_iff_eq.2 k2
        clear k2 k1 k0
        go_enter Tryd.func10, Tryd.ntmps10
        go_wp2_with fail
        refine calls_at (fun W1 hW => ?_)
        have hb : Below W.heap.size W W1 := by rw [hW]; exact (Below.refl _ _).alloc (Nat.le_refl _) _
        clear hW
        refine (HL.out _ _ _ _ W1 (Kd.C_below H3.out hb) l3 (Kd.C_below H4.out hb) l4 (HT.out.below hb)).mono ?_
        rintro e w1 ⟨rfl, hb1⟩
        go_wp2
        go_ret
        exact ⟨by rw [HD.out]; rfl, hb.trans (hb1.mono hb.size)⟩
      · have HD := Lib.hid (tvalid_other x k0 k1 k2)
        have g2 : (x.f0 == 2) = false := beq_eq_false_iff_ne.2 k2
        clear k2 k1 k0
        go_enter Tryd.func10, Tryd.ntmps10
        go_wp2
        go_ret
        exact ⟨by rw [HD.out]; rfl, (Below.refl _ _).alloc (Nat.le_refl _) _⟩
theorem valid_both : ∀ (n : Nat) (x : S25), tsize x ≤ n → okT x → NodeC 10 (tvalid x) x ∧ NodeC 21 (structV x) x
  | 0, x, h, _ => by have := tsize_eq x; omega
  | n + 1, x, h, hok => by
    have hk : ∀ y ∈ x.f4, NodeC 10 (tvalid y) y ∧ NodeC 21 (structV y) y := fun y hy => valid_both n y (by have := tsize_kid hy; omega) (hok.kids y hy)
    have hS := structure_any x fun y hy => (hk y hy).1
    exact ⟨valid_step x hS (list_any x (fun y hy => (hk y hy).1) (fun y hy => element_any y (hk y hy).2) hok.here), hS⟩
end Go.Proofs.YtmbockhcmhghlaaDoor.Pr
end
section
namespace Go.Proofs.YtmbockhcmhghlaaDoor.Pr
open Go.RowKit Go.Shelf Go.Proofs.YtmbockhcmhghlaaDoorW.PrintWords Go.Proofs.YtmbockhcmhghlaaDoorW.PrintLast Go.Proofs.YtmbockhcmhghlaaDoorW.PrintMore
set_option linter.unusedVariables false
set_option linter.unusedSimpArgs false
attribute [local go_sem] Oper.semAt_some
def NodeI (f : FuncId) (b : Nat) (x : S25) : Prop := ∀ (A3 : Option Addr) (c3 : Nat) (A4 : Option Addr) (c4 : Nat) (W : World), Kd.C (Kd.int .u8) W A3 x.f3.length x.f3 → x.f3.length ≤ c3 → Kd.C k25 W A4 x.f4.length x.f4 → x.f4.length ≤ c4 →
  Calls Tryd.prog f #[.agg #[.int .i64 x.f0, .int .i64 x.f1, .int .i64 x.f2, .slice A3 x.f3.length c3, .slice A4 x.f4.length c4]] W fun e w' => e = .returned (.int .i64 (b : Int)) ∧ Below W.heap.size W w'
theorem targets_is (n : Nat) (v0 v1 v2 v3 v4 : Value) (w : World) :
    CallsIn Fence.wide n Tryd.prog 28 #[.agg #[v0, v1, v2, v3, v4]] w fun e w' => e = .returned (.func (.func 35) #[] #[.pointer (some ⟨w.heap.size, 0, none⟩)]) ∧ w' = w.alloc (.cells #[v0, v1, v2, v3, v4] 25) := by
  refine callsIn_of_wp Tryd.func28 rfl trivial ?_ rfl
  simp only [Tryd.ntmps28, List.size_toArray, List.length_cons, List.length_nil, Nat.reduceAdd, Nat.reduceSub, Array.replicate_succ, Array.replicate_zero, List.push_toArray, List.append_toArray, List.nil_append, List.cons_append]
  gi_wp2
  go_ret
  exact ⟨rfl, rfl⟩
def elX {w : World} {T : List S25} (l : List (Els w T)) : List S25 := l.map (fun y => y.1.x)
theorem elX_snoc {w : World} {T : List S25} (l : List (Els w T)) (y : Els w T) : elX (l ++ [y]) = elX l ++ [y.1.x] := by unfold elX; rw [List.map_append]; rfl
theorem targets_stops (n : Nat) (hn : 1 ≤ n) (Bn : Nat) (w w1 : World) (x : S25) (A3 : Option Addr) (c3 : Nat) (A4 : Option Addr) (c4 : Nat) (hv : x.f1 = 7 → x.f0 = 2) (hC : Kd.C k25 w A4 x.f4.length x.f4) (hb : Below w.heap.size w w1)
    (hB : w1.heap[Bn]? = some (.cells #[.int .i64 x.f0, .int .i64 x.f1, .int .i64 x.f2, .slice A3 x.f3.length c3, .slice A4 x.f4.length c4] 25 (0, 0))) :
    SeqStopsK Fence.wide n Tryd.prog 35 #[.pointer (some ⟨Bn, 0, none⟩)] (fun y : Els w (ttargets x) => #[y.1.enc]) (KpN w.heap.size Bn) (fun ys => elX ys = ttargets x) (fun _ => True) (ttargets x).length w1 := by
  by_cases h7 : x.f1 = 7
  · have hT : ttargets x = tkids x.f4 := by unfold ttargets; rw [if_pos ⟨hv h7, h7⟩]
    rw [hT]
    intro l J Jx W hW hJ hJx hY h0
    exact targets1_comp n hn l Bn w x A3 c3 A4 c4 (by simp [h7]) hC J Jx W hJ (hb.trans (hW.mono hb.size)) hY ((hW.block Bn (blk_lt hB)).trans hB) h0
  · have hT : ttargets x = x.f4 := by unfold ttargets; rw [if_neg (fun h => h7 h.2)]
    rw [hT]
    intro l J Jx W hW hJ hJx hY h0
    exact targets1_plain n hn l Bn w x A3 c3 A4 c4 (by simp [h7]) hC J Jx W hJ (hb.trans (hW.mono hb.size)) hY ((hW.block Bn (blk_lt hB)).trans hB) h0
theorem KpN.trans {n B : Nat} {X Y Z : World} (h : KpN n B X Y) (k : KpN n B Y Z) : KpN n B X Z := ⟨h.1.trans k.1, k.2.trans h.2⟩
theorem KpN.box {n B : Nat} {w1 : World} (hn : n ≤ w1.heap.size) (hB : B < w1.heap.size) (W : World) (l : Nat) (o o' : Obj) (hl : w1.heap.size ≤ l) (ho : W.heap[l]? = some o) (hc : o.isCells = false) (hw : o.isWalk = false) : KpN n B W (W.putObj l o') :=
  ⟨belowK_b hn W l o o' hl ho hc hw, World.putObj_heap_other (fun e => by omega)⟩
set_option maxHeartbeats 2000000 in
theorem depth_null (x : S25) (h : x.f0 = 0) : NodeI 14 (tdepth x) x := by
  intro A3 c3 A4 c4 W h3 l3 h4 l4
  have hD := Lib.hid (show tdepth x = 0 by rw [tdepth_eq, if_pos h])
  have g : (x.f0 == 0) = true := beq_iff_eq.2 h
  clear h h3 h4
  go_enter Tryd.func14, Tryd.ntmps14
  go_wp2
  go_ret
  exact ⟨by rw [hD.out]; rfl, (Below.refl _ _).alloc (Nat.le_refl _) _⟩
theorem blk_own {vs : Array Value} {t : TypeId} {B : Nat} {X Y : World} {row : Option Nat} (h : X.heap[B]? = some (.cells vs t (0, 0))) (hg : X.grownBy Y row) (hr : ∀ r, row = some r → ∃ o : Obj, X.heap[r]? = some o ∧ o.isCells = false) : Y.heap[B]? = some (.cells vs t (0, 0)) :=
  (hg.block B (blk_lt h) (fun e => by obtain ⟨o, ho, hc⟩ := hr B e.symm; rw [h] at ho; cases ho; cases hc)).trans h
def dW (l : List S25) : Int := l.foldl (fun d y => max d (tdepth y : Int)) 0
theorem dW_snoc (l : List S25) (y : S25) : dW (l ++ [y]) = max (dW l) (tdepth y : Int) := by simp [dW]
theorem dW_fold : ∀ (l : List S25) (d : Int), 0 ≤ d → l.foldl (fun d y => max d (tdepth y : Int)) d = max d (tdeeps l : Int)
  | [], d, h => by simp [tdeeps]; omega
  | y :: l, d, h => by
    rw [List.foldl_cons, dW_fold l _ (by omega)]
    simp only [tdeeps]
    omega
theorem dW_eq (l : List S25) : dW l = (tdeeps l : Int) := by unfold dW; rw [dW_fold l 0 (by omega)]; omega
set_option maxRecDepth 100000 in
set_option maxHeartbeats 4000000 in
theorem depth_step (x : S25) (hv : x.f1 = 7 → x.f0 = 2) (h0 : ¬ x.f0 = 0) (hs : tsize x ≤ 4611686018427387904) (ih : ∀ y ∈ ttargets x, NodeI 14 (tdepth y) y) : NodeI 14 (tdepth x) x := by
  intro A3 c3 A4 c4 w h3 l3 h4 l4
  have H3 := Lib.hid h3; have H4 := Lib.hid h4; have IH := Lib.hid ih
  have g : (x.f0 == 0) = false := beq_eq_false_iff_ne.2 h0
  clear h3 h4 ih h0
  refine (callsIn_wide (n := 6)).1 ?_
  refine callsIn_of_wp_marks Tryd.func14 rfl trivial ?_ rfl
  simp only [Tryd.ntmps14, List.size_toArray, List.length_cons, List.length_nil, Nat.reduceAdd, Nat.reduceSub, Array.replicate_succ, Array.replicate_zero, List.push_toArray, List.append_toArray, List.nil_append, List.cons_append]
  gi_wp2_with (refine ⟨trivial, ?_⟩; gi_at_call 28; refine (targets_is _ _ _ _ _ _ _).mono ?_; rintro e w' ⟨rfl, rfl⟩)
  have bD : Boxed (((w.alloc (.cells #[.int .i64 x.f0, .int .i64 x.f1, .int .i64 x.f2, .slice A3 x.f3.length c3, .slice A4 x.f4.length c4] 25)).alloc (.cells #[.int .i64 0] 3)).alloc (.cells #[.int .i64 x.f0, .int .i64 x.f1, .int .i64 x.f2, .slice A3 x.f3.length c3, .slice A4 x.f4.length c4] 25)) (w.heap.size + 1) 3 (.int .i64 0) := by
    have := (Boxed.new (w.alloc (.cells #[.int .i64 x.f0, .int .i64 x.f1, .int .i64 x.f2, .slice A3 x.f3.length c3, .slice A4 x.f4.length c4] 25)) 3 (.int .i64 0)).alloc (.cells #[.int .i64 x.f0, .int .i64 x.f1, .int .i64 x.f2, .slice A3 x.f3.length c3, .slice A4 x.f4.length c4] 25)
    simp only [World.size_alloc] at this
    exact this
  have hB0 : Below w.heap.size w (((w.alloc (.cells #[.int .i64 x.f0, .int .i64 x.f1, .int .i64 x.f2, .slice A3 x.f3.length c3, .slice A4 x.f4.length c4] 25)).alloc (.cells #[.int .i64 0] 3)).alloc (.cells #[.int .i64 x.f0, .int .i64 x.f1, .int .i64 x.f2, .slice A3 x.f3.length c3, .slice A4 x.f4.length c4] 25)) := (((Below.refl _ w).alloc (Nat.le_refl _) _).alloc (by simp) _).alloc (by simp; omega) _
  have hsz : (((w.alloc (.cells #[.int .i64 x.f0, .int .i64 x.f1, .int .i64 x.f2, .slice A3 x.f3.length c3, .slice A4 x.f4.length c4] 25)).alloc (.cells #[.int .i64 0] 3)).alloc (.cells #[.int .i64 x.f0, .int .i64 x.f1, .int .i64 x.f2, .slice A3 x.f3.length c3, .slice A4 x.f4.length c4] 25)).heap.size = w.heap.size + 3 := by simp
  have hBn : (((w.alloc (.cells #[.int .i64 x.f0, .int .i64 x.f1, .int .i64 x.f2, .slice A3 x.f3.length c3, .slice A4 x.f4.length c4] 25)).alloc (.cells #[.int .i64 0] 3)).alloc (.cells #[.int .i64 x.f0, .int .i64 x.f1, .int .i64 x.f2, .slice A3 x.f3.length c3, .slice A4 x.f4.length c4] 25)).heap[w.heap.size + 1 + 1]? = some (.cells #[.int .i64 x.f0, .int .i64 x.f1, .int .i64 x.f2, .slice A3 x.f3.length c3, .slice A4 x.f4.length c4] 25 (0, 0)) := blk_new _ _ _ (by simp)
  obtain ⟨W0, hW0⟩ : ∃ W0, ((w.alloc (.cells #[.int .i64 x.f0, .int .i64 x.f1, .int .i64 x.f2, .slice A3 x.f3.length c3, .slice A4 x.f4.length c4] 25)).alloc (.cells #[.int .i64 0] 3)).alloc (.cells #[.int .i64 x.f0, .int .i64 x.f1, .int .i64 x.f2, .slice A3 x.f3.length c3, .slice A4 x.f4.length c4] 25) = W0 := ⟨_, rfl⟩
  rw [hW0] at bD hB0 hsz hBn ⊢
  clear hW0
  have hst := targets_stops 5 (by omega) (w.heap.size + 1 + 1) w W0 x A3 c3 A4 c4 hv H4.out hB0 hBn
  refine wpIn_rangeFunc_ownH rfl (by omega) (gf := 35) (lb := #[.pointer (some ⟨w.heap.size + 1 + 1, 0, none⟩)]) rfl trivial (enters_of Tryd.func35 (by kernel_rfl) rfl)
    hst KpN.trans (KpN.box (by omega) (by omega)) (Below.refl _ _) (fun _ => rfl)
    (fun pre W => (Boxed W (w.heap.size + 1) 3 (.int .i64 (dW (elX pre))) ∧ Below w.heap.size w W) ∧ w.heap.size + 3 ≤ W.heap.size)
    (fun _ _ _ => False)
    (OwnFrom.and (OwnFrom.and (Own.from (boxed_own _ _ _) _) (ownFrom_below (Nat.le_refl _) (by omega))) (fun s X Y row hs hg hr => Nat.le_trans hs hg.size))
    (fun _ _ _ _ _ hs _ _ => hs)
    ⟨⟨bD, hB0⟩, by omega⟩
    (fun y a' W => ∃ Bx, w.heap.size + 2 < Bx ∧ W.heap[Bx]? = some (.cells #[.int .i64 y.1.x.f0, .int .i64 y.1.x.f1, .int .i64 y.1.x.f2, .slice y.1.A3 y.1.x.f3.length y.1.c3, .slice y.1.A4 y.1.x.f4.length y.1.c4] 25 (0, 0)) ∧
      a' = { tmps := #[.agg #[.int .i64 x.f0, .int .i64 x.f1, .int .i64 x.f2, .slice A3 x.f3.length c3, .slice A4 x.f4.length c4], .pointer (some ⟨w.heap.size, 0, none⟩), .int .i64 0, .pointer (some ⟨w.heap.size + 1, 0, none⟩), .pointer (some ⟨Bx, 0, none⟩), .pointer (some ⟨w.heap.size, 0, none⟩), .int .i64 x.f0, .bool false,
        .agg #[.int .i64 x.f0, .int .i64 x.f1, .int .i64 x.f2, .slice A3 x.f3.length c3, .slice A4 x.f4.length c4], .func (.func 35) #[] #[.pointer (some ⟨w.heap.size + 1 + 1, 0, none⟩)], y.1.enc, undef, undef, undef, undef, undef, undef], defers := [] })
    (fun y a' _ X Y row hs hg hr => by obtain ⟨Bx, q1, q2, q3⟩ := hs; exact ⟨Bx, q1, blk_own q2 hg (fun r e => (hr r e).2), q3⟩)
    ?assign ?body ?done ?stop
  case assign =>
    rintro l pre y W K ⟨⟨bD1, hB1⟩, hz⟩ hK
    obtain ⟨⟨z, C3, e3, C4, e4⟩, hok, hmem⟩ := y
    gi_wp2
    exact hK _ _ ((KeepsOthers.alloc _ _).from _) ⟨(Below.refl _ W).alloc hB1.size _, Below.heap_alloc W _ _ (by omega)⟩ ⟨⟨bD1.alloc _, hB1.alloc hB1.size _⟩, by simp; omega⟩ ⟨W.heap.size, by omega, heap_alloc_new _ _, rfl⟩
  case body =>
    rintro l pre y a' W hl ⟨r, hr⟩ ⟨⟨bD1, hB1⟩, hz⟩ ⟨Bx, hBx, bX, rfl⟩ hlt
    obtain ⟨⟨z, C3, e3, C4, e4⟩, hok, hmem⟩ := y
    dsimp only at bX
    have d1 : 1 ≤ 6 - 1 - 1 := by omega
    have hmx : Tryd.prog.follows .mixedOrders = true := by kernel_rfl
    obtain ⟨q, hq⟩ : ∃ q, Hid (dW (elX pre) = q) := ⟨_, Lib.hid rfl⟩
    rw [hq.out] at bD1
    have cD := bD1.cell
    have fD := bD1.frozen
    have x0 : W.cell? ⟨Bx, 0, none⟩ = some (.int .i64 z.f0) := (blk_cell bX 0).trans rfl
    have x1 : W.cell? ⟨Bx, 1, none⟩ = some (.int .i64 z.f1) := (blk_cell bX 1).trans rfl
    have x2 : W.cell? ⟨Bx, 2, none⟩ = some (.int .i64 z.f2) := (blk_cell bX 2).trans rfl
    have x3 : W.cell? ⟨Bx, 3, none⟩ = some (.slice C3 z.f3.length e3) := (blk_cell bX 3).trans rfl
    have x4 : W.cell? ⟨Bx, 4, none⟩ = some (.slice C4 z.f4.length e4) := (blk_cell bX 4).trans rfl
    have lD := bD1.lt
    have hbd : Below W.heap.size W W.drew := (Below.refl _ _).drew
    have hB2 : Below w.heap.size w W.drew := hB1.trans (hbd.mono hB1.size)
    have hokW := El.ok_below (n := 0) hok hB2
    have HZ := (IH.out z hmem C3 e3 C4 e4 W.drew hokW.1 hokW.2.1 hokW.2.2.1 hokW.2.2.2).mono (R' := fun e w1 => e = .returned (.int .i64 (tdepth z : Int)) ∧ Below W.heap.size W w1 ∧ Boxed w1 (w.heap.size + 1) 3 (.int .i64 q) ∧ w1.cell? ⟨w.heap.size + 1, 0, none⟩ = some (.int .i64 q) ∧ w1.frozen? ⟨w.heap.size + 1, 0, none⟩ = false)
      (fun e w1 h => by
        have hb : Below W.heap.size W w1 := hbd.trans h.2
        have hx : Boxed w1 (w.heap.size + 1) 3 (.int .i64 q) := (hb.block _ lD).trans bD1
        exact ⟨h.1, hb, hx, hx.cell, hx.frozen⟩)
    clear hokW hB2 hbd
    gi_wp2
    gi_region_with_o (refine ⟨trivial, ?_⟩; gi_at_call 14; refine (CallsIn.inRound l (callsIn_wide.2 HZ)).mono ?_; rintro e w1 ⟨rfl, hb1, bD2, cD2, fD2⟩)
    all_goals gi_wp2
    all_goals (try go_bits)
    all_goals
      refine ⟨(KeepsOthers.setCell _ _ _).from _ |> KeepsFrom.trans ⟨hb1.size, fun k o _ hk _ => (hb1.block k (Array.getElem?_eq_some_iff.1 hk).1).trans hk⟩, ⟨(hb1.mono hB1.size).setCell (p := ⟨w.heap.size + 1, 0, none⟩) (by simp) _, ?_⟩, ⟨?_, (hB1.trans (hb1.mono hB1.size)).setCell (p := ⟨w.heap.size + 1, 0, none⟩) (by simp) _⟩, ?_⟩
      · exact ((grownBy_setCell' w1 (w.heap.size + 1) _).block _ (by have := hb1.size; omega) (fun e => by injection e; omega)).trans (hb1.block _ (by omega))
      · rw [elX_snoc, dW_snoc, hq.out]
        dsimp only
        first
        | rw [show max q (tdepth z : Int) = (tdepth z : Int) by omega]; exact bD2.set _
        | rw [show max q (tdepth z : Int) = q by omega]; exact bD2.set _
      · have := hb1.size
        have h2 := (KeepsOthers.setCell w1 ⟨w.heap.size + 1, 0, none⟩ (.int .i64 q)).size
        simp
        omega
  case done =>
    rintro D ys W hD hys ⟨⟨bD1, hB1⟩, hz⟩ hK
    have cD := bD1.cell
    gi_wp2
    refine ⟨by simp, .inl ⟨_, _, rfl, run_takeDeferred hK, ?_⟩⟩
    refine ⟨_, results_tmp rfl _ _ _, ?_, hB1.trans (belowK_b (w := w) (Nat.le_refl _) W D _ _ (by omega) hK rfl rfl)⟩
    have h1 := tdepth_objs x
    have h2 := tobjs_size x
    have h3 := tdepth_eq x
    rw [if_neg (by intro h; rw [h] at g; cases g)] at h3
    show Ending.returned (.int .i64 (wrap64 (dW (ttargets x) + 1))) = _
    rw [h3, dW_eq, w64 (by omega) (by omega)]
    congr 2
    omega
  case stop =>
    rintro D c pre W _ _ h _
    exact h.elim
set_option maxHeartbeats 2000000 in
theorem objs_null (x : S25) (h : x.f0 = 0) : NodeI 16 (tobjs x) x := by
  intro A3 c3 A4 c4 W h3 l3 h4 l4
  have hD := Lib.hid (show tobjs x = 0 by rw [tobjs_eq, if_pos h])
  have g : (x.f0 == 0) = true := beq_iff_eq.2 h
  clear h h3 h4
  go_enter Tryd.func16, Tryd.ntmps16
  go_wp2
  go_ret
  exact ⟨by rw [hD.out]; rfl, (Below.refl _ _).alloc (Nat.le_refl _) _⟩
def sW (l : List S25) : Int := l.foldl (fun d y => wrap64 (d + (tobjs y : Int))) 1
theorem sW_snoc (l : List S25) (y : S25) : sW (l ++ [y]) = wrap64 (sW l + (tobjs y : Int)) := by simp [sW]
theorem sW_fold : ∀ (l : List S25) (d : Int), 0 ≤ d → d + (tobjss l : Int) ≤ 9223372036854775807 → l.foldl (fun d y => wrap64 (d + (tobjs y : Int))) d = d + (tobjss l : Int)
  | [], d, h, _ => by simp [tobjss]
  | y :: l, d, h, hb => by
    simp only [tobjss, Int.natCast_add] at hb ⊢
    rw [List.foldl_cons, w64 (by omega) (by omega), sW_fold l _ (by omega) (by omega)]
    omega
theorem sW_eq (l : List S25) (h : tobjss l ≤ 4611686018427387904) : sW l = 1 + (tobjss l : Int) := by unfold sW; rw [sW_fold l 1 (by omega) (by omega)]
set_option maxRecDepth 100000 in
set_option maxHeartbeats 4000000 in
theorem objs_step (x : S25) (hv : x.f1 = 7 → x.f0 = 2) (h0 : ¬ x.f0 = 0) (hs : tsize x ≤ 4611686018427387904) (ih : ∀ y ∈ ttargets x, NodeI 16 (tobjs y) y) : NodeI 16 (tobjs x) x := by
  intro A3 c3 A4 c4 w h3 l3 h4 l4
  have H3 := Lib.hid h3; have H4 := Lib.hid h4; have IH := Lib.hid ih
  have g : (x.f0 == 0) = false := beq_eq_false_iff_ne.2 h0
  clear h3 h4 ih h0
  refine (callsIn_wide (n := 6)).1 ?_
  refine callsIn_of_wp_marks Tryd.func16 rfl trivial ?_ rfl
  simp only [Tryd.ntmps16, List.size_toArray, List.length_cons, List.length_nil, Nat.reduceAdd, Nat.reduceSub, Array.replicate_succ, Array.replicate_zero, List.push_toArray, List.append_toArray, List.nil_append, List.cons_append]
  gi_wp2_with (refine ⟨trivial, ?_⟩; gi_at_call 28; refine (targets_is _ _ _ _ _ _ _).mono ?_; rintro e w' ⟨rfl, rfl⟩)
  have bD : Boxed (((w.alloc (.cells #[.int .i64 x.f0, .int .i64 x.f1, .int .i64 x.f2, .slice A3 x.f3.length c3, .slice A4 x.f4.length c4] 25)).alloc (.cells #[.int .i64 1] 3)).alloc (.cells #[.int .i64 x.f0, .int .i64 x.f1, .int .i64 x.f2, .slice A3 x.f3.length c3, .slice A4 x.f4.length c4] 25)) (w.heap.size + 1) 3 (.int .i64 1) := by
    have := (Boxed.new (w.alloc (.cells #[.int .i64 x.f0, .int .i64 x.f1, .int .i64 x.f2, .slice A3 x.f3.length c3, .slice A4 x.f4.length c4] 25)) 3 (.int .i64 1)).alloc (.cells #[.int .i64 x.f0, .int .i64 x.f1, .int .i64 x.f2, .slice A3 x.f3.length c3, .slice A4 x.f4.length c4] 25)
    simp only [World.size_alloc] at this
    exact this
  have hB0 : Below w.heap.size w (((w.alloc (.cells #[.int .i64 x.f0, .int .i64 x.f1, .int .i64 x.f2, .slice A3 x.f3.length c3, .slice A4 x.f4.length c4] 25)).alloc (.cells #[.int .i64 1] 3)).alloc (.cells #[.int .i64 x.f0, .int .i64 x.f1, .int .i64 x.f2, .slice A3 x.f3.length c3, .slice A4 x.f4.length c4] 25)) := (((Below.refl _ w).alloc (Nat.le_refl _) _).alloc (by simp) _).alloc (by simp; omega) _
  have hsz : (((w.alloc (.cells #[.int .i64 x.f0, .int .i64 x.f1, .int .i64 x.f2, .slice A3 x.f3.length c3, .slice A4 x.f4.length c4] 25)).alloc (.cells #[.int .i64 1] 3)).alloc (.cells #[.int .i64 x.f0, .int .i64 x.f1, .int .i64 x.f2, .slice A3 x.f3.length c3, .slice A4 x.f4.length c4] 25)).heap.size = w.heap.size + 3 := by simp
  have hBn : (((w.alloc (.cells #[.int .i64 x.f0, .int .i64 x.f1, .int .i64 x.f2, .slice A3 x.f3.length c3, .slice A4 x.f4.length c4] 25)).alloc (.cells #[.int .i64 1] 3)).alloc (.cells #[.int .i64 x.f0, .int .i64 x.f1, .int .i64 x.f2, .slice A3 x.f3.length c3, .slice A4 x.f4.length c4] 25)).heap[w.heap.size + 1 + 1]? = some (.cells #[.int .i64 x.f0, .int .i64 x.f1, .int .i64 x.f2, .slice A3 x.f3.length c3, .slice A4 x.f4.length c4] 25 (0, 0)) := blk_new _ _ _ (by simp)
  obtain ⟨W0, hW0⟩ : ∃ W0, ((w.alloc (.cells #[.int .i64 x.f0, .int .i64 x.f1, .int .i64 x.f2, .slice A3 x.f3.length c3, .slice A4 x.f4.length c4] 25)).alloc (.cells #[.int .i64 1] 3)).alloc (.cells #[.int .i64 x.f0, .int .i64 x.f1, .int .i64 x.f2, .slice A3 x.f3.length c3, .slice A4 x.f4.length c4] 25) = W0 := ⟨_, rfl⟩
  rw [hW0] at bD hB0 hsz hBn ⊢
  clear hW0
  have hst := targets_stops 5 (by omega) (w.heap.size + 1 + 1) w W0 x A3 c3 A4 c4 hv H4.out hB0 hBn
  refine wpIn_rangeFunc_ownH rfl (by omega) (gf := 35) (lb := #[.pointer (some ⟨w.heap.size + 1 + 1, 0, none⟩)]) rfl trivial (enters_of Tryd.func35 (by kernel_rfl) rfl)
    hst KpN.trans (KpN.box (by omega) (by omega)) (Below.refl _ _) (fun _ => rfl)
    (fun pre W => (Boxed W (w.heap.size + 1) 3 (.int .i64 (sW (elX pre))) ∧ Below w.heap.size w W) ∧ w.heap.size + 3 ≤ W.heap.size)
    (fun _ _ _ => False)
    (OwnFrom.and (OwnFrom.and (Own.from (boxed_own _ _ _) _) (ownFrom_below (Nat.le_refl _) (by omega))) (fun s X Y row hs hg hr => Nat.le_trans hs hg.size))
    (fun _ _ _ _ _ hs _ _ => hs)
    ⟨⟨bD, hB0⟩, by omega⟩
    (fun y a' W => ∃ Bx, w.heap.size + 2 < Bx ∧ W.heap[Bx]? = some (.cells #[.int .i64 y.1.x.f0, .int .i64 y.1.x.f1, .int .i64 y.1.x.f2, .slice y.1.A3 y.1.x.f3.length y.1.c3, .slice y.1.A4 y.1.x.f4.length y.1.c4] 25 (0, 0)) ∧
      a' = { tmps := #[.agg #[.int .i64 x.f0, .int .i64 x.f1, .int .i64 x.f2, .slice A3 x.f3.length c3, .slice A4 x.f4.length c4], .pointer (some ⟨w.heap.size, 0, none⟩), .int .i64 0, .pointer (some ⟨w.heap.size + 1, 0, none⟩), .pointer (some ⟨Bx, 0, none⟩), .pointer (some ⟨w.heap.size, 0, none⟩), .int .i64 x.f0, .bool false,
        .agg #[.int .i64 x.f0, .int .i64 x.f1, .int .i64 x.f2, .slice A3 x.f3.length c3, .slice A4 x.f4.length c4], .func (.func 35) #[] #[.pointer (some ⟨w.heap.size + 1 + 1, 0, none⟩)], y.1.enc, undef, undef, undef, undef, undef], defers := [] })
    (fun y a' _ X Y row hs hg hr => by obtain ⟨Bx, q1, q2, q3⟩ := hs; exact ⟨Bx, q1, blk_own q2 hg (fun r e => (hr r e).2), q3⟩)
    ?assign ?body ?done ?stop
  case assign =>
    rintro l pre y W K ⟨⟨bD1, hB1⟩, hz⟩ hK
    obtain ⟨⟨z, C3, e3, C4, e4⟩, hok, hmem⟩ := y
    gi_wp2
    exact hK _ _ ((KeepsOthers.alloc _ _).from _) ⟨(Below.refl _ W).alloc hB1.size _, Below.heap_alloc W _ _ (by omega)⟩ ⟨⟨bD1.alloc _, hB1.alloc hB1.size _⟩, by simp; omega⟩ ⟨W.heap.size, by omega, heap_alloc_new _ _, rfl⟩
  case body =>
    rintro l pre y a' W hl ⟨r, hr⟩ ⟨⟨bD1, hB1⟩, hz⟩ ⟨Bx, hBx, bX, rfl⟩ hlt
    obtain ⟨⟨z, C3, e3, C4, e4⟩, hok, hmem⟩ := y
    dsimp only at bX
    have d1 : 1 ≤ 6 - 1 - 1 := by omega
    have hmx : Tryd.prog.follows .mixedOrders = true := by kernel_rfl
    obtain ⟨q, hq⟩ : ∃ q, Hid (sW (elX pre) = q) := ⟨_, Lib.hid rfl⟩
    rw [hq.out] at bD1
    have cD := bD1.cell
    have fD := bD1.frozen
    have x0 : W.cell? ⟨Bx, 0, none⟩ = some (.int .i64 z.f0) := (blk_cell bX 0).trans rfl
    have x1 : W.cell? ⟨Bx, 1, none⟩ = some (.int .i64 z.f1) := (blk_cell bX 1).trans rfl
    have x2 : W.cell? ⟨Bx, 2, none⟩ = some (.int .i64 z.f2) := (blk_cell bX 2).trans rfl
    have x3 : W.cell? ⟨Bx, 3, none⟩ = some (.slice C3 z.f3.length e3) := (blk_cell bX 3).trans rfl
    have x4 : W.cell? ⟨Bx, 4, none⟩ = some (.slice C4 z.f4.length e4) := (blk_cell bX 4).trans rfl
    have lD := bD1.lt
    have hbd : Below W.heap.size W W.drew := (Below.refl _ _).drew
    have hB2 : Below w.heap.size w W.drew := hB1.trans (hbd.mono hB1.size)
    have hokW := El.ok_below (n := 0) hok hB2
    have HZ := (IH.out z hmem C3 e3 C4 e4 W.drew hokW.1 hokW.2.1 hokW.2.2.1 hokW.2.2.2).mono (R' := fun e w1 => e = .returned (.int .i64 (tobjs z : Int)) ∧ Below W.heap.size W w1 ∧ Boxed w1 (w.heap.size + 1) 3 (.int .i64 q) ∧ w1.cell? ⟨w.heap.size + 1, 0, none⟩ = some (.int .i64 q) ∧ w1.frozen? ⟨w.heap.size + 1, 0, none⟩ = false)
      (fun e w1 h => by
        have hb : Below W.heap.size W w1 := hbd.trans h.2
        have hx : Boxed w1 (w.heap.size + 1) 3 (.int .i64 q) := (hb.block _ lD).trans bD1
        exact ⟨h.1, hb, hx, hx.cell, hx.frozen⟩)
    clear hokW hB2 hbd
    gi_wp2
    gi_region_with_o (refine ⟨trivial, ?_⟩; gi_at_call 16; refine (CallsIn.inRound l (callsIn_wide.2 HZ)).mono ?_; rintro e w1 ⟨rfl, hb1, bD2, cD2, fD2⟩)
    all_goals gi_wp2
    all_goals (try go_bits)
    all_goals
      refine ⟨(KeepsOthers.setCell _ _ _).from _ |> KeepsFrom.trans ⟨hb1.size, fun k o _ hk _ => (hb1.block k (Array.getElem?_eq_some_iff.1 hk).1).trans hk⟩, ⟨(hb1.mono hB1.size).setCell (p := ⟨w.heap.size + 1, 0, none⟩) (by simp) _, ?_⟩, ⟨?_, (hB1.trans (hb1.mono hB1.size)).setCell (p := ⟨w.heap.size + 1, 0, none⟩) (by simp) _⟩, ?_⟩
      · exact ((grownBy_setCell' w1 (w.heap.size + 1) _).block _ (by have := hb1.size; omega) (fun e => by injection e; omega)).trans (hb1.block _ (by omega))
      · rw [elX_snoc, sW_snoc, hq.out]
        exact bD2.set _
      · have := hb1.size
        have h2 := (KeepsOthers.setCell w1 ⟨w.heap.size + 1, 0, none⟩ (.int .i64 q)).size
        simp
        omega
  case done =>
    rintro D ys W hD hys ⟨⟨bD1, hB1⟩, hz⟩ hK
    have cD := bD1.cell
    gi_wp2
    refine ⟨by simp, .inl ⟨_, _, rfl, run_takeDeferred hK, ?_⟩⟩
    refine ⟨_, results_tmp rfl _ _ _, ?_, hB1.trans (belowK_b (w := w) (Nat.le_refl _) W D _ _ (by omega) hK rfl rfl)⟩
    have h2 := tobjs_size x
    have h3 := tobjs_eq x
    rw [if_neg (by intro h; rw [h] at g; cases g)] at h3
    show Ending.returned (.int .i64 (sW (ttargets x))) = _
    rw [h3, sW_eq _ (by omega)]
    congr 2
  case stop =>
    rintro D c pre W _ _ h _
    exact h.elim
theorem valid_el (x : S25) (h : tvalid x = true) : x.f1 = 7 → x.f0 = 2 := by
  intro h7
  by_cases h2 : x.f0 = 2
  · exact h2
  · by_cases h0 : x.f0 = 0
    · rw [tvalid_null x h0, h7] at h; simp at h
    · by_cases h1 : x.f0 = 1
      · rw [tvalid_struct x h1] at h; unfold structV at h; rw [h7] at h; simp at h
      · rw [tvalid_other x h0 h1 h2] at h; cases h
theorem valid_kids (x : S25) (h : tvalid x = true) : ∀ y ∈ x.f4, tvalid y = true := by
  rw [tvalid_eq, Bool.and_eq_true] at h
  exact fun y hy => (((tvalids_all _ _).1 h.1) y hy).1
theorem valid_targets (x : S25) (h : tvalid x = true) : ∀ y ∈ ttargets x, tvalid y = true := by
  unfold ttargets
  split
  · intro y hy
    obtain ⟨z, hz, hy⟩ := mem_tkids.1 hy
    exact valid_kids z (valid_kids x h z hz) y hy
  · exact valid_kids x h
theorem depth_all : ∀ (n : Nat) (x : S25), tsize x ≤ n → tvalid x = true → tsize x ≤ 4611686018427387904 → NodeI 14 (tdepth x) x
  | 0, x, h, _, _ => by have := tsize_eq x; omega
  | n + 1, x, h, hv, hs => by
    by_cases h0 : x.f0 = 0
    · exact depth_null x h0
    · exact depth_step x (valid_el x hv) h0 hs fun y hy => depth_all n y (by have := ttargets_size hy; omega) (valid_targets x hv y hy) (by have := ttargets_size hy; omega)
theorem objs_all : ∀ (n : Nat) (x : S25), tsize x ≤ n → tvalid x = true → tsize x ≤ 4611686018427387904 → NodeI 16 (tobjs x) x
  | 0, x, h, _, _ => by have := tsize_eq x; omega
  | n + 1, x, h, hv, hs => by
    by_cases h0 : x.f0 = 0
    · exact objs_null x h0
    · exact objs_step x (valid_el x hv) h0 hs fun y hy => objs_all n y (by have := ttargets_size hy; omega) (valid_targets x hv y hy) (by have := ttargets_size hy; omega)
end Go.Proofs.YtmbockhcmhghlaaDoor.Pr
end
section
namespace Go.Proofs.YtmbockhcmhghlaaDoor.Pr
open Go.RowKit Go.Proofs.YtmbockhcmhghlaaDoorW.PrintWords Go.Proofs.YtmbockhcmhghlaaDoorW.PrintLast Go.Proofs.YtmbockhcmhghlaaDoorW.PrintMore
set_option linter.unusedVariables false
set_option linter.unusedSimpArgs false
noncomputable section
open Classical
def node_Valid.f (_ : Nat) (a0 a1 a2 : Int) (l3 : List Int) (l4 : List S25) : Option Bool := if okT ⟨a0, a1, a2, l3, l4⟩ then some (tvalid ⟨a0, a1, a2, l3, l4⟩) else none
def node_Equal.f (_ : Nat) (a0 a1 a2 : Int) (l3 : List Int) (l4 : List S25) (b0 b1 b2 : Int) (m3 : List Int) (m4 : List S25) : Option Bool := if okT ⟨a0, a1, a2, l3, l4⟩ ∧ okT ⟨b0, b1, b2, m3, m4⟩ then some (eqT ⟨a0, a1, a2, l3, l4⟩ ⟨b0, b1, b2, m3, m4⟩) else none
def node_Depth.f (_ : Nat) (a0 a1 a2 : Int) (l3 : List Int) (l4 : List S25) : Option Int := if tvalid ⟨a0, a1, a2, l3, l4⟩ = true ∧ tsize ⟨a0, a1, a2, l3, l4⟩ ≤ 4611686018427387904 then some (tdepth ⟨a0, a1, a2, l3, l4⟩ : Int) else none
def node_Objects.f (_ : Nat) (a0 a1 a2 : Int) (l3 : List Int) (l4 : List S25) : Option Int := if tvalid ⟨a0, a1, a2, l3, l4⟩ = true ∧ tsize ⟨a0, a1, a2, l3, l4⟩ ≤ 4611686018427387904 then some (tobjs ⟨a0, a1, a2, l3, l4⟩ : Int) else none
theorem node_Valid.calls (k : Nat) (a0 a1 a2 : Int) (A3 : Option Addr) (c3 : Nat) (l3 : List Int) (A4 : Option Addr) (c4 : Nat) (l4 : List S25) (r : Bool) (w : World) (h3 : Kd.C (Kd.int .u8) w A3 l3.length l3) (g3 : l3.length ≤ c3) (h4 : Kd.C k25 w A4 l4.length l4) (g4 : l4.length ≤ c4)
    (h : node_Valid.f k a0 a1 a2 l3 l4 = some r) (ht : Ls.Tab w) :
    Calls Tryd.prog 10 #[.agg #[.int .i64 a0, .int .i64 a1, .int .i64 a2, .slice A3 l3.length c3, .slice A4 l4.length c4]] w fun e w' => e = .returned (.bool r) ∧ Below w.heap.size w w' := by
  unfold node_Valid.f at h
  split at h
  · rename_i hok
    cases h
    exact (valid_both _ ⟨a0, a1, a2, l3, l4⟩ (Nat.le_refl _) hok).1 A3 c3 A4 c4 w h3 g3 h4 g4 ht
  · cases h
theorem node_Equal.calls (k : Nat) (a0 a1 a2 : Int) (A3 : Option Addr) (c3 : Nat) (l3 : List Int) (A4 : Option Addr) (c4 : Nat) (l4 : List S25) (b0 b1 b2 : Int) (B3 : Option Addr) (d3 : Nat) (m3 : List Int) (B4 : Option Addr) (d4 : Nat) (m4 : List S25) (r : Bool) (w : World)
    (h3 : Kd.C (Kd.int .u8) w A3 l3.length l3) (g3 : l3.length ≤ c3) (h4 : Kd.C k25 w A4 l4.length l4) (g4 : l4.length ≤ c4) (k3 : Kd.C (Kd.int .u8) w B3 m3.length m3) (f3 : m3.length ≤ d3) (k4 : Kd.C k25 w B4 m4.length m4) (f4 : m4.length ≤ d4)
    (h : node_Equal.f k a0 a1 a2 l3 l4 b0 b1 b2 m3 m4 = some r) :
    Calls Tryd.prog 12 #[.agg #[.int .i64 a0, .int .i64 a1, .int .i64 a2, .slice A3 l3.length c3, .slice A4 l4.length c4], .agg #[.int .i64 b0, .int .i64 b1, .int .i64 b2, .slice B3 m3.length d3, .slice B4 m4.length d4]] w fun e w' => e = .returned (.bool r) ∧ Below w.heap.size w w' := by
  unfold node_Equal.f at h
  split at h
  · rename_i hok
    cases h
    exact nequal_all ⟨a0, a1, a2, l3, l4⟩ ⟨b0, b1, b2, m3, m4⟩ hok.1 hok.2 A3 c3 A4 c4 B3 d3 B4 d4 w h3 g3 h4 g4 k3 f3 k4 f4
  · cases h
theorem node_Depth.calls (k : Nat) (a0 a1 a2 : Int) (A3 : Option Addr) (c3 : Nat) (l3 : List Int) (A4 : Option Addr) (c4 : Nat) (l4 : List S25) (r : Int) (w : World) (h3 : Kd.C (Kd.int .u8) w A3 l3.length l3) (g3 : l3.length ≤ c3) (h4 : Kd.C k25 w A4 l4.length l4) (g4 : l4.length ≤ c4)
    (h : node_Depth.f k a0 a1 a2 l3 l4 = some r) :
    Calls Tryd.prog 14 #[.agg #[.int .i64 a0, .int .i64 a1, .int .i64 a2, .slice A3 l3.length c3, .slice A4 l4.length c4]] w fun e w' => e = .returned (.int .i64 r) ∧ Below w.heap.size w w' := by
  unfold node_Depth.f at h
  split at h
  · rename_i hok
    cases h
    exact depth_all _ ⟨a0, a1, a2, l3, l4⟩ (Nat.le_refl _) hok.1 hok.2 A3 c3 A4 c4 w h3 g3 h4 g4
  · cases h
theorem node_Objects.calls (k : Nat) (a0 a1 a2 : Int) (A3 : Option Addr) (c3 : Nat) (l3 : List Int) (A4 : Option Addr) (c4 : Nat) (l4 : List S25) (r : Int) (w : World) (h3 : Kd.C (Kd.int .u8) w A3 l3.length l3) (g3 : l3.length ≤ c3) (h4 : Kd.C k25 w A4 l4.length l4) (g4 : l4.length ≤ c4)
    (h : node_Objects.f k a0 a1 a2 l3 l4 = some r) :
    Calls Tryd.prog 16 #[.agg #[.int .i64 a0, .int .i64 a1, .int .i64 a2, .slice A3 l3.length c3, .slice A4 l4.length c4]] w fun e w' => e = .returned (.int .i64 r) ∧ Below w.heap.size w w' := by
  unfold node_Objects.f at h
  split at h
  · rename_i hok
    cases h
    exact objs_all _ ⟨a0, a1, a2, l3, l4⟩ (Nat.le_refl _) hok.1 hok.2 A3 c3 A4 c4 w h3 g3 h4 g4
  · cases h
end
end Go.Proofs.YtmbockhcmhghlaaDoor.Pr
end
section
namespace Go.Proofs.YtmbockhcmhghlaaDoor.Pr
open Go.RowKit Go.Proofs.YtmbockhcmhghlaaDoorW.PrintWords Go.Proofs.YtmbockhcmhghlaaDoorW.PrintLast Go.Proofs.YtmbockhcmhghlaaDoorW.PrintMore
set_option linter.unusedVariables false
set_option linter.unusedSimpArgs false
def capnplaw10_awake.f : Option Bool := some true
abbrev exZ : S25 := ⟨0, 0, 0, [], []⟩
abbrev exN : S25 := ⟨1, 0, 0, [], []⟩
abbrev exS : S25 := ⟨1, 0, 0, [], [z25]⟩
abbrev exE : S25 := ⟨1, 0, 0, [0, 0, 0, 0, 0, 0, 0, 0], [exS]⟩
abbrev exL : S25 := ⟨2, 7, 2, [], [exN, exE]⟩
abbrev exB : S25 := ⟨2, 1, 3, [7], []⟩
abbrev exD : S25 := ⟨2, 1, 3, [8], []⟩
abbrev exO : S25 := ⟨2, 7, 2, [], [exN, exZ]⟩
theorem ok_leaf (a0 a1 a2 : Int) (l3 : List Int) (h : ∀ x ∈ l3, 0 ≤ x ∧ x ≤ 255) : okT ⟨a0, a1, a2, l3, []⟩ := AllT.mk h (fun _ hx => by cases hx)
theorem ok_z : okT z25 := ok_leaf 0 0 0 [] (by decide)
theorem ok_s : okT exS := AllT.mk (by decide) (fun x hx => by rw [List.mem_singleton.1 hx]; exact ok_z)
theorem ok_e : okT exE := AllT.mk (by decide) (fun x hx => by rw [List.mem_singleton.1 hx]; exact ok_s)
theorem ok_n : okT exN := ok_leaf 1 0 0 [] (by decide)
theorem ok_two {a0 a1 a2 : Int} {x y : S25} (hx : okT x) (hy : okT y) : okT ⟨a0, a1, a2, [], [x, y]⟩ := AllT.mk (fun z hz => by cases hz) (fun z hz => by
  rcases List.mem_cons.1 hz with rfl | hz
  · exact hx
  · rw [List.mem_singleton.1 hz]; exact hy)
theorem ok_l : okT exL := ok_two ok_n ok_e
theorem ok_o : okT exO := ok_two ok_n ok_z
theorem ok_b : okT exB := ok_leaf 2 1 3 [7] (by decide)
theorem ok_d : okT exD := ok_leaf 2 1 3 [8] (by decide)
theorem val_f {k : Nat} {a0 a1 a2 : Int} {l3 : List Int} {l4 : List S25} (b : Bool) (ho : okT ⟨a0, a1, a2, l3, l4⟩) (hb : tvalid ⟨a0, a1, a2, l3, l4⟩ = b) : node_Valid.f k a0 a1 a2 l3 l4 = some b := by unfold node_Valid.f; rw [if_pos ho, hb]
theorem dep_f {k : Nat} {a0 a1 a2 : Int} {l3 : List Int} {l4 : List S25} (r : Int) (hv : tvalid ⟨a0, a1, a2, l3, l4⟩ = true) (hs : Nat.ble (tsize ⟨a0, a1, a2, l3, l4⟩) 4611686018427387904 = true) (hr : (tdepth ⟨a0, a1, a2, l3, l4⟩ : Int) = r) : node_Depth.f k a0 a1 a2 l3 l4 = some r := by unfold node_Depth.f; rw [if_pos ⟨hv, Nat.le_of_ble_eq_true hs⟩, hr]
theorem obj_f {k : Nat} {a0 a1 a2 : Int} {l3 : List Int} {l4 : List S25} (r : Int) (hv : tvalid ⟨a0, a1, a2, l3, l4⟩ = true) (hs : Nat.ble (tsize ⟨a0, a1, a2, l3, l4⟩) 4611686018427387904 = true) (hr : (tobjs ⟨a0, a1, a2, l3, l4⟩ : Int) = r) : node_Objects.f k a0 a1 a2 l3 l4 = some r := by unfold node_Objects.f; rw [if_pos ⟨hv, Nat.le_of_ble_eq_true hs⟩, hr]
theorem equ_f {k : Nat} {a0 a1 a2 : Int} {l3 : List Int} {l4 : List S25} {b0 b1 b2 : Int} {m3 : List Int} {m4 : List S25} (r : Bool) (ho : okT ⟨a0, a1, a2, l3, l4⟩) (hp : okT ⟨b0, b1, b2, m3, m4⟩) (hr : eqT ⟨a0, a1, a2, l3, l4⟩ ⟨b0, b1, b2, m3, m4⟩ = r) : node_Equal.f k a0 a1 a2 l3 l4 b0 b1 b2 m3 m4 = some r := by unfold node_Equal.f; rw [if_pos ⟨ho, hp⟩, hr]
theorem fx1 : node_Valid.f 0 0 0 0 [] [] = some true := val_f _ ok_z (by kernel_rfl)
theorem fx2 : node_Valid.f 0 1 0 0 [] [z25] = some true := val_f _ ok_s (by kernel_rfl)
theorem fx3 : node_Valid.f 0 2 7 2 [] [exN, exE] = some true := val_f _ ok_l (by kernel_rfl)
theorem fx4 : node_Valid.f 0 2 1 3 [7] [] = some true := val_f _ ok_b (by kernel_rfl)
theorem fx5 : node_Valid.f 0 2 1 3 [8] [] = some false := val_f _ ok_d (by kernel_rfl)
theorem fx6 : node_Valid.f 0 2 7 2 [] [exN, exZ] = some false := val_f _ ok_o (by kernel_rfl)
theorem fx7 : node_Valid.f 0 3 0 0 [] [] = some false := val_f _ (ok_leaf 3 0 0 [] (by decide)) (by kernel_rfl)
theorem fx8 : node_Valid.f 0 1 0 0 [0, 0, 0, 0] [] = some false := val_f _ (ok_leaf 1 0 0 [0, 0, 0, 0] (by decide)) (by kernel_rfl)
theorem fx9 : node_Depth.f 0 1 0 0 [] [z25] = some 1 := dep_f _ (by kernel_rfl) (by kernel_rfl) (by kernel_rfl)
theorem fx10 : node_Objects.f 0 1 0 0 [] [z25] = some 1 := obj_f _ (by kernel_rfl) (by kernel_rfl) (by kernel_rfl)
theorem fx11 : node_Depth.f 0 2 7 2 [] [exN, exE] = some 2 := dep_f _ (by kernel_rfl) (by kernel_rfl) (by kernel_rfl)
theorem fx12 : node_Objects.f 0 2 7 2 [] [exN, exE] = some 2 := obj_f _ (by kernel_rfl) (by kernel_rfl) (by kernel_rfl)
theorem fx13 : node_Depth.f 0 0 0 0 [] [] = some 0 := dep_f _ (by kernel_rfl) (by kernel_rfl) (by kernel_rfl)
theorem fx14 : node_Equal.f 0 2 7 2 [] [exN, exE] 2 7 2 [] [exN, exE] = some true := equ_f _ ok_l ok_l (eqT_true rfl)
theorem fx15 : node_Equal.f 0 2 7 2 [] [exN, exE] 2 1 3 [7] [] = some false := equ_f _ ok_l ok_b (eqT_false fun h => absurd (congrArg S25.f1 h) (by decide))
theorem fx16 : node_Equal.f 0 2 1 3 [7] [] 2 1 3 [8] [] = some false := equ_f _ ok_b ok_d (eqT_false fun h => absurd (congrArg S25.f3 h) (by decide))
theorem at_world {α : Type} {K : α → World → Prop} {a : α} {w : World} (h : ∀ W, W = w → K a W) : K a w := h w rfl
set_option maxRecDepth 100000 in
set_option maxHeartbeats 16000000 in
theorem capnplaw10_awake.calls (r : Bool) (w : World) (h : capnplaw10_awake.f = some r) (ht : Ls.Tab w) : Calls Tryd.prog 8 #[] w fun e w' => e = .returned (.bool r) ∧ Below w.heap.size w w' := by
  obtain rfl : true = r := Option.some.inj h
  clear h
  have mk1 : ∀ W : World, (Instr.makeSlice 23 (.int .i64 1) (.int .i64 1)).run Tryd.prog W = .ok (.slice (some ⟨W.heap.size, 0, none⟩) 1 1) (W.alloc (.cells #[.int .i64 0, .int .i64 0, .int .i64 0, .slice none 0 0, .slice none 0 0] 25)) := fun _ => by kernel_rfl
  have mk2 : ∀ W : World, (Instr.makeSlice 22 (.int .i64 8) (.int .i64 8)).run Tryd.prog W = .ok (.slice (some ⟨W.heap.size, 0, none⟩) 8 8) (W.alloc (.cells #[.int .u8 0, .int .u8 0, .int .u8 0, .int .u8 0, .int .u8 0, .int .u8 0, .int .u8 0, .int .u8 0] 5)) := fun _ => by kernel_rfl
  have mk3 : ∀ W : World, (Instr.makeSlice 22 (.int .i64 4) (.int .i64 4)).run Tryd.prog W = .ok (.slice (some ⟨W.heap.size, 0, none⟩) 4 4) (W.alloc (.cells #[.int .u8 0, .int .u8 0, .int .u8 0, .int .u8 0] 5)) := fun _ => by kernel_rfl
  have HT := Lib.hid ht
  clear ht
  have HB := Lib.hid (Below.refl w.heap.size w)
  go_enter Tryd.func8, Tryd.ntmps8
  go_upto_region 2 with fail
  refine wp_at (fun W1 hW => ?_)
  have hb : Below w.heap.size w W1 := by rw [hW]; repeat (first | exact Below.refl _ _ | refine Below.alloc ?_ (by first | exact Nat.le_refl _ | (simp <;> omega)) _)
  have nB6 : W1.heap[w.heap.size]? = some (.cells #[.int .i64 0, .int .i64 0, .int .i64 0, .slice none 0 0, .slice none 0 0] 25 (0, 0)) := by rw [hW]; repeat (first | exact heap_alloc_new _ _ | exact blk_new _ _ _ (by simp) | refine blk_alloc ?_ _)
  have nBS : W1.heap[w.heap.size + 1]? = some (.cells #[.int .i64 1, .int .i64 0, .int .i64 0, .slice none 0 0, .slice (some ⟨w.heap.size, 0, none⟩) 1 1] 25 (0, 0)) := by rw [hW]; repeat (first | exact heap_alloc_new _ _ | exact blk_new _ _ _ (by simp) | refine blk_alloc ?_ _)
  clear hW
  replace HT := Lib.hid (HT.out.below hb)
  replace HB := Lib.hid (below_step HB.out hb)
  clear hb
  have B6 := Lib.hid nB6
  clear nB6
  have BS := Lib.hid nBS
  clear nBS
  have l_BS : w.heap.size + 1 < W1.heap.size := blk_lt BS.out
  have q_BS_0 : W1.cell? ⟨w.heap.size + 1, 0, none⟩ = some (.int .i64 1) := (blk_cell BS.out 0).trans rfl
  have q_BS_1 : W1.cell? ⟨w.heap.size + 1, 1, none⟩ = some (.int .i64 0) := (blk_cell BS.out 1).trans rfl
  have q_BS_2 : W1.cell? ⟨w.heap.size + 1, 2, none⟩ = some (.int .i64 0) := (blk_cell BS.out 2).trans rfl
  have q_BS_3 : W1.cell? ⟨w.heap.size + 1, 3, none⟩ = some (.slice none 0 0) := (blk_cell BS.out 3).trans rfl
  have q_BS_4 : W1.cell? ⟨w.heap.size + 1, 4, none⟩ = some (.slice (some ⟨w.heap.size, 0, none⟩) 1 1) := (blk_cell BS.out 4).trans rfl
  refine start_ (n := 9) (S := fun w' => w'.cell? ⟨w.heap.size + 1, 0, none⟩ = some (.int .i64 1) ∧ w'.cell? ⟨w.heap.size + 1, 1, none⟩ = some (.int .i64 0) ∧ w'.cell? ⟨w.heap.size + 1, 2, none⟩ = some (.int .i64 0) ∧ w'.cell? ⟨w.heap.size + 1, 3, none⟩ = some (.slice none 0 0) ∧ w'.cell? ⟨w.heap.size + 1, 4, none⟩ = some (.slice (some ⟨w.heap.size, 0, none⟩) 1 1)) (ds := [8]) #[false, false, false, false, false, false, false, false, false] (by kernel_rfl) rfl rfl ⟨q_BS_0, q_BS_1, q_BS_2, q_BS_3, q_BS_4⟩ (fun hHeld => ?_)
  obtain ⟨wd, hwd⟩ : ∃ W, W = W1.drew := ⟨_, rfl⟩
  rw [← hwd] at hHeld ⊢
  have hb1d : Below W1.heap.size W1 wd := by rw [hwd]; exact (Below.refl _ _).drew
  clear hwd
  clear l_BS q_BS_0 q_BS_1 q_BS_2 q_BS_3 q_BS_4
  replace HT := Lib.hid (HT.out.below hb1d)
  replace HB := Lib.hid (below_step HB.out hb1d)
  replace B6 := Lib.hid (blk_below B6.out hb1d)
  replace BS := Lib.hid (blk_below BS.out hb1d)
  clear hb1d
  have l_BSd : w.heap.size + 1 < wd.heap.size := blk_lt BS.out
  have hbR := Below.refl wd.heap.size wd
  have qd_0 : wd.cell? ⟨w.heap.size + 1, 0, none⟩ = some (.int .i64 1) := (blk_cell BS.out 0).trans rfl
  have qd_1 : wd.cell? ⟨w.heap.size + 1, 1, none⟩ = some (.int .i64 0) := (blk_cell BS.out 1).trans rfl
  have qd_2 : wd.cell? ⟨w.heap.size + 1, 2, none⟩ = some (.int .i64 0) := (blk_cell BS.out 2).trans rfl
  have qd_3 : wd.cell? ⟨w.heap.size + 1, 3, none⟩ = some (.slice none 0 0) := (blk_cell BS.out 3).trans rfl
  have qd_4 : wd.cell? ⟨w.heap.size + 1, 4, none⟩ = some (.slice (some ⟨w.heap.size, 0, none⟩) 1 1) := (blk_cell BS.out 4).trans rfl
  refine pure_ (i := 0) (N := some 8) (v := ?_) (a' := ?_) #[true, false, false, false, false, false, false, false, false] rfl rfl (by kernel_rfl) (fun _ _ _ h => h) (Or.inl ⟨by rfl, ?_⟩) ?_ ?_
  rotate_left
  · intro w'
    go_simp
    with_reducible rfl
  rotate_left
  · simp only [Act.put, List.setIfInBounds_toArray, List.set_cons_zero, List.set_cons_succ, i64_w, i32_w]
    rfl
  refine take_ (i := 2) (N := some 10) (v := ?_) (a' := ?_) #[true, false, true, false, false, false, false, false, false] rfl rfl (by kernel_rfl) (fun _ _ _ h => h) (Or.inl ⟨by rfl, ?_⟩) hHeld ?_ ?_
  rotate_left
  · rintro w' ⟨s0, s1, s2, s3, s4⟩
    go_simp
    with_reducible rfl
  rotate_left
  · simp only [Act.put, List.setIfInBounds_toArray, List.set_cons_zero, List.set_cons_succ, i64_w, i32_w]
    rfl
  refine join_ (σ := Nat × Nat × Nat × Nat) 1 #[true, true, true, true, true, true, true, true, false] (fun s_ => [(9, .slice (some ⟨s_.1, 0, none⟩) 8 8), (11, .slice (some ⟨s_.2.1, 0, none⟩) 1 1), (12, .agg #[.int .i64 1, .int .i64 0, .int .i64 0, .slice (some ⟨s_.1, 0, none⟩) 8 8, .slice (some ⟨s_.2.1, 0, none⟩) 1 1]), (13, .slice (some ⟨s_.2.2.1, 0, none⟩) 2 2), (14, .agg #[.int .i64 2, .int .i64 7, .int .i64 2, .slice none 0 0, .slice (some ⟨s_.2.2.1, 0, none⟩) 2 2]), (2, .pointer (some ⟨s_.2.2.2, 0, none⟩))]) (fun s_ w' => (w'.cell? ⟨w.heap.size + 1, 0, none⟩ = some (.int .i64 1) ∧ w'.cell? ⟨w.heap.size + 1, 1, none⟩ = some (.int .i64 0) ∧ w'.cell? ⟨w.heap.size + 1, 2, none⟩ = some (.int .i64 0) ∧ w'.cell? ⟨w.heap.size + 1, 3, none⟩ = some (.slice none 0 0) ∧ w'.cell? ⟨w.heap.size + 1, 4, none⟩ = some (.slice (some ⟨w.heap.size, 0, none⟩) 1 1)) ∧ Below wd.heap.size wd w' ∧ wd.heap.size ≤ s_.2.2.2 ∧ Hid (w'.heap[s_.1]? = some (.cells #[(.int .u8 0), (.int .u8 0), (.int .u8 0), (.int .u8 0), (.int .u8 0), (.int .u8 0), (.int .u8 0), (.int .u8 0)] 5 (0, 0))) ∧ Hid (w'.heap[s_.2.1]? = some (.cells #[.int .i64 1, .int .i64 0, .int .i64 0, .slice none 0 0, .slice (some ⟨w.heap.size, 0, none⟩) 1 1] 25 (0, 0))) ∧ Hid (w'.heap[s_.2.2.1]? = some (.cells #[.int .i64 1, .int .i64 0, .int .i64 0, .slice none 0 0, .slice none 0 0, .int .i64 1, .int .i64 0, .int .i64 0, .slice (some ⟨s_.1, 0, none⟩) 8 8, .slice (some ⟨s_.2.1, 0, none⟩) 1 1] 25 (0, 0))) ∧ Hid (w'.heap[s_.2.2.2]? = some (.cells #[.int .i64 0, .int .i64 0, .int .i64 0, .slice none 0 0, .slice none 0 0] 25 (0, 0)))) ?_ ?_
  rotate_left
  · intro hCont
    refine three_ (i := 1) (j := 3) (k := 7) (Ni := some 9) (Nj := some 11) (Nk := some 2) #[true, true, true, false, false, false, false, false, false] #[true, false, true, true, false, false, false, false, false] #[true, false, true, false, false, false, false, true, false] rfl rfl rfl rfl rfl rfl (by kernel_rfl) (by decide) (by decide) (by decide) (fun K hK => ?_) (fun K hK => ?_) (fun K hK => ?_)
    · skip
      refine value_ (w1 := ?_) (v := ?_) (by rfl) rfl ?_ ?_
      rotate_left 2
      · go_simp
        constructor
        · rfl
        · rfl
      refine at_world (fun e1 he => ?_)
      have nD : e1.heap[wd.heap.size]? = some (.cells #[(.int .u8 0), (.int .u8 0), (.int .u8 0), (.int .u8 0), (.int .u8 0), (.int .u8 0), (.int .u8 0), (.int .u8 0)] 5 (0, 0)) := by rw [he]; exact heap_alloc_new _ _
      have hbE : Below wd.heap.size wd e1 := by rw [he]; exact (Below.refl _ _).alloc (Nat.le_refl _) _
      clear he
      have D9 := Lib.hid nD
      replace hbR := hbR.trans (hbE.mono hbR.size)
      clear nD hbE
      refine hK.out _ _ ⟨(hbR.cell (p := ⟨w.heap.size + 1, 0, none⟩) l_BSd).trans qd_0, (hbR.cell (p := ⟨w.heap.size + 1, 1, none⟩) l_BSd).trans qd_1, (hbR.cell (p := ⟨w.heap.size + 1, 2, none⟩) l_BSd).trans qd_2, (hbR.cell (p := ⟨w.heap.size + 1, 3, none⟩) l_BSd).trans qd_3, (hbR.cell (p := ⟨w.heap.size + 1, 4, none⟩) l_BSd).trans qd_4⟩ (fun hHeld => ?_)
      clear hK K
      refine norm_ (a' := ?_) ?_ ?_
      rotate_left
      · show Act.put _ (some 9) _ = _
        simp only [Act.put, List.setIfInBounds_toArray, List.set_cons_zero, List.set_cons_succ, i64_w, i32_w]
        rfl
      refine two_ (i := 3) (j := 7) (Ni := some 11) (Nj := some 2) #[true, true, true, true, false, false, false, false, false] #[true, true, true, false, false, false, false, true, false] rfl rfl rfl rfl (by kernel_rfl) (by decide) (by decide) (fun K hK => ?_) (fun K hK => ?_)
      · skip
        refine value_ (w1 := ?_) (v := ?_) (by rfl) rfl ?_ ?_
        rotate_left 2
        · go_simp
          constructor
          · rfl
          · rfl
        refine at_world (fun e2 he => ?_)
        have nD : e2.heap[e1.heap.size]? = some (.cells #[.int .i64 1, .int .i64 0, .int .i64 0, .slice none 0 0, .slice (some ⟨w.heap.size, 0, none⟩) 1 1] 25 (0, 0)) := by rw [he]; exact heap_alloc_new _ _
        have hbE : Below e1.heap.size e1 e2 := by rw [he]; exact (Below.refl _ _).alloc (Nat.le_refl _) _
        clear he
        replace D9 := Lib.hid (blk_below D9.out hbE)
        have D11 := Lib.hid nD
        replace hbR := hbR.trans (hbE.mono hbR.size)
        clear nD hbE
        refine hK.out _ _ ⟨(hbR.cell (p := ⟨w.heap.size + 1, 0, none⟩) l_BSd).trans qd_0, (hbR.cell (p := ⟨w.heap.size + 1, 1, none⟩) l_BSd).trans qd_1, (hbR.cell (p := ⟨w.heap.size + 1, 2, none⟩) l_BSd).trans qd_2, (hbR.cell (p := ⟨w.heap.size + 1, 3, none⟩) l_BSd).trans qd_3, (hbR.cell (p := ⟨w.heap.size + 1, 4, none⟩) l_BSd).trans qd_4⟩ (fun hHeld => ?_)
        clear hK K
        refine norm_ (a' := ?_) ?_ ?_
        rotate_left
        · show Act.put _ (some 11) _ = _
          simp only [Act.put, List.setIfInBounds_toArray, List.set_cons_zero, List.set_cons_succ, i64_w, i32_w]
          rfl
        refine pure_ (i := 4) (N := some 12) (v := ?_) (a' := ?_) #[true, true, true, true, true, false, false, false, false] rfl rfl (by kernel_rfl) (fun _ _ _ h => h) (Or.inl ⟨by rfl, ?_⟩) ?_ ?_
        rotate_left
        · intro w'
          go_simp
          with_reducible rfl
        rotate_left
        · simp only [Act.put, List.setIfInBounds_toArray, List.set_cons_zero, List.set_cons_succ, i64_w, i32_w]
          rfl
        refine two_ (i := 5) (j := 7) (Ni := some 13) (Nj := some 2) #[true, true, true, true, true, true, false, false, false] #[true, true, true, true, true, false, false, true, false] rfl rfl rfl rfl (by kernel_rfl) (by decide) (by decide) (fun K hK => ?_) (fun K hK => ?_)
        · skip
          refine value_ (w1 := ?_) (v := ?_) (by rfl) rfl ?_ ?_
          rotate_left 2
          · go_simp
            constructor
            · rfl
            · rfl
          refine at_world (fun e3 he => ?_)
          have nD : e3.heap[e2.heap.size]? = some (.cells #[.int .i64 1, .int .i64 0, .int .i64 0, .slice none 0 0, .slice none 0 0, .int .i64 1, .int .i64 0, .int .i64 0, .slice (some ⟨wd.heap.size, 0, none⟩) 8 8, .slice (some ⟨e1.heap.size, 0, none⟩) 1 1] 25 (0, 0)) := by rw [he]; exact heap_alloc_new _ _
          have hbE : Below e2.heap.size e2 e3 := by rw [he]; exact (Below.refl _ _).alloc (Nat.le_refl _) _
          clear he
          replace D9 := Lib.hid (blk_below D9.out hbE)
          replace D11 := Lib.hid (blk_below D11.out hbE)
          have D13 := Lib.hid nD
          replace hbR := hbR.trans (hbE.mono hbR.size)
          clear nD hbE
          refine hK.out _ _ ⟨(hbR.cell (p := ⟨w.heap.size + 1, 0, none⟩) l_BSd).trans qd_0, (hbR.cell (p := ⟨w.heap.size + 1, 1, none⟩) l_BSd).trans qd_1, (hbR.cell (p := ⟨w.heap.size + 1, 2, none⟩) l_BSd).trans qd_2, (hbR.cell (p := ⟨w.heap.size + 1, 3, none⟩) l_BSd).trans qd_3, (hbR.cell (p := ⟨w.heap.size + 1, 4, none⟩) l_BSd).trans qd_4⟩ (fun hHeld => ?_)
          clear hK K
          refine norm_ (a' := ?_) ?_ ?_
          rotate_left
          · show Act.put _ (some 13) _ = _
            simp only [Act.put, List.setIfInBounds_toArray, List.set_cons_zero, List.set_cons_succ, i64_w, i32_w]
            rfl
          refine pure_ (i := 6) (N := some 14) (v := ?_) (a' := ?_) #[true, true, true, true, true, true, true, false, false] rfl rfl (by kernel_rfl) (fun _ _ _ h => h) (Or.inl ⟨by rfl, ?_⟩) ?_ ?_
          rotate_left
          · intro w'
            go_simp
            with_reducible rfl
          rotate_left
          · simp only [Act.put, List.setIfInBounds_toArray, List.set_cons_zero, List.set_cons_succ, i64_w, i32_w]
            rfl
          refine one_ (i := 7) (N := some 2) #[true, true, true, true, true, true, true, true, false] rfl rfl (by kernel_rfl) (by decide) (fun K hK => ?_)
          refine value_ (w1 := ?_) (v := ?_) (by rfl) rfl ?_ ?_
          rotate_left 2
          · go_simp
            constructor
            · rfl
            · rfl
          refine at_world (fun e4 he => ?_)
          have nD : e4.heap[e3.heap.size]? = some (.cells #[.int .i64 0, .int .i64 0, .int .i64 0, .slice none 0 0, .slice none 0 0] 25 (0, 0)) := by rw [he]; exact heap_alloc_new _ _
          have hbE : Below e3.heap.size e3 e4 := by rw [he]; exact (Below.refl _ _).alloc (Nat.le_refl _) _
          clear he
          have hgl : wd.heap.size ≤ e3.heap.size := hbR.size
          replace D9 := Lib.hid (blk_below D9.out hbE)
          replace D11 := Lib.hid (blk_below D11.out hbE)
          replace D13 := Lib.hid (blk_below D13.out hbE)
          have Dl := Lib.hid nD
          replace hbR := hbR.trans (hbE.mono hbR.size)
          clear nD hbE
          refine hK.out _ _ ⟨(hbR.cell (p := ⟨w.heap.size + 1, 0, none⟩) l_BSd).trans qd_0, (hbR.cell (p := ⟨w.heap.size + 1, 1, none⟩) l_BSd).trans qd_1, (hbR.cell (p := ⟨w.heap.size + 1, 2, none⟩) l_BSd).trans qd_2, (hbR.cell (p := ⟨w.heap.size + 1, 3, none⟩) l_BSd).trans qd_3, (hbR.cell (p := ⟨w.heap.size + 1, 4, none⟩) l_BSd).trans qd_4⟩ (fun hHeld => ?_)
          clear hK K
          refine norm_ (a' := ?_) ?_ ?_
          rotate_left
          · show Act.put _ (some 2) _ = _
            simp only [Act.put, List.setIfInBounds_toArray, List.set_cons_zero, List.set_cons_succ, i64_w, i32_w]
            rfl
          exact norm_ (by simp only [putAll, Act.put, List.setIfInBounds_toArray, List.set_cons_zero, List.set_cons_succ]) (hCont (wd.heap.size, e1.heap.size, e2.heap.size, e3.heap.size) _ ⟨⟨(hbR.cell (p := ⟨w.heap.size + 1, 0, none⟩) l_BSd).trans qd_0, (hbR.cell (p := ⟨w.heap.size + 1, 1, none⟩) l_BSd).trans qd_1, (hbR.cell (p := ⟨w.heap.size + 1, 2, none⟩) l_BSd).trans qd_2, (hbR.cell (p := ⟨w.heap.size + 1, 3, none⟩) l_BSd).trans qd_3, (hbR.cell (p := ⟨w.heap.size + 1, 4, none⟩) l_BSd).trans qd_4⟩, hbR, hgl, D9, D11, D13, Dl⟩)
        · skip
          refine value_ (w1 := ?_) (v := ?_) (by rfl) rfl ?_ ?_
          rotate_left 2
          · go_simp
            constructor
            · rfl
            · rfl
          refine at_world (fun e3 he => ?_)
          have nD : e3.heap[e2.heap.size]? = some (.cells #[.int .i64 0, .int .i64 0, .int .i64 0, .slice none 0 0, .slice none 0 0] 25 (0, 0)) := by rw [he]; exact heap_alloc_new _ _
          have hbE : Below e2.heap.size e2 e3 := by rw [he]; exact (Below.refl _ _).alloc (Nat.le_refl _) _
          clear he
          have hgl : wd.heap.size ≤ e2.heap.size := hbR.size
          replace D9 := Lib.hid (blk_below D9.out hbE)
          replace D11 := Lib.hid (blk_below D11.out hbE)
          have Dl := Lib.hid nD
          replace hbR := hbR.trans (hbE.mono hbR.size)
          clear nD hbE
          refine hK.out _ _ ⟨(hbR.cell (p := ⟨w.heap.size + 1, 0, none⟩) l_BSd).trans qd_0, (hbR.cell (p := ⟨w.heap.size + 1, 1, none⟩) l_BSd).trans qd_1, (hbR.cell (p := ⟨w.heap.size + 1, 2, none⟩) l_BSd).trans qd_2, (hbR.cell (p := ⟨w.heap.size + 1, 3, none⟩) l_BSd).trans qd_3, (hbR.cell (p := ⟨w.heap.size + 1, 4, none⟩) l_BSd).trans qd_4⟩ (fun hHeld => ?_)
          clear hK K
          refine norm_ (a' := ?_) ?_ ?_
          rotate_left
          · show Act.put _ (some 2) _ = _
            simp only [Act.put, List.setIfInBounds_toArray, List.set_cons_zero, List.set_cons_succ, i64_w, i32_w]
            rfl
          refine one_ (i := 5) (N := some 13) #[true, true, true, true, true, true, false, true, false] rfl rfl (by kernel_rfl) (by decide) (fun K hK => ?_)
          refine value_ (w1 := ?_) (v := ?_) (by rfl) rfl ?_ ?_
          rotate_left 2
          · go_simp
            constructor
            · rfl
            · rfl
          refine at_world (fun e4 he => ?_)
          have nD : e4.heap[e3.heap.size]? = some (.cells #[.int .i64 1, .int .i64 0, .int .i64 0, .slice none 0 0, .slice none 0 0, .int .i64 1, .int .i64 0, .int .i64 0, .slice (some ⟨wd.heap.size, 0, none⟩) 8 8, .slice (some ⟨e1.heap.size, 0, none⟩) 1 1] 25 (0, 0)) := by rw [he]; exact heap_alloc_new _ _
          have hbE : Below e3.heap.size e3 e4 := by rw [he]; exact (Below.refl _ _).alloc (Nat.le_refl _) _
          clear he
          replace D9 := Lib.hid (blk_below D9.out hbE)
          replace D11 := Lib.hid (blk_below D11.out hbE)
          replace Dl := Lib.hid (blk_below Dl.out hbE)
          have D13 := Lib.hid nD
          replace hbR := hbR.trans (hbE.mono hbR.size)
          clear nD hbE
          refine hK.out _ _ ⟨(hbR.cell (p := ⟨w.heap.size + 1, 0, none⟩) l_BSd).trans qd_0, (hbR.cell (p := ⟨w.heap.size + 1, 1, none⟩) l_BSd).trans qd_1, (hbR.cell (p := ⟨w.heap.size + 1, 2, none⟩) l_BSd).trans qd_2, (hbR.cell (p := ⟨w.heap.size + 1, 3, none⟩) l_BSd).trans qd_3, (hbR.cell (p := ⟨w.heap.size + 1, 4, none⟩) l_BSd).trans qd_4⟩ (fun hHeld => ?_)
          clear hK K
          refine norm_ (a' := ?_) ?_ ?_
          rotate_left
          · show Act.put _ (some 13) _ = _
            simp only [Act.put, List.setIfInBounds_toArray, List.set_cons_zero, List.set_cons_succ, i64_w, i32_w]
            rfl
          refine pure_ (i := 6) (N := some 14) (v := ?_) (a' := ?_) #[true, true, true, true, true, true, true, true, false] rfl rfl (by kernel_rfl) (fun _ _ _ h => h) (Or.inl ⟨by rfl, ?_⟩) ?_ ?_
          rotate_left
          · intro w'
            go_simp
            with_reducible rfl
          rotate_left
          · simp only [Act.put, List.setIfInBounds_toArray, List.set_cons_zero, List.set_cons_succ, i64_w, i32_w]
            rfl
          exact norm_ (by simp only [putAll, Act.put, List.setIfInBounds_toArray, List.set_cons_zero, List.set_cons_succ]) (hCont (wd.heap.size, e1.heap.size, e3.heap.size, e2.heap.size) _ ⟨⟨(hbR.cell (p := ⟨w.heap.size + 1, 0, none⟩) l_BSd).trans qd_0, (hbR.cell (p := ⟨w.heap.size + 1, 1, none⟩) l_BSd).trans qd_1, (hbR.cell (p := ⟨w.heap.size + 1, 2, none⟩) l_BSd).trans qd_2, (hbR.cell (p := ⟨w.heap.size + 1, 3, none⟩) l_BSd).trans qd_3, (hbR.cell (p := ⟨w.heap.size + 1, 4, none⟩) l_BSd).trans qd_4⟩, hbR, hgl, D9, D11, D13, Dl⟩)
      · skip
        refine value_ (w1 := ?_) (v := ?_) (by rfl) rfl ?_ ?_
        rotate_left 2
        · go_simp
          constructor
          · rfl
          · rfl
        refine at_world (fun e2 he => ?_)
        have nD : e2.heap[e1.heap.size]? = some (.cells #[.int .i64 0, .int .i64 0, .int .i64 0, .slice none 0 0, .slice none 0 0] 25 (0, 0)) := by rw [he]; exact heap_alloc_new _ _
        have hbE : Below e1.heap.size e1 e2 := by rw [he]; exact (Below.refl _ _).alloc (Nat.le_refl _) _
        clear he
        have hgl : wd.heap.size ≤ e1.heap.size := hbR.size
        replace D9 := Lib.hid (blk_below D9.out hbE)
        have Dl := Lib.hid nD
        replace hbR := hbR.trans (hbE.mono hbR.size)
        clear nD hbE
        refine hK.out _ _ ⟨(hbR.cell (p := ⟨w.heap.size + 1, 0, none⟩) l_BSd).trans qd_0, (hbR.cell (p := ⟨w.heap.size + 1, 1, none⟩) l_BSd).trans qd_1, (hbR.cell (p := ⟨w.heap.size + 1, 2, none⟩) l_BSd).trans qd_2, (hbR.cell (p := ⟨w.heap.size + 1, 3, none⟩) l_BSd).trans qd_3, (hbR.cell (p := ⟨w.heap.size + 1, 4, none⟩) l_BSd).trans qd_4⟩ (fun hHeld => ?_)
        clear hK K
        refine norm_ (a' := ?_) ?_ ?_
        rotate_left
        · show Act.put _ (some 2) _ = _
          simp only [Act.put, List.setIfInBounds_toArray, List.set_cons_zero, List.set_cons_succ, i64_w, i32_w]
          rfl
        refine one_ (i := 3) (N := some 11) #[true, true, true, true, false, false, false, true, false] rfl rfl (by kernel_rfl) (by decide) (fun K hK => ?_)
        refine value_ (w1 := ?_) (v := ?_) (by rfl) rfl ?_ ?_
        rotate_left 2
        · go_simp
          constructor
          · rfl
          · rfl
        refine at_world (fun e3 he => ?_)
        have nD : e3.heap[e2.heap.size]? = some (.cells #[.int .i64 1, .int .i64 0, .int .i64 0, .slice none 0 0, .slice (some ⟨w.heap.size, 0, none⟩) 1 1] 25 (0, 0)) := by rw [he]; exact heap_alloc_new _ _
        have hbE : Below e2.heap.size e2 e3 := by rw [he]; exact (Below.refl _ _).alloc (Nat.le_refl _) _
        clear he
        replace D9 := Lib.hid (blk_below D9.out hbE)
        replace Dl := Lib.hid (blk_below Dl.out hbE)
        have D11 := Lib.hid nD
        replace hbR := hbR.trans (hbE.mono hbR.size)
        clear nD hbE
        refine hK.out _ _ ⟨(hbR.cell (p := ⟨w.heap.size + 1, 0, none⟩) l_BSd).trans qd_0, (hbR.cell (p := ⟨w.heap.size + 1, 1, none⟩) l_BSd).trans qd_1, (hbR.cell (p := ⟨w.heap.size + 1, 2, none⟩) l_BSd).trans qd_2, (hbR.cell (p := ⟨w.heap.size + 1, 3, none⟩) l_BSd).trans qd_3, (hbR.cell (p := ⟨w.heap.size + 1, 4, none⟩) l_BSd).trans qd_4⟩ (fun hHeld => ?_)
        clear hK K
        refine norm_ (a' := ?_) ?_ ?_
        rotate_left
        · show Act.put _ (some 11) _ = _
          simp only [Act.put, List.setIfInBounds_toArray, List.set_cons_zero, List.set_cons_succ, i64_w, i32_w]
          rfl
        refine pure_ (i := 4) (N := some 12) (v := ?_) (a' := ?_) #[true, true, true, true, true, false, false, true, false] rfl rfl (by kernel_rfl) (fun _ _ _ h => h) (Or.inl ⟨by rfl, ?_⟩) ?_ ?_
        rotate_left
        · intro w'
          go_simp
          with_reducible rfl
        rotate_left
        · simp only [Act.put, List.setIfInBounds_toArray, List.set_cons_zero, List.set_cons_succ, i64_w, i32_w]
          rfl
        refine one_ (i := 5) (N := some 13) #[true, true, true, true, true, true, false, true, false] rfl rfl (by kernel_rfl) (by decide) (fun K hK => ?_)
        refine value_ (w1 := ?_) (v := ?_) (by rfl) rfl ?_ ?_
        rotate_left 2
        · go_simp
          constructor
          · rfl
          · rfl
        refine at_world (fun e4 he => ?_)
        have nD : e4.heap[e3.heap.size]? = some (.cells #[.int .i64 1, .int .i64 0, .int .i64 0, .slice none 0 0, .slice none 0 0, .int .i64 1, .int .i64 0, .int .i64 0, .slice (some ⟨wd.heap.size, 0, none⟩) 8 8, .slice (some ⟨e2.heap.size, 0, none⟩) 1 1] 25 (0, 0)) := by rw [he]; exact heap_alloc_new _ _
        have hbE : Below e3.heap.size e3 e4 := by rw [he]; exact (Below.refl _ _).alloc (Nat.le_refl _) _
        clear he
        replace D9 := Lib.hid (blk_below D9.out hbE)
        replace Dl := Lib.hid (blk_below Dl.out hbE)
        replace D11 := Lib.hid (blk_below D11.out hbE)
        have D13 := Lib.hid nD
        replace hbR := hbR.trans (hbE.mono hbR.size)
        clear nD hbE
        refine hK.out _ _ ⟨(hbR.cell (p := ⟨w.heap.size + 1, 0, none⟩) l_BSd).trans qd_0, (hbR.cell (p := ⟨w.heap.size + 1, 1, none⟩) l_BSd).trans qd_1, (hbR.cell (p := ⟨w.heap.size + 1, 2, none⟩) l_BSd).trans qd_2, (hbR.cell (p := ⟨w.heap.size + 1, 3, none⟩) l_BSd).trans qd_3, (hbR.cell (p := ⟨w.heap.size + 1, 4, none⟩) l_BSd).trans qd_4⟩ (fun hHeld => ?_)
        clear hK K
        refine norm_ (a' := ?_) ?_ ?_
        rotate_left
        · show Act.put _ (some 13) _ = _
          simp only [Act.put, List.setIfInBounds_toArray, List.set_cons_zero, List.set_cons_succ, i64_w, i32_w]
          rfl
        refine pure_ (i := 6) (N := some 14) (v := ?_) (a' := ?_) #[true, true, true, true, true, true, true, true, false] rfl rfl (by kernel_rfl) (fun _ _ _ h => h) (Or.inl ⟨by rfl, ?_⟩) ?_ ?_
        rotate_left
        · intro w'
          go_simp
          with_reducible rfl
        rotate_left
        · simp only [Act.put, List.setIfInBounds_toArray, List.set_cons_zero, List.set_cons_succ, i64_w, i32_w]
          rfl
        exact norm_ (by simp only [putAll, Act.put, List.setIfInBounds_toArray, List.set_cons_zero, List.set_cons_succ]) (hCont (wd.heap.size, e2.heap.size, e3.heap.size, e1.heap.size) _ ⟨⟨(hbR.cell (p := ⟨w.heap.size + 1, 0, none⟩) l_BSd).trans qd_0, (hbR.cell (p := ⟨w.heap.size + 1, 1, none⟩) l_BSd).trans qd_1, (hbR.cell (p := ⟨w.heap.size + 1, 2, none⟩) l_BSd).trans qd_2, (hbR.cell (p := ⟨w.heap.size + 1, 3, none⟩) l_BSd).trans qd_3, (hbR.cell (p := ⟨w.heap.size + 1, 4, none⟩) l_BSd).trans qd_4⟩, hbR, hgl, D9, D11, D13, Dl⟩)
    · skip
      refine value_ (w1 := ?_) (v := ?_) (by rfl) rfl ?_ ?_
      rotate_left 2
      · go_simp
        constructor
        · rfl
        · rfl
      refine at_world (fun e1 he => ?_)
      have nD : e1.heap[wd.heap.size]? = some (.cells #[.int .i64 1, .int .i64 0, .int .i64 0, .slice none 0 0, .slice (some ⟨w.heap.size, 0, none⟩) 1 1] 25 (0, 0)) := by rw [he]; exact heap_alloc_new _ _
      have hbE : Below wd.heap.size wd e1 := by rw [he]; exact (Below.refl _ _).alloc (Nat.le_refl _) _
      clear he
      have D11 := Lib.hid nD
      replace hbR := hbR.trans (hbE.mono hbR.size)
      clear nD hbE
      refine hK.out _ _ ⟨(hbR.cell (p := ⟨w.heap.size + 1, 0, none⟩) l_BSd).trans qd_0, (hbR.cell (p := ⟨w.heap.size + 1, 1, none⟩) l_BSd).trans qd_1, (hbR.cell (p := ⟨w.heap.size + 1, 2, none⟩) l_BSd).trans qd_2, (hbR.cell (p := ⟨w.heap.size + 1, 3, none⟩) l_BSd).trans qd_3, (hbR.cell (p := ⟨w.heap.size + 1, 4, none⟩) l_BSd).trans qd_4⟩ (fun hHeld => ?_)
      clear hK K
      refine norm_ (a' := ?_) ?_ ?_
      rotate_left
      · show Act.put _ (some 11) _ = _
        simp only [Act.put, List.setIfInBounds_toArray, List.set_cons_zero, List.set_cons_succ, i64_w, i32_w]
        rfl
      refine two_ (i := 1) (j := 7) (Ni := some 9) (Nj := some 2) #[true, true, true, true, false, false, false, false, false] #[true, false, true, true, false, false, false, true, false] rfl rfl rfl rfl (by kernel_rfl) (by decide) (by decide) (fun K hK => ?_) (fun K hK => ?_)
      · skip
        refine value_ (w1 := ?_) (v := ?_) (by rfl) rfl ?_ ?_
        rotate_left 2
        · go_simp
          constructor
          · rfl
          · rfl
        refine at_world (fun e2 he => ?_)
        have nD : e2.heap[e1.heap.size]? = some (.cells #[(.int .u8 0), (.int .u8 0), (.int .u8 0), (.int .u8 0), (.int .u8 0), (.int .u8 0), (.int .u8 0), (.int .u8 0)] 5 (0, 0)) := by rw [he]; exact heap_alloc_new _ _
        have hbE : Below e1.heap.size e1 e2 := by rw [he]; exact (Below.refl _ _).alloc (Nat.le_refl _) _
        clear he
        replace D11 := Lib.hid (blk_below D11.out hbE)
        have D9 := Lib.hid nD
        replace hbR := hbR.trans (hbE.mono hbR.size)
        clear nD hbE
        refine hK.out _ _ ⟨(hbR.cell (p := ⟨w.heap.size + 1, 0, none⟩) l_BSd).trans qd_0, (hbR.cell (p := ⟨w.heap.size + 1, 1, none⟩) l_BSd).trans qd_1, (hbR.cell (p := ⟨w.heap.size + 1, 2, none⟩) l_BSd).trans qd_2, (hbR.cell (p := ⟨w.heap.size + 1, 3, none⟩) l_BSd).trans qd_3, (hbR.cell (p := ⟨w.heap.size + 1, 4, none⟩) l_BSd).trans qd_4⟩ (fun hHeld => ?_)
        clear hK K
        refine norm_ (a' := ?_) ?_ ?_
        rotate_left
        · show Act.put _ (some 9) _ = _
          simp only [Act.put, List.setIfInBounds_toArray, List.set_cons_zero, List.set_cons_succ, i64_w, i32_w]
          rfl
        refine pure_ (i := 4) (N := some 12) (v := ?_) (a' := ?_) #[true, true, true, true, true, false, false, false, false] rfl rfl (by kernel_rfl) (fun _ _ _ h => h) (Or.inl ⟨by rfl, ?_⟩) ?_ ?_
        rotate_left
        · intro w'
          go_simp
          with_reducible rfl
        rotate_left
        · simp only [Act.put, List.setIfInBounds_toArray, List.set_cons_zero, List.set_cons_succ, i64_w, i32_w]
          rfl
        refine two_ (i := 5) (j := 7) (Ni := some 13) (Nj := some 2) #[true, true, true, true, true, true, false, false, false] #[true, true, true, true, true, false, false, true, false] rfl rfl rfl rfl (by kernel_rfl) (by decide) (by decide) (fun K hK => ?_) (fun K hK => ?_)
        · skip
          refine value_ (w1 := ?_) (v := ?_) (by rfl) rfl ?_ ?_
          rotate_left 2
          · go_simp
            constructor
            · rfl
            · rfl
          refine at_world (fun e3 he => ?_)
          have nD : e3.heap[e2.heap.size]? = some (.cells #[.int .i64 1, .int .i64 0, .int .i64 0, .slice none 0 0, .slice none 0 0, .int .i64 1, .int .i64 0, .int .i64 0, .slice (some ⟨e1.heap.size, 0, none⟩) 8 8, .slice (some ⟨wd.heap.size, 0, none⟩) 1 1] 25 (0, 0)) := by rw [he]; exact heap_alloc_new _ _
          have hbE : Below e2.heap.size e2 e3 := by rw [he]; exact (Below.refl _ _).alloc (Nat.le_refl _) _
          clear he
          replace D11 := Lib.hid (blk_below D11.out hbE)
          replace D9 := Lib.hid (blk_below D9.out hbE)
          have D13 := Lib.hid nD
          replace hbR := hbR.trans (hbE.mono hbR.size)
          clear nD hbE
          refine hK.out _ _ ⟨(hbR.cell (p := ⟨w.heap.size + 1, 0, none⟩) l_BSd).trans qd_0, (hbR.cell (p := ⟨w.heap.size + 1, 1, none⟩) l_BSd).trans qd_1, (hbR.cell (p := ⟨w.heap.size + 1, 2, none⟩) l_BSd).trans qd_2, (hbR.cell (p := ⟨w.heap.size + 1, 3, none⟩) l_BSd).trans qd_3, (hbR.cell (p := ⟨w.heap.size + 1, 4, none⟩) l_BSd).trans qd_4⟩ (fun hHeld => ?_)
          clear hK K
          refine norm_ (a' := ?_) ?_ ?_
          rotate_left
          · show Act.put _ (some 13) _ = _
            simp only [Act.put, List.setIfInBounds_toArray, List.set_cons_zero, List.set_cons_succ, i64_w, i32_w]
            rfl
          refine pure_ (i := 6) (N := some 14) (v := ?_) (a' := ?_) #[true, true, true, true, true, true, true, false, false] rfl rfl (by kernel_rfl) (fun _ _ _ h => h) (Or.inl ⟨by rfl, ?_⟩) ?_ ?_
          rotate_left
          · intro w'
            go_simp
            with_reducible rfl
          rotate_left
          · simp only [Act.put, List.setIfInBounds_toArray, List.set_cons_zero, List.set_cons_succ, i64_w, i32_w]
            rfl
          refine one_ (i := 7) (N := some 2) #[true, true, true, true, true, true, true, true, false] rfl rfl (by kernel_rfl) (by decide) (fun K hK => ?_)
          refine value_ (w1 := ?_) (v := ?_) (by rfl) rfl ?_ ?_
          rotate_left 2
          · go_simp
            constructor
            · rfl
            · rfl
          refine at_world (fun e4 he => ?_)
          have nD : e4.heap[e3.heap.size]? = some (.cells #[.int .i64 0, .int .i64 0, .int .i64 0, .slice none 0 0, .slice none 0 0] 25 (0, 0)) := by rw [he]; exact heap_alloc_new _ _
          have hbE : Below e3.heap.size e3 e4 := by rw [he]; exact (Below.refl _ _).alloc (Nat.le_refl _) _
          clear he
          have hgl : wd.heap.size ≤ e3.heap.size := hbR.size
          replace D11 := Lib.hid (blk_below D11.out hbE)
          replace D9 := Lib.hid (blk_below D9.out hbE)
          replace D13 := Lib.hid (blk_below D13.out hbE)
          have Dl := Lib.hid nD
          replace hbR := hbR.trans (hbE.mono hbR.size)
          clear nD hbE
          refine hK.out _ _ ⟨(hbR.cell (p := ⟨w.heap.size + 1, 0, none⟩) l_BSd).trans qd_0, (hbR.cell (p := ⟨w.heap.size + 1, 1, none⟩) l_BSd).trans qd_1, (hbR.cell (p := ⟨w.heap.size + 1, 2, none⟩) l_BSd).trans qd_2, (hbR.cell (p := ⟨w.heap.size + 1, 3, none⟩) l_BSd).trans qd_3, (hbR.cell (p := ⟨w.heap.size + 1, 4, none⟩) l_BSd).trans qd_4⟩ (fun hHeld => ?_)
          clear hK K
          refine norm_ (a' := ?_) ?_ ?_
          rotate_left
          · show Act.put _ (some 2) _ = _
            simp only [Act.put, List.setIfInBounds_toArray, List.set_cons_zero, List.set_cons_succ, i64_w, i32_w]
            rfl
          exact norm_ (by simp only [putAll, Act.put, List.setIfInBounds_toArray, List.set_cons_zero, List.set_cons_succ]) (hCont (e1.heap.size, wd.heap.size, e2.heap.size, e3.heap.size) _ ⟨⟨(hbR.cell (p := ⟨w.heap.size + 1, 0, none⟩) l_BSd).trans qd_0, (hbR.cell (p := ⟨w.heap.size + 1, 1, none⟩) l_BSd).trans qd_1, (hbR.cell (p := ⟨w.heap.size + 1, 2, none⟩) l_BSd).trans qd_2, (hbR.cell (p := ⟨w.heap.size + 1, 3, none⟩) l_BSd).trans qd_3, (hbR.cell (p := ⟨w.heap.size + 1, 4, none⟩) l_BSd).trans qd_4⟩, hbR, hgl, D9, D11, D13, Dl⟩)
        · skip
          refine value_ (w1 := ?_) (v := ?_) (by rfl) rfl ?_ ?_
          rotate_left 2
          · go_simp
            constructor
            · rfl
            · rfl
          refine at_world (fun e3 he => ?_)
          have nD : e3.heap[e2.heap.size]? = some (.cells #[.int .i64 0, .int .i64 0, .int .i64 0, .slice none 0 0, .slice none 0 0] 25 (0, 0)) := by rw [he]; exact heap_alloc_new _ _
          have hbE : Below e2.heap.size e2 e3 := by rw [he]; exact (Below.refl _ _).alloc (Nat.le_refl _) _
          clear he
          have hgl : wd.heap.size ≤ e2.heap.size := hbR.size
          replace D11 := Lib.hid (blk_below D11.out hbE)
          replace D9 := Lib.hid (blk_below D9.out hbE)
          have Dl := Lib.hid nD
          replace hbR := hbR.trans (hbE.mono hbR.size)
          clear nD hbE
          refine hK.out _ _ ⟨(hbR.cell (p := ⟨w.heap.size + 1, 0, none⟩) l_BSd).trans qd_0, (hbR.cell (p := ⟨w.heap.size + 1, 1, none⟩) l_BSd).trans qd_1, (hbR.cell (p := ⟨w.heap.size + 1, 2, none⟩) l_BSd).trans qd_2, (hbR.cell (p := ⟨w.heap.size + 1, 3, none⟩) l_BSd).trans qd_3, (hbR.cell (p := ⟨w.heap.size + 1, 4, none⟩) l_BSd).trans qd_4⟩ (fun hHeld => ?_)
          clear hK K
          refine norm_ (a' := ?_) ?_ ?_
          rotate_left
          · show Act.put _ (some 2) _ = _
            simp only [Act.put, List.setIfInBounds_toArray, List.set_cons_zero, List.set_cons_succ, i64_w, i32_w]
            rfl
          refine one_ (i := 5) (N := some 13) #[true, true, true, true, true, true, false, true, false] rfl rfl (by kernel_rfl) (by decide) (fun K hK => ?_)
          refine value_ (w1 := ?_) (v := ?_) (by rfl) rfl ?_ ?_
          rotate_left 2
          · go_simp
            constructor
            · rfl
            · rfl
          refine at_world (fun e4 he => ?_)
          have nD : e4.heap[e3.heap.size]? = some (.cells #[.int .i64 1, .int .i64 0, .int .i64 0, .slice none 0 0, .slice none 0 0, .int .i64 1, .int .i64 0, .int .i64 0, .slice (some ⟨e1.heap.size, 0, none⟩) 8 8, .slice (some ⟨wd.heap.size, 0, none⟩) 1 1] 25 (0, 0)) := by rw [he]; exact heap_alloc_new _ _
          have hbE : Below e3.heap.size e3 e4 := by rw [he]; exact (Below.refl _ _).alloc (Nat.le_refl _) _
          clear he
          replace D11 := Lib.hid (blk_below D11.out hbE)
          replace D9 := Lib.hid (blk_below D9.out hbE)
          replace Dl := Lib.hid (blk_below Dl.out hbE)
          have D13 := Lib.hid nD
          replace hbR := hbR.trans (hbE.mono hbR.size)
          clear nD hbE
          refine hK.out _ _ ⟨(hbR.cell (p := ⟨w.heap.size + 1, 0, none⟩) l_BSd).trans qd_0, (hbR.cell (p := ⟨w.heap.size + 1, 1, none⟩) l_BSd).trans qd_1, (hbR.cell (p := ⟨w.heap.size + 1, 2, none⟩) l_BSd).trans qd_2, (hbR.cell (p := ⟨w.heap.size + 1, 3, none⟩) l_BSd).trans qd_3, (hbR.cell (p := ⟨w.heap.size + 1, 4, none⟩) l_BSd).trans qd_4⟩ (fun hHeld => ?_)
          clear hK K
          refine norm_ (a' := ?_) ?_ ?_
          rotate_left
          · show Act.put _ (some 13) _ = _
            simp only [Act.put, List.setIfInBounds_toArray, List.set_cons_zero, List.set_cons_succ, i64_w, i32_w]
            rfl
          refine pure_ (i := 6) (N := some 14) (v := ?_) (a' := ?_) #[true, true, true, true, true, true, true, true, false] rfl rfl (by kernel_rfl) (fun _ _ _ h => h) (Or.inl ⟨by rfl, ?_⟩) ?_ ?_
          rotate_left
          · intro w'
            go_simp
            with_reducible rfl
          rotate_left
          · simp only [Act.put, List.setIfInBounds_toArray, List.set_cons_zero, List.set_cons_succ, i64_w, i32_w]
            rfl
          exact norm_ (by simp only [putAll, Act.put, List.setIfInBounds_toArray, List.set_cons_zero, List.set_cons_succ]) (hCont (e1.heap.size, wd.heap.size, e3.heap.size, e2.heap.size) _ ⟨⟨(hbR.cell (p := ⟨w.heap.size + 1, 0, none⟩) l_BSd).trans qd_0, (hbR.cell (p := ⟨w.heap.size + 1, 1, none⟩) l_BSd).trans qd_1, (hbR.cell (p := ⟨w.heap.size + 1, 2, none⟩) l_BSd).trans qd_2, (hbR.cell (p := ⟨w.heap.size + 1, 3, none⟩) l_BSd).trans qd_3, (hbR.cell (p := ⟨w.heap.size + 1, 4, none⟩) l_BSd).trans qd_4⟩, hbR, hgl, D9, D11, D13, Dl⟩)
      · skip
        refine value_ (w1 := ?_) (v := ?_) (by rfl) rfl ?_ ?_
        rotate_left 2
        · go_simp
          constructor
          · rfl
          · rfl
        refine at_world (fun e2 he => ?_)
        have nD : e2.heap[e1.heap.size]? = some (.cells #[.int .i64 0, .int .i64 0, .int .i64 0, .slice none 0 0, .slice none 0 0] 25 (0, 0)) := by rw [he]; exact heap_alloc_new _ _
        have hbE : Below e1.heap.size e1 e2 := by rw [he]; exact (Below.refl _ _).alloc (Nat.le_refl _) _
        clear he
        have hgl : wd.heap.size ≤ e1.heap.size := hbR.size
        replace D11 := Lib.hid (blk_below D11.out hbE)
        have Dl := Lib.hid nD
        replace hbR := hbR.trans (hbE.mono hbR.size)
        clear nD hbE
        refine hK.out _ _ ⟨(hbR.cell (p := ⟨w.heap.size + 1, 0, none⟩) l_BSd).trans qd_0, (hbR.cell (p := ⟨w.heap.size + 1, 1, none⟩) l_BSd).trans qd_1, (hbR.cell (p := ⟨w.heap.size + 1, 2, none⟩) l_BSd).trans qd_2, (hbR.cell (p := ⟨w.heap.size + 1, 3, none⟩) l_BSd).trans qd_3, (hbR.cell (p := ⟨w.heap.size + 1, 4, none⟩) l_BSd).trans qd_4⟩ (fun hHeld => ?_)
        clear hK K
        refine norm_ (a' := ?_) ?_ ?_
        rotate_left
        · show Act.put _ (some 2) _ = _
          simp only [Act.put, List.setIfInBounds_toArray, List.set_cons_zero, List.set_cons_succ, i64_w, i32_w]
          rfl
        refine one_ (i := 1) (N := some 9) #[true, true, true, true, false, false, false, true, false] rfl rfl (by kernel_rfl) (by decide) (fun K hK => ?_)
        refine value_ (w1 := ?_) (v := ?_) (by rfl) rfl ?_ ?_
        rotate_left 2
        · go_simp
          constructor
          · rfl
          · rfl
        refine at_world (fun e3 he => ?_)
        have nD : e3.heap[e2.heap.size]? = some (.cells #[(.int .u8 0), (.int .u8 0), (.int .u8 0), (.int .u8 0), (.int .u8 0), (.int .u8 0), (.int .u8 0), (.int .u8 0)] 5 (0, 0)) := by rw [he]; exact heap_alloc_new _ _
        have hbE : Below e2.heap.size e2 e3 := by rw [he]; exact (Below.refl _ _).alloc (Nat.le_refl _) _
        clear he
        replace D11 := Lib.hid (blk_below D11.out hbE)
        replace Dl := Lib.hid (blk_below Dl.out hbE)
        have D9 := Lib.hid nD
        replace hbR := hbR.trans (hbE.mono hbR.size)
        clear nD hbE
        refine hK.out _ _ ⟨(hbR.cell (p := ⟨w.heap.size + 1, 0, none⟩) l_BSd).trans qd_0, (hbR.cell (p := ⟨w.heap.size + 1, 1, none⟩) l_BSd).trans qd_1, (hbR.cell (p := ⟨w.heap.size + 1, 2, none⟩) l_BSd).trans qd_2, (hbR.cell (p := ⟨w.heap.size + 1, 3, none⟩) l_BSd).trans qd_3, (hbR.cell (p := ⟨w.heap.size + 1, 4, none⟩) l_BSd).trans qd_4⟩ (fun hHeld => ?_)
        clear hK K
        refine norm_ (a' := ?_) ?_ ?_
        rotate_left
        · show Act.put _ (some 9) _ = _
          simp only [Act.put, List.setIfInBounds_toArray, List.set_cons_zero, List.set_cons_succ, i64_w, i32_w]
          rfl
        refine pure_ (i := 4) (N := some 12) (v := ?_) (a' := ?_) #[true, true, true, true, true, false, false, true, false] rfl rfl (by kernel_rfl) (fun _ _ _ h => h) (Or.inl ⟨by rfl, ?_⟩) ?_ ?_
        rotate_left
        · intro w'
          go_simp
          with_reducible rfl
        rotate_left
        · simp only [Act.put, List.setIfInBounds_toArray, List.set_cons_zero, List.set_cons_succ, i64_w, i32_w]
          rfl
        refine one_ (i := 5) (N := some 13) #[true, true, true, true, true, true, false, true, false] rfl rfl (by kernel_rfl) (by decide) (fun K hK => ?_)
        refine value_ (w1 := ?_) (v := ?_) (by rfl) rfl ?_ ?_
        rotate_left 2
        · go_simp
          constructor
          · rfl
          · rfl
        refine at_world (fun e4 he => ?_)
        have nD : e4.heap[e3.heap.size]? = some (.cells #[.int .i64 1, .int .i64 0, .int .i64 0, .slice none 0 0, .slice none 0 0, .int .i64 1, .int .i64 0, .int .i64 0, .slice (some ⟨e2.heap.size, 0, none⟩) 8 8, .slice (some ⟨wd.heap.size, 0, none⟩) 1 1] 25 (0, 0)) := by rw [he]; exact heap_alloc_new _ _
        have hbE : Below e3.heap.size e3 e4 := by rw [he]; exact (Below.refl _ _).alloc (Nat.le_refl _) _
        clear he
        replace D11 := Lib.hid (blk_below D11.out hbE)
        replace Dl := Lib.hid (blk_below Dl.out hbE)
        replace D9 := Lib.hid (blk_below D9.out hbE)
        have D13 := Lib.hid nD
        replace hbR := hbR.trans (hbE.mono hbR.size)
        clear nD hbE
        refine hK.out _ _ ⟨(hbR.cell (p := ⟨w.heap.size + 1, 0, none⟩) l_BSd).trans qd_0, (hbR.cell (p := ⟨w.heap.size + 1, 1, none⟩) l_BSd).trans qd_1, (hbR.cell (p := ⟨w.heap.size + 1, 2, none⟩) l_BSd).trans qd_2, (hbR.cell (p := ⟨w.heap.size + 1, 3, none⟩) l_BSd).trans qd_3, (hbR.cell (p := ⟨w.heap.size + 1, 4, none⟩) l_BSd).trans qd_4⟩ (fun hHeld => ?_)
        clear hK K
        refine norm_ (a' := ?_) ?_ ?_
        rotate_left
        · show Act.put _ (some 13) _ = _
          simp only [Act.put, List.setIfInBounds_toArray, List.set_cons_zero, List.set_cons_succ, i64_w, i32_w]
          rfl
        refine pure_ (i := 6) (N := some 14) (v := ?_) (a' := ?_) #[true, true, true, true, true, true, true, true, false] rfl rfl (by kernel_rfl) (fun _ _ _ h => h) (Or.inl ⟨by rfl, ?_⟩) ?_ ?_
        rotate_left
        · intro w'
          go_simp
          with_reducible rfl
        rotate_left
        · simp only [Act.put, List.setIfInBounds_toArray, List.set_cons_zero, List.set_cons_succ, i64_w, i32_w]
          rfl
        exact norm_ (by simp only [putAll, Act.put, List.setIfInBounds_toArray, List.set_cons_zero, List.set_cons_succ]) (hCont (e2.heap.size, wd.heap.size, e3.heap.size, e1.heap.size) _ ⟨⟨(hbR.cell (p := ⟨w.heap.size + 1, 0, none⟩) l_BSd).trans qd_0, (hbR.cell (p := ⟨w.heap.size + 1, 1, none⟩) l_BSd).trans qd_1, (hbR.cell (p := ⟨w.heap.size + 1, 2, none⟩) l_BSd).trans qd_2, (hbR.cell (p := ⟨w.heap.size + 1, 3, none⟩) l_BSd).trans qd_3, (hbR.cell (p := ⟨w.heap.size + 1, 4, none⟩) l_BSd).trans qd_4⟩, hbR, hgl, D9, D11, D13, Dl⟩)
    · skip
      refine value_ (w1 := ?_) (v := ?_) (by rfl) rfl ?_ ?_
      rotate_left 2
      · go_simp
        constructor
        · rfl
        · rfl
      refine at_world (fun e1 he => ?_)
      have nD : e1.heap[wd.heap.size]? = some (.cells #[.int .i64 0, .int .i64 0, .int .i64 0, .slice none 0 0, .slice none 0 0] 25 (0, 0)) := by rw [he]; exact heap_alloc_new _ _
      have hbE : Below wd.heap.size wd e1 := by rw [he]; exact (Below.refl _ _).alloc (Nat.le_refl _) _
      clear he
      have hgl : wd.heap.size ≤ wd.heap.size := hbR.size
      have Dl := Lib.hid nD
      replace hbR := hbR.trans (hbE.mono hbR.size)
      clear nD hbE
      refine hK.out _ _ ⟨(hbR.cell (p := ⟨w.heap.size + 1, 0, none⟩) l_BSd).trans qd_0, (hbR.cell (p := ⟨w.heap.size + 1, 1, none⟩) l_BSd).trans qd_1, (hbR.cell (p := ⟨w.heap.size + 1, 2, none⟩) l_BSd).trans qd_2, (hbR.cell (p := ⟨w.heap.size + 1, 3, none⟩) l_BSd).trans qd_3, (hbR.cell (p := ⟨w.heap.size + 1, 4, none⟩) l_BSd).trans qd_4⟩ (fun hHeld => ?_)
      clear hK K
      refine norm_ (a' := ?_) ?_ ?_
      rotate_left
      · show Act.put _ (some 2) _ = _
        simp only [Act.put, List.setIfInBounds_toArray, List.set_cons_zero, List.set_cons_succ, i64_w, i32_w]
        rfl
      refine two_ (i := 1) (j := 3) (Ni := some 9) (Nj := some 11) #[true, true, true, false, false, false, false, true, false] #[true, false, true, true, false, false, false, true, false] rfl rfl rfl rfl (by kernel_rfl) (by decide) (by decide) (fun K hK => ?_) (fun K hK => ?_)
      · skip
        refine value_ (w1 := ?_) (v := ?_) (by rfl) rfl ?_ ?_
        rotate_left 2
        · go_simp
          constructor
          · rfl
          · rfl
        refine at_world (fun e2 he => ?_)
        have nD : e2.heap[e1.heap.size]? = some (.cells #[(.int .u8 0), (.int .u8 0), (.int .u8 0), (.int .u8 0), (.int .u8 0), (.int .u8 0), (.int .u8 0), (.int .u8 0)] 5 (0, 0)) := by rw [he]; exact heap_alloc_new _ _
        have hbE : Below e1.heap.size e1 e2 := by rw [he]; exact (Below.refl _ _).alloc (Nat.le_refl _) _
        clear he
        replace Dl := Lib.hid (blk_below Dl.out hbE)
        have D9 := Lib.hid nD
        replace hbR := hbR.trans (hbE.mono hbR.size)
        clear nD hbE
        refine hK.out _ _ ⟨(hbR.cell (p := ⟨w.heap.size + 1, 0, none⟩) l_BSd).trans qd_0, (hbR.cell (p := ⟨w.heap.size + 1, 1, none⟩) l_BSd).trans qd_1, (hbR.cell (p := ⟨w.heap.size + 1, 2, none⟩) l_BSd).trans qd_2, (hbR.cell (p := ⟨w.heap.size + 1, 3, none⟩) l_BSd).trans qd_3, (hbR.cell (p := ⟨w.heap.size + 1, 4, none⟩) l_BSd).trans qd_4⟩ (fun hHeld => ?_)
        clear hK K
        refine norm_ (a' := ?_) ?_ ?_
        rotate_left
        · show Act.put _ (some 9) _ = _
          simp only [Act.put, List.setIfInBounds_toArray, List.set_cons_zero, List.set_cons_succ, i64_w, i32_w]
          rfl
        refine one_ (i := 3) (N := some 11) #[true, true, true, true, false, false, false, true, false] rfl rfl (by kernel_rfl) (by decide) (fun K hK => ?_)
        refine value_ (w1 := ?_) (v := ?_) (by rfl) rfl ?_ ?_
        rotate_left 2
        · go_simp
          constructor
          · rfl
          · rfl
        refine at_world (fun e3 he => ?_)
        have nD : e3.heap[e2.heap.size]? = some (.cells #[.int .i64 1, .int .i64 0, .int .i64 0, .slice none 0 0, .slice (some ⟨w.heap.size, 0, none⟩) 1 1] 25 (0, 0)) := by rw [he]; exact heap_alloc_new _ _
        have hbE : Below e2.heap.size e2 e3 := by rw [he]; exact (Below.refl _ _).alloc (Nat.le_refl _) _
        clear he
        replace Dl := Lib.hid (blk_below Dl.out hbE)
        replace D9 := Lib.hid (blk_below D9.out hbE)
        have D11 := Lib.hid nD
        replace hbR := hbR.trans (hbE.mono hbR.size)
        clear nD hbE
        refine hK.out _ _ ⟨(hbR.cell (p := ⟨w.heap.size + 1, 0, none⟩) l_BSd).trans qd_0, (hbR.cell (p := ⟨w.heap.size + 1, 1, none⟩) l_BSd).trans qd_1, (hbR.cell (p := ⟨w.heap.size + 1, 2, none⟩) l_BSd).trans qd_2, (hbR.cell (p := ⟨w.heap.size + 1, 3, none⟩) l_BSd).trans qd_3, (hbR.cell (p := ⟨w.heap.size + 1, 4, none⟩) l_BSd).trans qd_4⟩ (fun hHeld => ?_)
        clear hK K
        refine norm_ (a' := ?_) ?_ ?_
        rotate_left
        · show Act.put _ (some 11) _ = _
          simp only [Act.put, List.setIfInBounds_toArray, List.set_cons_zero, List.set_cons_succ, i64_w, i32_w]
          rfl
        refine pure_ (i := 4) (N := some 12) (v := ?_) (a' := ?_) #[true, true, true, true, true, false, false, true, false] rfl rfl (by kernel_rfl) (fun _ _ _ h => h) (Or.inl ⟨by rfl, ?_⟩) ?_ ?_
        rotate_left
        · intro w'
          go_simp
          with_reducible rfl
        rotate_left
        · simp only [Act.put, List.setIfInBounds_toArray, List.set_cons_zero, List.set_cons_succ, i64_w, i32_w]
          rfl
        refine one_ (i := 5) (N := some 13) #[true, true, true, true, true, true, false, true, false] rfl rfl (by kernel_rfl) (by decide) (fun K hK => ?_)
        refine value_ (w1 := ?_) (v := ?_) (by rfl) rfl ?_ ?_
        rotate_left 2
        · go_simp
          constructor
          · rfl
          · rfl
        refine at_world (fun e4 he => ?_)
        have nD : e4.heap[e3.heap.size]? = some (.cells #[.int .i64 1, .int .i64 0, .int .i64 0, .slice none 0 0, .slice none 0 0, .int .i64 1, .int .i64 0, .int .i64 0, .slice (some ⟨e1.heap.size, 0, none⟩) 8 8, .slice (some ⟨e2.heap.size, 0, none⟩) 1 1] 25 (0, 0)) := by rw [he]; exact heap_alloc_new _ _
        have hbE : Below e3.heap.size e3 e4 := by rw [he]; exact (Below.refl _ _).alloc (Nat.le_refl _) _
        clear he
        replace Dl := Lib.hid (blk_below Dl.out hbE)
        replace D9 := Lib.hid (blk_below D9.out hbE)
        replace D11 := Lib.hid (blk_below D11.out hbE)
        have D13 := Lib.hid nD
        replace hbR := hbR.trans (hbE.mono hbR.size)
        clear nD hbE
        refine hK.out _ _ ⟨(hbR.cell (p := ⟨w.heap.size + 1, 0, none⟩) l_BSd).trans qd_0, (hbR.cell (p := ⟨w.heap.size + 1, 1, none⟩) l_BSd).trans qd_1, (hbR.cell (p := ⟨w.heap.size + 1, 2, none⟩) l_BSd).trans qd_2, (hbR.cell (p := ⟨w.heap.size + 1, 3, none⟩) l_BSd).trans qd_3, (hbR.cell (p := ⟨w.heap.size + 1, 4, none⟩) l_BSd).trans qd_4⟩ (fun hHeld => ?_)
        clear hK K
        refine norm_ (a' := ?_) ?_ ?_
        rotate_left
        · show Act.put _ (some 13) _ = _
          simp only [Act.put, List.setIfInBounds_toArray, List.set_cons_zero, List.set_cons_succ, i64_w, i32_w]
          rfl
        refine pure_ (i := 6) (N := some 14) (v := ?_) (a' := ?_) #[true, true, true, true, true, true, true, true, false] rfl rfl (by kernel_rfl) (fun _ _ _ h => h) (Or.inl ⟨by rfl, ?_⟩) ?_ ?_
        rotate_left
        · intro w'
          go_simp
          with_reducible rfl
        rotate_left
        · simp only [Act.put, List.setIfInBounds_toArray, List.set_cons_zero, List.set_cons_succ, i64_w, i32_w]
          rfl
        exact norm_ (by simp only [putAll, Act.put, List.setIfInBounds_toArray, List.set_cons_zero, List.set_cons_succ]) (hCont (e1.heap.size, e2.heap.size, e3.heap.size, wd.heap.size) _ ⟨⟨(hbR.cell (p := ⟨w.heap.size + 1, 0, none⟩) l_BSd).trans qd_0, (hbR.cell (p := ⟨w.heap.size + 1, 1, none⟩) l_BSd).trans qd_1, (hbR.cell (p := ⟨w.heap.size + 1, 2, none⟩) l_BSd).trans qd_2, (hbR.cell (p := ⟨w.heap.size + 1, 3, none⟩) l_BSd).trans qd_3, (hbR.cell (p := ⟨w.heap.size + 1, 4, none⟩) l_BSd).trans qd_4⟩, hbR, hgl, D9, D11, D13, Dl⟩)
      · skip
        refine value_ (w1 := ?_) (v := ?_) (by rfl) rfl ?_ ?_
        rotate_left 2
        · go_simp
          constructor
          · rfl
          · rfl
        refine at_world (fun e2 he => ?_)
        have nD : e2.heap[e1.heap.size]? = some (.cells #[.int .i64 1, .int .i64 0, .int .i64 0, .slice none 0 0, .slice (some ⟨w.heap.size, 0, none⟩) 1 1] 25 (0, 0)) := by rw [he]; exact heap_alloc_new _ _
        have hbE : Below e1.heap.size e1 e2 := by rw [he]; exact (Below.refl _ _).alloc (Nat.le_refl _) _
        clear he
        replace Dl := Lib.hid (blk_below Dl.out hbE)
        have D11 := Lib.hid nD
        replace hbR := hbR.trans (hbE.mono hbR.size)
        clear nD hbE
        refine hK.out _ _ ⟨(hbR.cell (p := ⟨w.heap.size + 1, 0, none⟩) l_BSd).trans qd_0, (hbR.cell (p := ⟨w.heap.size + 1, 1, none⟩) l_BSd).trans qd_1, (hbR.cell (p := ⟨w.heap.size + 1, 2, none⟩) l_BSd).trans qd_2, (hbR.cell (p := ⟨w.heap.size + 1, 3, none⟩) l_BSd).trans qd_3, (hbR.cell (p := ⟨w.heap.size + 1, 4, none⟩) l_BSd).trans qd_4⟩ (fun hHeld => ?_)
        clear hK K
        refine norm_ (a' := ?_) ?_ ?_
        rotate_left
        · show Act.put _ (some 11) _ = _
          simp only [Act.put, List.setIfInBounds_toArray, List.set_cons_zero, List.set_cons_succ, i64_w, i32_w]
          rfl
        refine one_ (i := 1) (N := some 9) #[true, true, true, true, false, false, false, true, false] rfl rfl (by kernel_rfl) (by decide) (fun K hK => ?_)
        refine value_ (w1 := ?_) (v := ?_) (by rfl) rfl ?_ ?_
        rotate_left 2
        · go_simp
          constructor
          · rfl
          · rfl
        refine at_world (fun e3 he => ?_)
        have nD : e3.heap[e2.heap.size]? = some (.cells #[(.int .u8 0), (.int .u8 0), (.int .u8 0), (.int .u8 0), (.int .u8 0), (.int .u8 0), (.int .u8 0), (.int .u8 0)] 5 (0, 0)) := by rw [he]; exact heap_alloc_new _ _
        have hbE : Below e2.heap.size e2 e3 := by rw [he]; exact (Below.refl _ _).alloc (Nat.le_refl _) _
        clear he
        replace Dl := Lib.hid (blk_below Dl.out hbE)
        replace D11 := Lib.hid (blk_below D11.out hbE)
        have D9 := Lib.hid nD
        replace hbR := hbR.trans (hbE.mono hbR.size)
        clear nD hbE
        refine hK.out _ _ ⟨(hbR.cell (p := ⟨w.heap.size + 1, 0, none⟩) l_BSd).trans qd_0, (hbR.cell (p := ⟨w.heap.size + 1, 1, none⟩) l_BSd).trans qd_1, (hbR.cell (p := ⟨w.heap.size + 1, 2, none⟩) l_BSd).trans qd_2, (hbR.cell (p := ⟨w.heap.size + 1, 3, none⟩) l_BSd).trans qd_3, (hbR.cell (p := ⟨w.heap.size + 1, 4, none⟩) l_BSd).trans qd_4⟩ (fun hHeld => ?_)
        clear hK K
        refine norm_ (a' := ?_) ?_ ?_
        rotate_left
        · show Act.put _ (some 9) _ = _
          simp only [Act.put, List.setIfInBounds_toArray, List.set_cons_zero, List.set_cons_succ, i64_w, i32_w]
          rfl
        refine pure_ (i := 4) (N := some 12) (v := ?_) (a' := ?_) #[true, true, true, true, true, false, false, true, false] rfl rfl (by kernel_rfl) (fun _ _ _ h => h) (Or.inl ⟨by rfl, ?_⟩) ?_ ?_
        rotate_left
        · intro w'
          go_simp
          with_reducible rfl
        rotate_left
        · simp only [Act.put, List.setIfInBounds_toArray, List.set_cons_zero, List.set_cons_succ, i64_w, i32_w]
          rfl
        refine one_ (i := 5) (N := some 13) #[true, true, true, true, true, true, false, true, false] rfl rfl (by kernel_rfl) (by decide) (fun K hK => ?_)
        refine value_ (w1 := ?_) (v := ?_) (by rfl) rfl ?_ ?_
        rotate_left 2
        · go_simp
          constructor
          · rfl
          · rfl
        refine at_world (fun e4 he => ?_)
        have nD : e4.heap[e3.heap.size]? = some (.cells #[.int .i64 1, .int .i64 0, .int .i64 0, .slice none 0 0, .slice none 0 0, .int .i64 1, .int .i64 0, .int .i64 0, .slice (some ⟨e2.heap.size, 0, none⟩) 8 8, .slice (some ⟨e1.heap.size, 0, none⟩) 1 1] 25 (0, 0)) := by rw [he]; exact heap_alloc_new _ _
        have hbE : Below e3.heap.size e3 e4 := by rw [he]; exact (Below.refl _ _).alloc (Nat.le_refl _) _
        clear he
        replace Dl := Lib.hid (blk_below Dl.out hbE)
        replace D11 := Lib.hid (blk_below D11.out hbE)
        replace D9 := Lib.hid (blk_below D9.out hbE)
        have D13 := Lib.hid nD
        replace hbR := hbR.trans (hbE.mono hbR.size)
        clear nD hbE
        refine hK.out _ _ ⟨(hbR.cell (p := ⟨w.heap.size + 1, 0, none⟩) l_BSd).trans qd_0, (hbR.cell (p := ⟨w.heap.size + 1, 1, none⟩) l_BSd).trans qd_1, (hbR.cell (p := ⟨w.heap.size + 1, 2, none⟩) l_BSd).trans qd_2, (hbR.cell (p := ⟨w.heap.size + 1, 3, none⟩) l_BSd).trans qd_3, (hbR.cell (p := ⟨w.heap.size + 1, 4, none⟩) l_BSd).trans qd_4⟩ (fun hHeld => ?_)
        clear hK K
        refine norm_ (a' := ?_) ?_ ?_
        rotate_left
        · show Act.put _ (some 13) _ = _
          simp only [Act.put, List.setIfInBounds_toArray, List.set_cons_zero, List.set_cons_succ, i64_w, i32_w]
          rfl
        refine pure_ (i := 6) (N := some 14) (v := ?_) (a' := ?_) #[true, true, true, true, true, true, true, true, false] rfl rfl (by kernel_rfl) (fun _ _ _ h => h) (Or.inl ⟨by rfl, ?_⟩) ?_ ?_
        rotate_left
        · intro w'
          go_simp
          with_reducible rfl
        rotate_left
        · simp only [Act.put, List.setIfInBounds_toArray, List.set_cons_zero, List.set_cons_succ, i64_w, i32_w]
          rfl
        exact norm_ (by simp only [putAll, Act.put, List.setIfInBounds_toArray, List.set_cons_zero, List.set_cons_succ]) (hCont (e2.heap.size, e1.heap.size, e3.heap.size, wd.heap.size) _ ⟨⟨(hbR.cell (p := ⟨w.heap.size + 1, 0, none⟩) l_BSd).trans qd_0, (hbR.cell (p := ⟨w.heap.size + 1, 1, none⟩) l_BSd).trans qd_1, (hbR.cell (p := ⟨w.heap.size + 1, 2, none⟩) l_BSd).trans qd_2, (hbR.cell (p := ⟨w.heap.size + 1, 3, none⟩) l_BSd).trans qd_3, (hbR.cell (p := ⟨w.heap.size + 1, 4, none⟩) l_BSd).trans qd_4⟩, hbR, hgl, D9, D11, D13, Dl⟩)
  rintro ⟨g9, g11, g13, gl⟩ wj ⟨hS_, hbj, hgl, D9, D11, D13, Dl⟩
  dsimp only at D9 D11 D13 Dl hgl
  have hHeld : wj.cell? ⟨w.heap.size + 1, 0, none⟩ = some (.int .i64 1) ∧ wj.cell? ⟨w.heap.size + 1, 1, none⟩ = some (.int .i64 0) ∧ wj.cell? ⟨w.heap.size + 1, 2, none⟩ = some (.int .i64 0) ∧ wj.cell? ⟨w.heap.size + 1, 3, none⟩ = some (.slice none 0 0) ∧ wj.cell? ⟨w.heap.size + 1, 4, none⟩ = some (.slice (some ⟨w.heap.size, 0, none⟩) 1 1) := hS_
  clear hS_
  refine norm_ (a' := ?_) ?_ ?_
  rotate_left
  · simp only [putAll, Act.put, List.setIfInBounds_toArray, List.set_cons_zero, List.set_cons_succ]
    rfl
  refine last_ (i := 8) (N := none) #[true, true, true, true, true, true, true, true, true] rfl rfl (by kernel_rfl) (by decide) (fun K hK => ?_)
  have z0 : wj.cell? ⟨gl, 0, none⟩ = some (.int .i64 0) := (blk_cell Dl.out 0).trans rfl
  have z1 : wj.cell? ⟨gl, 1, none⟩ = some (.int .i64 0) := (blk_cell Dl.out 1).trans rfl
  have z2 : wj.cell? ⟨gl, 2, none⟩ = some (.int .i64 0) := (blk_cell Dl.out 2).trans rfl
  have z3 : wj.cell? ⟨gl, 3, none⟩ = some (.slice none 0 0) := (blk_cell Dl.out 3).trans rfl
  have z4 : wj.cell? ⟨gl, 4, none⟩ = some (.slice none 0 0) := (blk_cell Dl.out 4).trans rfl
  have y0 := blk_frozen Dl.out 0
  have y1 := blk_frozen Dl.out 1
  have y2 := blk_frozen Dl.out 2
  have y3 := blk_frozen Dl.out 3
  have y4 := blk_frozen Dl.out 4
  have lg := blk_lt Dl.out
  refine skip_ (w1 := ?_) (by rfl) rfl ?_ ?_
  rotate_left
  · go_simp
    rfl
  refine hK.out _ _ ?_
  clear hK K
  refine done_ (by kernel_rfl) ?_
  clear z0 z1 z2 z3 z4 y0 y1 y2 y3 y4 lg hHeld qd_0 qd_1 qd_2 qd_3 qd_4 hbR
  have n9 : g9 ≠ gl := by rintro rfl; have hh := D9.out.symm.trans Dl.out; simp at hh
  have n11 : g11 ≠ gl := by rintro rfl; have hh := D11.out.symm.trans Dl.out; simp at hh
  have n13 : g13 ≠ gl := by rintro rfl; have hh := D13.out.symm.trans Dl.out; simp at hh
  obtain ⟨wf, hwf⟩ : ∃ W, W = (((((wj.setCell ⟨gl, 0, none⟩ (.int .i64 2)).setCell ⟨gl, 1, none⟩ (.int .i64 7)).setCell ⟨gl, 2, none⟩ (.int .i64 2)).setCell ⟨gl, 3, none⟩ (.slice none 0 0)).setCell ⟨gl, 4, none⟩ (.slice (some ⟨g13, 0, none⟩) 2 2)) := ⟨_, rfl⟩
  rw [← hwf]
  have hb : Below wd.heap.size wd wf := by rw [hwf]; exact (((((hbj.setCell (p := ⟨gl, 0, none⟩) hgl _).setCell (p := ⟨gl, 1, none⟩) hgl _).setCell (p := ⟨gl, 2, none⟩) hgl _).setCell (p := ⟨gl, 3, none⟩) hgl _).setCell (p := ⟨gl, 4, none⟩) hgl _)
  have nL : wf.heap[gl]? = some (.cells #[.int .i64 2, .int .i64 7, .int .i64 2, .slice none 0 0, .slice (some ⟨g13, 0, none⟩) 2 2] 25 (0, 0)) := by rw [hwf]; exact (blk_put (blk_put (blk_put (blk_put (blk_put Dl.out 0 _ rfl) 1 _ rfl) 2 _ rfl) 3 _ rfl) 4 _ rfl)
  have m9 : wf.heap[g9]? = some (.cells #[(.int .u8 0), (.int .u8 0), (.int .u8 0), (.int .u8 0), (.int .u8 0), (.int .u8 0), (.int .u8 0), (.int .u8 0)] 5 (0, 0)) := by rw [hwf]; exact (Below.heap_setCell _ ⟨gl, 4, none⟩ _ _ n9).trans ((Below.heap_setCell _ ⟨gl, 3, none⟩ _ _ n9).trans ((Below.heap_setCell _ ⟨gl, 2, none⟩ _ _ n9).trans ((Below.heap_setCell _ ⟨gl, 1, none⟩ _ _ n9).trans ((Below.heap_setCell _ ⟨gl, 0, none⟩ _ _ n9).trans (D9.out)))))
  have m11 : wf.heap[g11]? = some (.cells #[.int .i64 1, .int .i64 0, .int .i64 0, .slice none 0 0, .slice (some ⟨w.heap.size, 0, none⟩) 1 1] 25 (0, 0)) := by rw [hwf]; exact (Below.heap_setCell _ ⟨gl, 4, none⟩ _ _ n11).trans ((Below.heap_setCell _ ⟨gl, 3, none⟩ _ _ n11).trans ((Below.heap_setCell _ ⟨gl, 2, none⟩ _ _ n11).trans ((Below.heap_setCell _ ⟨gl, 1, none⟩ _ _ n11).trans ((Below.heap_setCell _ ⟨gl, 0, none⟩ _ _ n11).trans (D11.out)))))
  have m13 : wf.heap[g13]? = some (.cells #[.int .i64 1, .int .i64 0, .int .i64 0, .slice none 0 0, .slice none 0 0, .int .i64 1, .int .i64 0, .int .i64 0, .slice (some ⟨g9, 0, none⟩) 8 8, .slice (some ⟨g11, 0, none⟩) 1 1] 25 (0, 0)) := by rw [hwf]; exact (Below.heap_setCell _ ⟨gl, 4, none⟩ _ _ n13).trans ((Below.heap_setCell _ ⟨gl, 3, none⟩ _ _ n13).trans ((Below.heap_setCell _ ⟨gl, 2, none⟩ _ _ n13).trans ((Below.heap_setCell _ ⟨gl, 1, none⟩ _ _ n13).trans ((Below.heap_setCell _ ⟨gl, 0, none⟩ _ _ n13).trans (D13.out)))))
  clear hwf n9 n11 n13 D9 D11 D13 Dl hbj l_BSd
  replace HT := Lib.hid (HT.out.below hb)
  replace HB := Lib.hid (below_step HB.out hb)
  replace B6 := Lib.hid (blk_below B6.out hb)
  replace BS := Lib.hid (blk_below BS.out hb)
  have BL := Lib.hid nL
  clear nL hb hgl
  have C1 : k25.C wf (some ⟨w.heap.size, 0, none⟩) 1 [z25] := C_node1 (K_nil wf 0 0 0) B6.out
  have KS : k25.K wf (⟨1, 0, 0, [], [z25]⟩ : S25) [.int .i64 1, .int .i64 0, .int .i64 0, .slice none 0 0, .slice (some ⟨w.heap.size, 0, none⟩) 1 1] := k25_mk wf (⟨1, 0, 0, [], [z25]⟩ : S25) (c3 := 0) (Nat.le_refl _) (Kd.C_nil _ _) (c4 := 1) (Nat.le_refl _) C1
  have C11 : k25.C wf (some ⟨g11, 0, none⟩) 1 [(⟨1, 0, 0, [], [z25]⟩ : S25)] := C_node1 KS m11
  have C9 := C_ints (xs := [0, 0, 0, 0, 0, 0, 0, 0]) (k := .u8) m9 (by decide)
  have K8 : k25.K wf (⟨1, 0, 0, [0, 0, 0, 0, 0, 0, 0, 0], [(⟨1, 0, 0, [], [z25]⟩ : S25)]⟩ : S25) [.int .i64 1, .int .i64 0, .int .i64 0, .slice (some ⟨g9, 0, none⟩) 8 8, .slice (some ⟨g11, 0, none⟩) 1 1] := k25_mk wf (⟨1, 0, 0, [0, 0, 0, 0, 0, 0, 0, 0], [(⟨1, 0, 0, [], [z25]⟩ : S25)]⟩ : S25) (c3 := 8) (Nat.le_refl _) C9 (c4 := 1) (Nat.le_refl _) C11
  have C13 : k25.C wf (some ⟨g13, 0, none⟩) 2 [(⟨1, 0, 0, [], []⟩ : S25), (⟨1, 0, 0, [0, 0, 0, 0, 0, 0, 0, 0], [(⟨1, 0, 0, [], [z25]⟩ : S25)]⟩ : S25)] := C_node2 (K_nil wf 1 0 0) K8 m13
  have HS4 := Lib.hid (C1)
  have H13 := Lib.hid (C13)
  clear C1 KS C11 C9 K8 C13 m9 m11 m13 B6
  have l_BL : gl < wf.heap.size := blk_lt BL.out
  have q_BL_0 : wf.cell? ⟨gl, 0, none⟩ = some (.int .i64 2) := (blk_cell BL.out 0).trans rfl
  have q_BL_1 : wf.cell? ⟨gl, 1, none⟩ = some (.int .i64 7) := (blk_cell BL.out 1).trans rfl
  have q_BL_2 : wf.cell? ⟨gl, 2, none⟩ = some (.int .i64 2) := (blk_cell BL.out 2).trans rfl
  have q_BL_3 : wf.cell? ⟨gl, 3, none⟩ = some (.slice none 0 0) := (blk_cell BL.out 3).trans rfl
  have q_BL_4 : wf.cell? ⟨gl, 4, none⟩ = some (.slice (some ⟨g13, 0, none⟩) 2 2) := (blk_cell BL.out 4).trans rfl
  go_upto_region 6 with fail
  clear l_BL q_BL_0 q_BL_1 q_BL_2 q_BL_3 q_BL_4
  refine wp_at (fun W6 hW => ?_)
  have hb : Below wf.heap.size wf W6 := by rw [hW]; repeat (first | exact Below.refl _ _ | refine Below.alloc ?_ (by first | exact Nat.le_refl _ | (simp <;> omega)) _)
  have nD7 : W6.heap[wf.heap.size]? = some (.cells #[.int .u8 7] 5 (0, 0)) := by rw [hW]; repeat (first | exact heap_alloc_new _ _ | exact blk_new _ _ _ (by simp) | refine blk_alloc ?_ _)
  have nBB : W6.heap[wf.heap.size + 1]? = some (.cells #[.int .i64 2, .int .i64 1, .int .i64 3, .slice (some ⟨wf.heap.size, 0, none⟩) 1 1, .slice none 0 0] 25 (0, 0)) := by rw [hW]; repeat (first | exact heap_alloc_new _ _ | exact blk_new _ _ _ (by simp) | refine blk_alloc ?_ _)
  have nBD : W6.heap[wf.heap.size + 1 + 1]? = some (.cells #[.int .i64 2, .int .i64 1, .int .i64 3, .slice (some ⟨wf.heap.size + 1 + 1 + 1, 0, none⟩) 1 1, .slice none 0 0] 25 (0, 0)) := by rw [hW]; repeat (first | exact heap_alloc_new _ _ | exact blk_new _ _ _ (by simp) | refine blk_alloc ?_ _)
  have nD8 : W6.heap[wf.heap.size + 1 + 1 + 1]? = some (.cells #[.int .u8 8] 5 (0, 0)) := by rw [hW]; repeat (first | exact heap_alloc_new _ _ | exact blk_new _ _ _ (by simp) | refine blk_alloc ?_ _)
  clear hW
  replace HT := Lib.hid (HT.out.below hb)
  replace HB := Lib.hid (below_step HB.out hb)
  replace HS4 := Lib.hid (Kd.C_below HS4.out hb)
  replace H13 := Lib.hid (Kd.C_below H13.out hb)
  replace BS := Lib.hid (blk_below BS.out hb)
  replace BL := Lib.hid (blk_below BL.out hb)
  clear hb
  have D7 := Lib.hid nD7
  clear nD7
  have BB := Lib.hid nBB
  clear nBB
  have BD := Lib.hid nBD
  clear nBD
  have D8 := Lib.hid nD8
  clear nD8
  have C7 := C_ints (xs := [7]) (k := .u8) D7.out (by decide)
  have C8 := C_ints (xs := [8]) (k := .u8) D8.out (by decide)
  have H7 := Lib.hid (C7)
  have H8 := Lib.hid (C8)
  clear C7 C8 D7 D8
  have l_BL : gl < W6.heap.size := blk_lt BL.out
  have q_BL_0 : W6.cell? ⟨gl, 0, none⟩ = some (.int .i64 2) := (blk_cell BL.out 0).trans rfl
  have q_BL_1 : W6.cell? ⟨gl, 1, none⟩ = some (.int .i64 7) := (blk_cell BL.out 1).trans rfl
  have q_BL_2 : W6.cell? ⟨gl, 2, none⟩ = some (.int .i64 2) := (blk_cell BL.out 2).trans rfl
  have q_BL_3 : W6.cell? ⟨gl, 3, none⟩ = some (.slice none 0 0) := (blk_cell BL.out 3).trans rfl
  have q_BL_4 : W6.cell? ⟨gl, 4, none⟩ = some (.slice (some ⟨g13, 0, none⟩) 2 2) := (blk_cell BL.out 4).trans rfl
  go_wp2_with fail
  clear l_BL q_BL_0 q_BL_1 q_BL_2 q_BL_3 q_BL_4
  refine calls_at (fun W8 hW => ?_)
  have hb : Below W6.heap.size W6 W8 := by rw [hW]; repeat (first | exact Below.refl _ _ | refine Below.alloc ?_ (by first | exact Nat.le_refl _ | (simp <;> omega)) _)
  have nBO : W8.heap[W6.heap.size]? = some (.cells #[.int .i64 2, .int .i64 7, .int .i64 2, .slice none 0 0, .slice (some ⟨W6.heap.size + 1, 0, none⟩) 2 2] 25 (0, 0)) := by rw [hW]; repeat (first | exact heap_alloc_new _ _ | exact blk_new _ _ _ (by simp) | refine blk_alloc ?_ _)
  have nDO : W8.heap[W6.heap.size + 1]? = some (.cells #[.int .i64 1, .int .i64 0, .int .i64 0, .slice none 0 0, .slice none 0 0, .int .i64 0, .int .i64 0, .int .i64 0, .slice none 0 0, .slice none 0 0] 25 (0, 0)) := by rw [hW]; repeat (first | exact heap_alloc_new _ _ | exact blk_new _ _ _ (by simp) | refine blk_alloc ?_ _)
  clear hW
  replace HT := Lib.hid (HT.out.below hb)
  replace HB := Lib.hid (below_step HB.out hb)
  replace HS4 := Lib.hid (Kd.C_below HS4.out hb)
  replace H13 := Lib.hid (Kd.C_below H13.out hb)
  replace H7 := Lib.hid (Kd.C_below H7.out hb)
  replace H8 := Lib.hid (Kd.C_below H8.out hb)
  replace BS := Lib.hid (blk_below BS.out hb)
  replace BL := Lib.hid (blk_below BL.out hb)
  replace BB := Lib.hid (blk_below BB.out hb)
  replace BD := Lib.hid (blk_below BD.out hb)
  clear hb
  have BO := Lib.hid nBO
  clear nBO
  have DO := Lib.hid nDO
  clear nDO
  have CO : k25.C W8 (some ⟨W6.heap.size + 1, 0, none⟩) 2 [exN, exZ] := C_node2 (K_nil W8 1 0 0) (K_nil W8 0 0 0) DO.out
  have HO := Lib.hid (CO)
  clear CO DO
  refine (node_Valid.calls 0 0 0 0 none 0 [] none 0 [] true _ (Kd.C_nil _ _) (Nat.le_refl _) (Kd.C_nil _ _) (Nat.le_refl _) fx1 HT.out).mono ?_
  rintro e w1 ⟨rfl, hb⟩
  replace HT := Lib.hid (HT.out.below hb)
  replace HB := Lib.hid (below_step HB.out hb)
  replace HS4 := Lib.hid (Kd.C_below HS4.out hb)
  replace H13 := Lib.hid (Kd.C_below H13.out hb)
  replace H7 := Lib.hid (Kd.C_below H7.out hb)
  replace H8 := Lib.hid (Kd.C_below H8.out hb)
  replace HO := Lib.hid (Kd.C_below HO.out hb)
  replace BS := Lib.hid (blk_below BS.out hb)
  replace BL := Lib.hid (blk_below BL.out hb)
  replace BB := Lib.hid (blk_below BB.out hb)
  replace BD := Lib.hid (blk_below BD.out hb)
  replace BO := Lib.hid (blk_below BO.out hb)
  clear hb
  have l_BS : w.heap.size + 1 < w1.heap.size := blk_lt BS.out
  have q_BS_0 : w1.cell? ⟨w.heap.size + 1, 0, none⟩ = some (.int .i64 1) := (blk_cell BS.out 0).trans rfl
  have q_BS_1 : w1.cell? ⟨w.heap.size + 1, 1, none⟩ = some (.int .i64 0) := (blk_cell BS.out 1).trans rfl
  have q_BS_2 : w1.cell? ⟨w.heap.size + 1, 2, none⟩ = some (.int .i64 0) := (blk_cell BS.out 2).trans rfl
  have q_BS_3 : w1.cell? ⟨w.heap.size + 1, 3, none⟩ = some (.slice none 0 0) := (blk_cell BS.out 3).trans rfl
  have q_BS_4 : w1.cell? ⟨w.heap.size + 1, 4, none⟩ = some (.slice (some ⟨w.heap.size, 0, none⟩) 1 1) := (blk_cell BS.out 4).trans rfl
  go_wp2_with fail
  clear l_BS q_BS_0 q_BS_1 q_BS_2 q_BS_3 q_BS_4
  refine (node_Valid.calls 0 1 0 0 none 0 [] _ 1 [z25] true _ (Kd.C_nil _ _) (Nat.le_refl _) HS4.out (Nat.le_refl _) fx2 HT.out).mono ?_
  rintro e w2 ⟨rfl, hb⟩
  replace HT := Lib.hid (HT.out.below hb)
  replace HB := Lib.hid (below_step HB.out hb)
  replace HS4 := Lib.hid (Kd.C_below HS4.out hb)
  replace H13 := Lib.hid (Kd.C_below H13.out hb)
  replace H7 := Lib.hid (Kd.C_below H7.out hb)
  replace H8 := Lib.hid (Kd.C_below H8.out hb)
  replace HO := Lib.hid (Kd.C_below HO.out hb)
  replace BS := Lib.hid (blk_below BS.out hb)
  replace BL := Lib.hid (blk_below BL.out hb)
  replace BB := Lib.hid (blk_below BB.out hb)
  replace BD := Lib.hid (blk_below BD.out hb)
  replace BO := Lib.hid (blk_below BO.out hb)
  clear hb
  have l_BL : gl < w2.heap.size := blk_lt BL.out
  have q_BL_0 : w2.cell? ⟨gl, 0, none⟩ = some (.int .i64 2) := (blk_cell BL.out 0).trans rfl
  have q_BL_1 : w2.cell? ⟨gl, 1, none⟩ = some (.int .i64 7) := (blk_cell BL.out 1).trans rfl
  have q_BL_2 : w2.cell? ⟨gl, 2, none⟩ = some (.int .i64 2) := (blk_cell BL.out 2).trans rfl
  have q_BL_3 : w2.cell? ⟨gl, 3, none⟩ = some (.slice none 0 0) := (blk_cell BL.out 3).trans rfl
  have q_BL_4 : w2.cell? ⟨gl, 4, none⟩ = some (.slice (some ⟨g13, 0, none⟩) 2 2) := (blk_cell BL.out 4).trans rfl
  go_wp2_with fail
  clear l_BL q_BL_0 q_BL_1 q_BL_2 q_BL_3 q_BL_4
  refine (node_Valid.calls 0 2 7 2 none 0 [] _ 2 [exN, exE] true _ (Kd.C_nil _ _) (Nat.le_refl _) H13.out (Nat.le_refl _) fx3 HT.out).mono ?_
  rintro e w3 ⟨rfl, hb⟩
  replace HT := Lib.hid (HT.out.below hb)
  replace HB := Lib.hid (below_step HB.out hb)
  replace HS4 := Lib.hid (Kd.C_below HS4.out hb)
  replace H13 := Lib.hid (Kd.C_below H13.out hb)
  replace H7 := Lib.hid (Kd.C_below H7.out hb)
  replace H8 := Lib.hid (Kd.C_below H8.out hb)
  replace HO := Lib.hid (Kd.C_below HO.out hb)
  replace BS := Lib.hid (blk_below BS.out hb)
  replace BL := Lib.hid (blk_below BL.out hb)
  replace BB := Lib.hid (blk_below BB.out hb)
  replace BD := Lib.hid (blk_below BD.out hb)
  replace BO := Lib.hid (blk_below BO.out hb)
  clear hb
  have l_BB : wf.heap.size + 1 < w3.heap.size := blk_lt BB.out
  have q_BB_0 : w3.cell? ⟨wf.heap.size + 1, 0, none⟩ = some (.int .i64 2) := (blk_cell BB.out 0).trans rfl
  have q_BB_1 : w3.cell? ⟨wf.heap.size + 1, 1, none⟩ = some (.int .i64 1) := (blk_cell BB.out 1).trans rfl
  have q_BB_2 : w3.cell? ⟨wf.heap.size + 1, 2, none⟩ = some (.int .i64 3) := (blk_cell BB.out 2).trans rfl
  have q_BB_3 : w3.cell? ⟨wf.heap.size + 1, 3, none⟩ = some (.slice (some ⟨wf.heap.size, 0, none⟩) 1 1) := (blk_cell BB.out 3).trans rfl
  have q_BB_4 : w3.cell? ⟨wf.heap.size + 1, 4, none⟩ = some (.slice none 0 0) := (blk_cell BB.out 4).trans rfl
  go_wp2_with fail
  clear l_BB q_BB_0 q_BB_1 q_BB_2 q_BB_3 q_BB_4
  refine (node_Valid.calls 0 2 1 3 _ 1 [7] none 0 [] true _ H7.out (Nat.le_refl _) (Kd.C_nil _ _) (Nat.le_refl _) fx4 HT.out).mono ?_
  rintro e w4 ⟨rfl, hb⟩
  replace HT := Lib.hid (HT.out.below hb)
  replace HB := Lib.hid (below_step HB.out hb)
  replace HS4 := Lib.hid (Kd.C_below HS4.out hb)
  replace H13 := Lib.hid (Kd.C_below H13.out hb)
  replace H7 := Lib.hid (Kd.C_below H7.out hb)
  replace H8 := Lib.hid (Kd.C_below H8.out hb)
  replace HO := Lib.hid (Kd.C_below HO.out hb)
  replace BS := Lib.hid (blk_below BS.out hb)
  replace BL := Lib.hid (blk_below BL.out hb)
  replace BB := Lib.hid (blk_below BB.out hb)
  replace BD := Lib.hid (blk_below BD.out hb)
  replace BO := Lib.hid (blk_below BO.out hb)
  clear hb
  have l_BD : wf.heap.size + 1 + 1 < w4.heap.size := blk_lt BD.out
  have q_BD_0 : w4.cell? ⟨wf.heap.size + 1 + 1, 0, none⟩ = some (.int .i64 2) := (blk_cell BD.out 0).trans rfl
  have q_BD_1 : w4.cell? ⟨wf.heap.size + 1 + 1, 1, none⟩ = some (.int .i64 1) := (blk_cell BD.out 1).trans rfl
  have q_BD_2 : w4.cell? ⟨wf.heap.size + 1 + 1, 2, none⟩ = some (.int .i64 3) := (blk_cell BD.out 2).trans rfl
  have q_BD_3 : w4.cell? ⟨wf.heap.size + 1 + 1, 3, none⟩ = some (.slice (some ⟨wf.heap.size + 1 + 1 + 1, 0, none⟩) 1 1) := (blk_cell BD.out 3).trans rfl
  have q_BD_4 : w4.cell? ⟨wf.heap.size + 1 + 1, 4, none⟩ = some (.slice none 0 0) := (blk_cell BD.out 4).trans rfl
  go_wp2_with fail
  clear l_BD q_BD_0 q_BD_1 q_BD_2 q_BD_3 q_BD_4
  refine (node_Valid.calls 0 2 1 3 _ 1 [8] none 0 [] false _ H8.out (Nat.le_refl _) (Kd.C_nil _ _) (Nat.le_refl _) fx5 HT.out).mono ?_
  rintro e w5 ⟨rfl, hb⟩
  replace HT := Lib.hid (HT.out.below hb)
  replace HB := Lib.hid (below_step HB.out hb)
  replace HS4 := Lib.hid (Kd.C_below HS4.out hb)
  replace H13 := Lib.hid (Kd.C_below H13.out hb)
  replace H7 := Lib.hid (Kd.C_below H7.out hb)
  replace H8 := Lib.hid (Kd.C_below H8.out hb)
  replace HO := Lib.hid (Kd.C_below HO.out hb)
  replace BS := Lib.hid (blk_below BS.out hb)
  replace BL := Lib.hid (blk_below BL.out hb)
  replace BB := Lib.hid (blk_below BB.out hb)
  replace BD := Lib.hid (blk_below BD.out hb)
  replace BO := Lib.hid (blk_below BO.out hb)
  clear hb
  have l_BO : W6.heap.size < w5.heap.size := blk_lt BO.out
  have q_BO_0 : w5.cell? ⟨W6.heap.size, 0, none⟩ = some (.int .i64 2) := (blk_cell BO.out 0).trans rfl
  have q_BO_1 : w5.cell? ⟨W6.heap.size, 1, none⟩ = some (.int .i64 7) := (blk_cell BO.out 1).trans rfl
  have q_BO_2 : w5.cell? ⟨W6.heap.size, 2, none⟩ = some (.int .i64 2) := (blk_cell BO.out 2).trans rfl
  have q_BO_3 : w5.cell? ⟨W6.heap.size, 3, none⟩ = some (.slice none 0 0) := (blk_cell BO.out 3).trans rfl
  have q_BO_4 : w5.cell? ⟨W6.heap.size, 4, none⟩ = some (.slice (some ⟨W6.heap.size + 1, 0, none⟩) 2 2) := (blk_cell BO.out 4).trans rfl
  go_wp2_with fail
  clear l_BO q_BO_0 q_BO_1 q_BO_2 q_BO_3 q_BO_4
  refine (node_Valid.calls 0 2 7 2 none 0 [] _ 2 [exN, exZ] false _ (Kd.C_nil _ _) (Nat.le_refl _) HO.out (Nat.le_refl _) fx6 HT.out).mono ?_
  rintro e w6 ⟨rfl, hb⟩
  replace HT := Lib.hid (HT.out.below hb)
  replace HB := Lib.hid (below_step HB.out hb)
  replace HS4 := Lib.hid (Kd.C_below HS4.out hb)
  replace H13 := Lib.hid (Kd.C_below H13.out hb)
  replace H7 := Lib.hid (Kd.C_below H7.out hb)
  replace H8 := Lib.hid (Kd.C_below H8.out hb)
  replace HO := Lib.hid (Kd.C_below HO.out hb)
  replace BS := Lib.hid (blk_below BS.out hb)
  replace BL := Lib.hid (blk_below BL.out hb)
  replace BB := Lib.hid (blk_below BB.out hb)
  replace BD := Lib.hid (blk_below BD.out hb)
  replace BO := Lib.hid (blk_below BO.out hb)
  clear hb
  go_wp2_with fail
  refine (node_Valid.calls 0 3 0 0 none 0 [] none 0 [] false _ (Kd.C_nil _ _) (Nat.le_refl _) (Kd.C_nil _ _) (Nat.le_refl _) fx7 HT.out).mono ?_
  rintro e w7 ⟨rfl, hb⟩
  replace HT := Lib.hid (HT.out.below hb)
  replace HB := Lib.hid (below_step HB.out hb)
  replace HS4 := Lib.hid (Kd.C_below HS4.out hb)
  replace H13 := Lib.hid (Kd.C_below H13.out hb)
  replace H7 := Lib.hid (Kd.C_below H7.out hb)
  replace H8 := Lib.hid (Kd.C_below H8.out hb)
  replace HO := Lib.hid (Kd.C_below HO.out hb)
  replace BS := Lib.hid (blk_below BS.out hb)
  replace BL := Lib.hid (blk_below BL.out hb)
  replace BB := Lib.hid (blk_below BB.out hb)
  replace BD := Lib.hid (blk_below BD.out hb)
  replace BO := Lib.hid (blk_below BO.out hb)
  clear hb
  go_wp2_with fail
  refine calls_at (fun W16 hW => ?_)
  have hb : Below w7.heap.size w7 W16 := by rw [hW]; repeat (first | exact Below.refl _ _ | refine Below.alloc ?_ (by first | exact Nat.le_refl _ | (simp <;> omega)) _)
  have nD4 : W16.heap[w7.heap.size]? = some (.cells #[.int .u8 0, .int .u8 0, .int .u8 0, .int .u8 0] 5 (0, 0)) := by rw [hW]; repeat (first | exact heap_alloc_new _ _ | exact blk_new _ _ _ (by simp) | refine blk_alloc ?_ _)
  clear hW
  replace HT := Lib.hid (HT.out.below hb)
  replace HB := Lib.hid (below_step HB.out hb)
  replace HS4 := Lib.hid (Kd.C_below HS4.out hb)
  replace H13 := Lib.hid (Kd.C_below H13.out hb)
  replace H7 := Lib.hid (Kd.C_below H7.out hb)
  replace H8 := Lib.hid (Kd.C_below H8.out hb)
  replace HO := Lib.hid (Kd.C_below HO.out hb)
  replace BS := Lib.hid (blk_below BS.out hb)
  replace BL := Lib.hid (blk_below BL.out hb)
  replace BB := Lib.hid (blk_below BB.out hb)
  replace BD := Lib.hid (blk_below BD.out hb)
  replace BO := Lib.hid (blk_below BO.out hb)
  clear hb
  have D4 := Lib.hid nD4
  clear nD4
  have C4 := C_ints (xs := [0, 0, 0, 0]) (k := .u8) D4.out (by decide)
  have H4 := Lib.hid (C4)
  clear C4 D4
  refine (node_Valid.calls 0 1 0 0 _ 4 [0, 0, 0, 0] none 0 [] false _ H4.out (Nat.le_refl _) (Kd.C_nil _ _) (Nat.le_refl _) fx8 HT.out).mono ?_
  rintro e w8 ⟨rfl, hb⟩
  replace HT := Lib.hid (HT.out.below hb)
  replace HB := Lib.hid (below_step HB.out hb)
  replace HS4 := Lib.hid (Kd.C_below HS4.out hb)
  replace H13 := Lib.hid (Kd.C_below H13.out hb)
  replace H7 := Lib.hid (Kd.C_below H7.out hb)
  replace H8 := Lib.hid (Kd.C_below H8.out hb)
  replace HO := Lib.hid (Kd.C_below HO.out hb)
  replace H4 := Lib.hid (Kd.C_below H4.out hb)
  replace BS := Lib.hid (blk_below BS.out hb)
  replace BL := Lib.hid (blk_below BL.out hb)
  replace BB := Lib.hid (blk_below BB.out hb)
  replace BD := Lib.hid (blk_below BD.out hb)
  replace BO := Lib.hid (blk_below BO.out hb)
  clear hb
  have l_BS : w.heap.size + 1 < w8.heap.size := blk_lt BS.out
  have q_BS_0 : w8.cell? ⟨w.heap.size + 1, 0, none⟩ = some (.int .i64 1) := (blk_cell BS.out 0).trans rfl
  have q_BS_1 : w8.cell? ⟨w.heap.size + 1, 1, none⟩ = some (.int .i64 0) := (blk_cell BS.out 1).trans rfl
  have q_BS_2 : w8.cell? ⟨w.heap.size + 1, 2, none⟩ = some (.int .i64 0) := (blk_cell BS.out 2).trans rfl
  have q_BS_3 : w8.cell? ⟨w.heap.size + 1, 3, none⟩ = some (.slice none 0 0) := (blk_cell BS.out 3).trans rfl
  have q_BS_4 : w8.cell? ⟨w.heap.size + 1, 4, none⟩ = some (.slice (some ⟨w.heap.size, 0, none⟩) 1 1) := (blk_cell BS.out 4).trans rfl
  go_wp2_with fail
  clear l_BS q_BS_0 q_BS_1 q_BS_2 q_BS_3 q_BS_4
  refine (node_Depth.calls 0 1 0 0 none 0 [] _ 1 [z25] 1 _ (Kd.C_nil _ _) (Nat.le_refl _) HS4.out (Nat.le_refl _) fx9).mono ?_
  rintro e w9 ⟨rfl, hb⟩
  replace HT := Lib.hid (HT.out.below hb)
  replace HB := Lib.hid (below_step HB.out hb)
  replace HS4 := Lib.hid (Kd.C_below HS4.out hb)
  replace H13 := Lib.hid (Kd.C_below H13.out hb)
  replace H7 := Lib.hid (Kd.C_below H7.out hb)
  replace H8 := Lib.hid (Kd.C_below H8.out hb)
  replace HO := Lib.hid (Kd.C_below HO.out hb)
  replace H4 := Lib.hid (Kd.C_below H4.out hb)
  replace BS := Lib.hid (blk_below BS.out hb)
  replace BL := Lib.hid (blk_below BL.out hb)
  replace BB := Lib.hid (blk_below BB.out hb)
  replace BD := Lib.hid (blk_below BD.out hb)
  replace BO := Lib.hid (blk_below BO.out hb)
  clear hb
  have l_BS : w.heap.size + 1 < w9.heap.size := blk_lt BS.out
  have q_BS_0 : w9.cell? ⟨w.heap.size + 1, 0, none⟩ = some (.int .i64 1) := (blk_cell BS.out 0).trans rfl
  have q_BS_1 : w9.cell? ⟨w.heap.size + 1, 1, none⟩ = some (.int .i64 0) := (blk_cell BS.out 1).trans rfl
  have q_BS_2 : w9.cell? ⟨w.heap.size + 1, 2, none⟩ = some (.int .i64 0) := (blk_cell BS.out 2).trans rfl
  have q_BS_3 : w9.cell? ⟨w.heap.size + 1, 3, none⟩ = some (.slice none 0 0) := (blk_cell BS.out 3).trans rfl
  have q_BS_4 : w9.cell? ⟨w.heap.size + 1, 4, none⟩ = some (.slice (some ⟨w.heap.size, 0, none⟩) 1 1) := (blk_cell BS.out 4).trans rfl
  go_wp2_with fail
  clear l_BS q_BS_0 q_BS_1 q_BS_2 q_BS_3 q_BS_4
  refine (node_Objects.calls 0 1 0 0 none 0 [] _ 1 [z25] 1 _ (Kd.C_nil _ _) (Nat.le_refl _) HS4.out (Nat.le_refl _) fx10).mono ?_
  rintro e w10 ⟨rfl, hb⟩
  replace HT := Lib.hid (HT.out.below hb)
  replace HB := Lib.hid (below_step HB.out hb)
  replace HS4 := Lib.hid (Kd.C_below HS4.out hb)
  replace H13 := Lib.hid (Kd.C_below H13.out hb)
  replace H7 := Lib.hid (Kd.C_below H7.out hb)
  replace H8 := Lib.hid (Kd.C_below H8.out hb)
  replace HO := Lib.hid (Kd.C_below HO.out hb)
  replace H4 := Lib.hid (Kd.C_below H4.out hb)
  replace BS := Lib.hid (blk_below BS.out hb)
  replace BL := Lib.hid (blk_below BL.out hb)
  replace BB := Lib.hid (blk_below BB.out hb)
  replace BD := Lib.hid (blk_below BD.out hb)
  replace BO := Lib.hid (blk_below BO.out hb)
  clear hb
  have l_BL : gl < w10.heap.size := blk_lt BL.out
  have q_BL_0 : w10.cell? ⟨gl, 0, none⟩ = some (.int .i64 2) := (blk_cell BL.out 0).trans rfl
  have q_BL_1 : w10.cell? ⟨gl, 1, none⟩ = some (.int .i64 7) := (blk_cell BL.out 1).trans rfl
  have q_BL_2 : w10.cell? ⟨gl, 2, none⟩ = some (.int .i64 2) := (blk_cell BL.out 2).trans rfl
  have q_BL_3 : w10.cell? ⟨gl, 3, none⟩ = some (.slice none 0 0) := (blk_cell BL.out 3).trans rfl
  have q_BL_4 : w10.cell? ⟨gl, 4, none⟩ = some (.slice (some ⟨g13, 0, none⟩) 2 2) := (blk_cell BL.out 4).trans rfl
  go_wp2_with fail
  clear l_BL q_BL_0 q_BL_1 q_BL_2 q_BL_3 q_BL_4
  refine (node_Depth.calls 0 2 7 2 none 0 [] _ 2 [exN, exE] 2 _ (Kd.C_nil _ _) (Nat.le_refl _) H13.out (Nat.le_refl _) fx11).mono ?_
  rintro e w11 ⟨rfl, hb⟩
  replace HT := Lib.hid (HT.out.below hb)
  replace HB := Lib.hid (below_step HB.out hb)
  replace HS4 := Lib.hid (Kd.C_below HS4.out hb)
  replace H13 := Lib.hid (Kd.C_below H13.out hb)
  replace H7 := Lib.hid (Kd.C_below H7.out hb)
  replace H8 := Lib.hid (Kd.C_below H8.out hb)
  replace HO := Lib.hid (Kd.C_below HO.out hb)
  replace H4 := Lib.hid (Kd.C_below H4.out hb)
  replace BS := Lib.hid (blk_below BS.out hb)
  replace BL := Lib.hid (blk_below BL.out hb)
  replace BB := Lib.hid (blk_below BB.out hb)
  replace BD := Lib.hid (blk_below BD.out hb)
  replace BO := Lib.hid (blk_below BO.out hb)
  clear hb
  have l_BL : gl < w11.heap.size := blk_lt BL.out
  have q_BL_0 : w11.cell? ⟨gl, 0, none⟩ = some (.int .i64 2) := (blk_cell BL.out 0).trans rfl
  have q_BL_1 : w11.cell? ⟨gl, 1, none⟩ = some (.int .i64 7) := (blk_cell BL.out 1).trans rfl
  have q_BL_2 : w11.cell? ⟨gl, 2, none⟩ = some (.int .i64 2) := (blk_cell BL.out 2).trans rfl
  have q_BL_3 : w11.cell? ⟨gl, 3, none⟩ = some (.slice none 0 0) := (blk_cell BL.out 3).trans rfl
  have q_BL_4 : w11.cell? ⟨gl, 4, none⟩ = some (.slice (some ⟨g13, 0, none⟩) 2 2) := (blk_cell BL.out 4).trans rfl
  go_wp2_with fail
  clear l_BL q_BL_0 q_BL_1 q_BL_2 q_BL_3 q_BL_4
  refine (node_Objects.calls 0 2 7 2 none 0 [] _ 2 [exN, exE] 2 _ (Kd.C_nil _ _) (Nat.le_refl _) H13.out (Nat.le_refl _) fx12).mono ?_
  rintro e w12 ⟨rfl, hb⟩
  replace HT := Lib.hid (HT.out.below hb)
  replace HB := Lib.hid (below_step HB.out hb)
  replace HS4 := Lib.hid (Kd.C_below HS4.out hb)
  replace H13 := Lib.hid (Kd.C_below H13.out hb)
  replace H7 := Lib.hid (Kd.C_below H7.out hb)
  replace H8 := Lib.hid (Kd.C_below H8.out hb)
  replace HO := Lib.hid (Kd.C_below HO.out hb)
  replace H4 := Lib.hid (Kd.C_below H4.out hb)
  replace BS := Lib.hid (blk_below BS.out hb)
  replace BL := Lib.hid (blk_below BL.out hb)
  replace BB := Lib.hid (blk_below BB.out hb)
  replace BD := Lib.hid (blk_below BD.out hb)
  replace BO := Lib.hid (blk_below BO.out hb)
  clear hb
  go_wp2_with fail
  refine (node_Depth.calls 0 0 0 0 none 0 [] none 0 [] 0 _ (Kd.C_nil _ _) (Nat.le_refl _) (Kd.C_nil _ _) (Nat.le_refl _) fx13).mono ?_
  rintro e w13 ⟨rfl, hb⟩
  replace HT := Lib.hid (HT.out.below hb)
  replace HB := Lib.hid (below_step HB.out hb)
  replace HS4 := Lib.hid (Kd.C_below HS4.out hb)
  replace H13 := Lib.hid (Kd.C_below H13.out hb)
  replace H7 := Lib.hid (Kd.C_below H7.out hb)
  replace H8 := Lib.hid (Kd.C_below H8.out hb)
  replace HO := Lib.hid (Kd.C_below HO.out hb)
  replace H4 := Lib.hid (Kd.C_below H4.out hb)
  replace BS := Lib.hid (blk_below BS.out hb)
  replace BL := Lib.hid (blk_below BL.out hb)
  replace BB := Lib.hid (blk_below BB.out hb)
  replace BD := Lib.hid (blk_below BD.out hb)
  replace BO := Lib.hid (blk_below BO.out hb)
  clear hb
  have l_BL : gl < w13.heap.size := blk_lt BL.out
  have q_BL_0 : w13.cell? ⟨gl, 0, none⟩ = some (.int .i64 2) := (blk_cell BL.out 0).trans rfl
  have q_BL_1 : w13.cell? ⟨gl, 1, none⟩ = some (.int .i64 7) := (blk_cell BL.out 1).trans rfl
  have q_BL_2 : w13.cell? ⟨gl, 2, none⟩ = some (.int .i64 2) := (blk_cell BL.out 2).trans rfl
  have q_BL_3 : w13.cell? ⟨gl, 3, none⟩ = some (.slice none 0 0) := (blk_cell BL.out 3).trans rfl
  have q_BL_4 : w13.cell? ⟨gl, 4, none⟩ = some (.slice (some ⟨g13, 0, none⟩) 2 2) := (blk_cell BL.out 4).trans rfl
  go_wp2_with fail
  clear l_BL q_BL_0 q_BL_1 q_BL_2 q_BL_3 q_BL_4
  refine (node_Equal.calls 0 2 7 2 none 0 [] _ 2 [exN, exE] 2 7 2 none 0 [] _ 2 [exN, exE] true _ (Kd.C_nil _ _) (Nat.le_refl _) H13.out (Nat.le_refl _) (Kd.C_nil _ _) (Nat.le_refl _) H13.out (Nat.le_refl _) fx14).mono ?_
  rintro e w14 ⟨rfl, hb⟩
  replace HT := Lib.hid (HT.out.below hb)
  replace HB := Lib.hid (below_step HB.out hb)
  replace HS4 := Lib.hid (Kd.C_below HS4.out hb)
  replace H13 := Lib.hid (Kd.C_below H13.out hb)
  replace H7 := Lib.hid (Kd.C_below H7.out hb)
  replace H8 := Lib.hid (Kd.C_below H8.out hb)
  replace HO := Lib.hid (Kd.C_below HO.out hb)
  replace H4 := Lib.hid (Kd.C_below H4.out hb)
  replace BS := Lib.hid (blk_below BS.out hb)
  replace BL := Lib.hid (blk_below BL.out hb)
  replace BB := Lib.hid (blk_below BB.out hb)
  replace BD := Lib.hid (blk_below BD.out hb)
  replace BO := Lib.hid (blk_below BO.out hb)
  clear hb
  have l_BL : gl < w14.heap.size := blk_lt BL.out
  have q_BL_0 : w14.cell? ⟨gl, 0, none⟩ = some (.int .i64 2) := (blk_cell BL.out 0).trans rfl
  have q_BL_1 : w14.cell? ⟨gl, 1, none⟩ = some (.int .i64 7) := (blk_cell BL.out 1).trans rfl
  have q_BL_2 : w14.cell? ⟨gl, 2, none⟩ = some (.int .i64 2) := (blk_cell BL.out 2).trans rfl
  have q_BL_3 : w14.cell? ⟨gl, 3, none⟩ = some (.slice none 0 0) := (blk_cell BL.out 3).trans rfl
  have q_BL_4 : w14.cell? ⟨gl, 4, none⟩ = some (.slice (some ⟨g13, 0, none⟩) 2 2) := (blk_cell BL.out 4).trans rfl
  have l_BB : wf.heap.size + 1 < w14.heap.size := blk_lt BB.out
  have q_BB_0 : w14.cell? ⟨wf.heap.size + 1, 0, none⟩ = some (.int .i64 2) := (blk_cell BB.out 0).trans rfl
  have q_BB_1 : w14.cell? ⟨wf.heap.size + 1, 1, none⟩ = some (.int .i64 1) := (blk_cell BB.out 1).trans rfl
  have q_BB_2 : w14.cell? ⟨wf.heap.size + 1, 2, none⟩ = some (.int .i64 3) := (blk_cell BB.out 2).trans rfl
  have q_BB_3 : w14.cell? ⟨wf.heap.size + 1, 3, none⟩ = some (.slice (some ⟨wf.heap.size, 0, none⟩) 1 1) := (blk_cell BB.out 3).trans rfl
  have q_BB_4 : w14.cell? ⟨wf.heap.size + 1, 4, none⟩ = some (.slice none 0 0) := (blk_cell BB.out 4).trans rfl
  go_wp2_with fail
  clear l_BL q_BL_0 q_BL_1 q_BL_2 q_BL_3 q_BL_4 l_BB q_BB_0 q_BB_1 q_BB_2 q_BB_3 q_BB_4
  refine (node_Equal.calls 0 2 7 2 none 0 [] _ 2 [exN, exE] 2 1 3 _ 1 [7] none 0 [] false _ (Kd.C_nil _ _) (Nat.le_refl _) H13.out (Nat.le_refl _) H7.out (Nat.le_refl _) (Kd.C_nil _ _) (Nat.le_refl _) fx15).mono ?_
  rintro e w15 ⟨rfl, hb⟩
  replace HT := Lib.hid (HT.out.below hb)
  replace HB := Lib.hid (below_step HB.out hb)
  replace HS4 := Lib.hid (Kd.C_below HS4.out hb)
  replace H13 := Lib.hid (Kd.C_below H13.out hb)
  replace H7 := Lib.hid (Kd.C_below H7.out hb)
  replace H8 := Lib.hid (Kd.C_below H8.out hb)
  replace HO := Lib.hid (Kd.C_below HO.out hb)
  replace H4 := Lib.hid (Kd.C_below H4.out hb)
  replace BS := Lib.hid (blk_below BS.out hb)
  replace BL := Lib.hid (blk_below BL.out hb)
  replace BB := Lib.hid (blk_below BB.out hb)
  replace BD := Lib.hid (blk_below BD.out hb)
  replace BO := Lib.hid (blk_below BO.out hb)
  clear hb
  have l_BB : wf.heap.size + 1 < w15.heap.size := blk_lt BB.out
  have q_BB_0 : w15.cell? ⟨wf.heap.size + 1, 0, none⟩ = some (.int .i64 2) := (blk_cell BB.out 0).trans rfl
  have q_BB_1 : w15.cell? ⟨wf.heap.size + 1, 1, none⟩ = some (.int .i64 1) := (blk_cell BB.out 1).trans rfl
  have q_BB_2 : w15.cell? ⟨wf.heap.size + 1, 2, none⟩ = some (.int .i64 3) := (blk_cell BB.out 2).trans rfl
  have q_BB_3 : w15.cell? ⟨wf.heap.size + 1, 3, none⟩ = some (.slice (some ⟨wf.heap.size, 0, none⟩) 1 1) := (blk_cell BB.out 3).trans rfl
  have q_BB_4 : w15.cell? ⟨wf.heap.size + 1, 4, none⟩ = some (.slice none 0 0) := (blk_cell BB.out 4).trans rfl
  have l_BD : wf.heap.size + 1 + 1 < w15.heap.size := blk_lt BD.out
  have q_BD_0 : w15.cell? ⟨wf.heap.size + 1 + 1, 0, none⟩ = some (.int .i64 2) := (blk_cell BD.out 0).trans rfl
  have q_BD_1 : w15.cell? ⟨wf.heap.size + 1 + 1, 1, none⟩ = some (.int .i64 1) := (blk_cell BD.out 1).trans rfl
  have q_BD_2 : w15.cell? ⟨wf.heap.size + 1 + 1, 2, none⟩ = some (.int .i64 3) := (blk_cell BD.out 2).trans rfl
  have q_BD_3 : w15.cell? ⟨wf.heap.size + 1 + 1, 3, none⟩ = some (.slice (some ⟨wf.heap.size + 1 + 1 + 1, 0, none⟩) 1 1) := (blk_cell BD.out 3).trans rfl
  have q_BD_4 : w15.cell? ⟨wf.heap.size + 1 + 1, 4, none⟩ = some (.slice none 0 0) := (blk_cell BD.out 4).trans rfl
  go_wp2_with fail
  clear l_BB q_BB_0 q_BB_1 q_BB_2 q_BB_3 q_BB_4 l_BD q_BD_0 q_BD_1 q_BD_2 q_BD_3 q_BD_4
  refine (node_Equal.calls 0 2 1 3 _ 1 [7] none 0 [] 2 1 3 _ 1 [8] none 0 [] false _ H7.out (Nat.le_refl _) (Kd.C_nil _ _) (Nat.le_refl _) H8.out (Nat.le_refl _) (Kd.C_nil _ _) (Nat.le_refl _) fx16).mono ?_
  rintro e w16 ⟨rfl, hb⟩
  replace HT := Lib.hid (HT.out.below hb)
  replace HB := Lib.hid (below_step HB.out hb)
  replace HS4 := Lib.hid (Kd.C_below HS4.out hb)
  replace H13 := Lib.hid (Kd.C_below H13.out hb)
  replace H7 := Lib.hid (Kd.C_below H7.out hb)
  replace H8 := Lib.hid (Kd.C_below H8.out hb)
  replace HO := Lib.hid (Kd.C_below HO.out hb)
  replace H4 := Lib.hid (Kd.C_below H4.out hb)
  replace BS := Lib.hid (blk_below BS.out hb)
  replace BL := Lib.hid (blk_below BL.out hb)
  replace BB := Lib.hid (blk_below BB.out hb)
  replace BD := Lib.hid (blk_below BD.out hb)
  replace BO := Lib.hid (blk_below BO.out hb)
  clear hb
  go_wp2
  go_ret
  exact ⟨rfl, HB.out⟩
end Go.Proofs.YtmbockhcmhghlaaDoor.Pr
end
section
namespace Go.Proofs.YtmbockhcmhghlaaDoor.Pr
open Go.RowKit Go.Proofs.YtmbockhcmhghlaaDoorW.PrintWords Go.Proofs.YtmbockhcmhghlaaDoorW.PrintLast Go.Proofs.YtmbockhcmhghlaaDoorW.PrintMore
attribute [local go_sem] max2_int min2_int max_two min_two max_three min_three max_four min_four
set_option linter.unusedVariables false
set_option linter.unusedSimpArgs false
noncomputable section
mutual
def capnplaw10_NodeMatchesReference.j0 : Nat → Bool → Int → Int → Int → List Int → List (S25) → Int → Int → Int → List Int → List (S25) → Option (Bool)
 | 0, _, _, _, _, _, _, _, _, _, _, _ => none
 | k + 1, x16, x157000, x157001, x157002, x157003, x157004, x158000, x158001, x158002, x158003, x158004 => if x16 = true then ((capnplaw10_awake.f).bind fun t161 => (some t161)) else ((node_Valid.f k x157000 x157001 x157002 x157003 x157004).bind fun t162 => ((capnpref10_Valid.f k x157000 x157001 x157002 x157003 x157004).bind fun t163 => (if (t162 != t163) = true then (capnplaw10_NodeMatchesReference.j1 k true x157000 x157001 x157002 x157003 x157004) else ((node_Equal.f k x157000 x157001 x157002 x157003 x157004 x158000 x158001 x158002 x158003 x158004).bind fun t164 => ((capnpref10_Equal.f k x157000 x157001 x157002 x157003 x157004 x158000 x158001 x158002 x158003 x158004).bind fun t165 => (if (t164 != t165) = true then (capnplaw10_NodeMatchesReference.j1 k true x157000 x157001 x157002 x157003 x157004) else ((node_Equal.f k x157000 x157001 x157002 x157003 x157004 x157000 x157001 x157002 x157003 x157004).bind fun t166 => (capnplaw10_NodeMatchesReference.j1 k (!t166) x157000 x157001 x157002 x157003 x157004))))))))
def capnplaw10_NodeMatchesReference.j1 : Nat → Bool → Int → Int → Int → List Int → List (S25) → Option (Bool)
 | 0, _, _, _, _, _, _ => none
 | k + 1, x37, x157000, x157001, x157002, x157003, x157004 => if x37 = true then (none) else ((capnpref10_Valid.f k x157000 x157001 x157002 x157003 x157004).bind fun t167 => (if t167 = true then ((node_Depth.f k x157000 x157001 x157002 x157003 x157004).bind fun t168 => ((capnpref10_Depth.f k x157000 x157001 x157002 x157003 x157004).bind fun t169 => (if t168 = t169 then ((node_Objects.f k x157000 x157001 x157002 x157003 x157004).bind fun t170 => ((capnpref10_Objects.f k x157000 x157001 x157002 x157003 x157004).bind fun t171 => (some (t170 == t171)))) else (none)))) else (some true)))
end
def capnplaw10_NodeMatchesReference.f (k : Nat) (a0_0 : Int) (a0_1 : Int) (a0_2 : Int) (l0_3 : List Int) (l0_4 : List (S25)) (a1_0 : Int) (a1_1 : Int) (a1_2 : Int) (l1_3 : List Int) (l1_4 : List (S25)) : Option (Bool) := (capnplaw10_awake.f).bind fun t158 => (if t158 = true then ((capnpref10_Few.f k a0_0 a0_1 a0_2 l0_3 l0_4).bind fun t159 => (if t159 = true then ((capnpref10_Few.f k a1_0 a1_1 a1_2 l1_3 l1_4).bind fun t160 => (capnplaw10_NodeMatchesReference.j0 k (!t160) a0_0 a0_1 a0_2 l0_3 l0_4 a1_0 a1_1 a1_2 l1_3 l1_4)) else (capnplaw10_NodeMatchesReference.j0 k true a0_0 a0_1 a0_2 l0_3 l0_4 a1_0 a1_1 a1_2 l1_3 l1_4))) else (capnplaw10_NodeMatchesReference.j0 k true a0_0 a0_1 a0_2 l0_3 l0_4 a1_0 a1_1 a1_2 l1_3 l1_4))
def capnplaw10_NodeMatchesReference.T3 : Bool × List (List Nat × List Nat) := (true, [([], []), ([0], [0]), ([], []), ([2, 1], [2]), ([1, 3], [1, 3]), ([4, 3], [4]), ([5], [5]), ([5], [5]), ([6, 7, 5, 5], [5, 6, 7]), ([5], [5]), ([5], [5]), ([9, 10, 8, 5], [5, 9, 10]), ([8, 11, 5], [5, 8, 11]), ([5, 12], [5, 12]), ([13, 11], [13]), ([14], [14]), ([14], [14]), ([15, 16, 14, 14], [14, 15, 16]), ([17, 14], [14, 17]), ([14, 18], [14, 18])])
def capnplaw10_NodeMatchesReference.B3 : List Nat := [0, 1, 0, 7, 15, 31, 63, 63, 255, 63, 63, 2047, 4095, 8191, 16383, 32767, 32767, 131071, 262143, 524287]
theorem capnplaw10_NodeMatchesReference.tab3 : rtab .any (opsOf Tryd.f3 3) = capnplaw10_NodeMatchesReference.T3 := by kernel_rfl
theorem capnplaw10_NodeMatchesReference.bits3 : waitsOk capnplaw10_NodeMatchesReference.T3.2 capnplaw10_NodeMatchesReference.B3 = true := by kernel_rfl
def capnplaw10_NodeMatchesReference.T5 : Bool × List (List Nat × List Nat) := (true, [([], []), ([0], [0]), ([1], [1]), ([2, 1], [2]), ([3], [3]), ([4, 3, 3], [3, 4]), ([3], [3]), ([6, 5, 3], [3, 6]), ([5, 7, 3], [3, 5, 7]), ([8, 7, 3], [3, 8]), ([9], [9]), ([10, 9, 9], [9, 10]), ([9], [9]), ([12, 11, 9], [9, 12]), ([11, 13, 9], [9, 11, 13]), ([9, 14, 3], [3, 9, 14]), ([3, 15], [3, 15]), ([16, 13, 0, 1, 2, 3, 4, 5, 6, 7, 8, 9, 10, 11, 12, 13, 14, 15, 16], [16])])
def capnplaw10_NodeMatchesReference.B5 : List Nat := [0, 1, 3, 7, 15, 31, 15, 127, 255, 511, 1023, 2047, 1023, 8191, 16383, 32767, 65535, 131071]
theorem capnplaw10_NodeMatchesReference.tab5 : rtab .any (opsOf Tryd.f3 5) = capnplaw10_NodeMatchesReference.T5 := by kernel_rfl
theorem capnplaw10_NodeMatchesReference.bits5 : waitsOk capnplaw10_NodeMatchesReference.T5.2 capnplaw10_NodeMatchesReference.B5 = true := by kernel_rfl
end
end Go.Proofs.YtmbockhcmhghlaaDoor.Pr
end
