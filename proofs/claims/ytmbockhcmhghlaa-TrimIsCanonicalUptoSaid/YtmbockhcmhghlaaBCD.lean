/- A part of the proof of YtmbockhcmhghlaaCanonRow (the texts that it stands on, gathered; declarations that nothing uses are left out). -/
import Derived.Test.YtmbockhcmhghlaaBCC
import Derived.Below
import Derived.Deep.Draws
import Derived.Deep.AppendLies
import Derived.Maps.AppendAt
import Derived.OwnWalk
import Derived.Laws.BytesArg
import Derived.Laws.MakeOwn
import Derived.Laws.OwnMore
import Derived.Deep.OwnRows
import Derived.Tactics
import Derived.Lib.ConvBytes
import Derived.Laws.Slices
import Derived.WalkKit
import Derived.KernelRfl
import Derived.RowKit3
import Derived.Deep.LoopGhost
import Derived.Deep.QuietTactic
import Derived.BigQuiet
import Derived.WideLaws
import Derived.Deep.DeepCutAuto
import Derived.Deep.CutBlock
import Derived.Deep.RegionHeld3
import Derived.Laws.Rows
import Derived.Lib.AppendStr
import Derived.ArgAppend
import Derived.Laws.IdiomCopy
import Derived.RowKit
import Derived.OrdersHeld
import Derived.Laws.BitsLemmas
import Derived.Laws.StructEq
import Derived.SizedLaws
import Derived.ChangeSlices
import Derived.Test.YtmbockhcmhghlaaProg
import Derived.Lib.Hide
import Derived.IntWalk
import Derived.Test.YtmbockhcmhghlaaRows
import Derived.ProofKit
import Derived.OpenShut
import Derived.ChangeOld
import Derived.Lib.SmallJoins
import Derived.DataReads
import Derived.ShutString
import Derived.JoinedCond
section
namespace Go.Proofs.Ytmbockhcmhghlaa.Pr
open Go.RowKit Go.Proofs.YtmbockhcmhghlaaW.PrintWords Go.Proofs.YtmbockhcmhghlaaW.PrintLast Go.Proofs.YtmbockhcmhghlaaW.PrintMore
attribute [local go_sem] max2_int min2_int max_two min_two max_three min_three max_four min_four
set_option linter.unusedVariables false
set_option linter.unusedSimpArgs false
mutual
def capnpref10_Objects.l0 : Nat → List (S25) → Int → Int → Option (Int)
 | 0, _, _, _ => none
 | k + 1, x3, x4, x5 => if x5 < (x3.length : Int) then (if 0 ≤ x5 then ((capnpref10_Objects.f k ((rd_T25 x3 x5).f0) ((rd_T25 x3 x5).f1) ((rd_T25 x3 x5).f2) ((rd_T25 x3 x5).f3) ((rd_T25 x3 x5).f4)).bind fun t257 => (capnpref10_Objects.l0 k x3 (wrap64 (x4 + t257)) (wrap64 (x5 + 1)))) else (none)) else (some x4)
def capnpref10_Objects.f : Nat → Int → Int → Int → List Int → List (S25) → Option (Int)
 | 0, _, _, _, _, _ => none
 | k + 1, a0_0, a0_1, a0_2, l0_3, l0_4 => if a0_0 = 0 then (some 0) else ((capnpref10_Targets.f k a0_0 a0_1 a0_2 l0_3 l0_4).bind fun t253 => (capnpref10_Objects.l0 k t253 1 0))
end
set_option maxHeartbeats 8000000 in
set_option maxRecDepth 100000 in
theorem capnpref10_Objects.calls (k : Nat) : ∀ (a0_0 : Int) (a0_1 : Int) (a0_2 : Int) (A0_3 : Option Addr) (c0_3 : Nat) (l0_3 : List Int) (A0_4 : Option Addr) (c0_4 : Nat) (l0_4 : List (S25)) (r : Int) (w : World) (hr0_3 : Kd.C (Kd.int .u8) w A0_3 l0_3.length l0_3) (hc0_3 : l0_3.length ≤ c0_3) (hr0_4 : Kd.C k25 w A0_4 l0_4.length l0_4) (hc0_4 : l0_4.length ≤ c0_4) (h : capnpref10_Objects.f k a0_0 a0_1 a0_2 l0_3 l0_4 = some r),
  Calls Try.prog 22 #[.agg #[.int .i64 a0_0, .int .i64 a0_1, .int .i64 a0_2, .slice A0_3 l0_3.length c0_3, .slice A0_4 l0_4.length c0_4]] w fun e w' => e = .returned (.int .i64 r) ∧ Below w.heap.size w w' := by
 induction k using Nat.strongRecOn with
 | _ k ih =>
 intro a0_0 a0_1 a0_2 A0_3 c0_3 l0_3 A0_4 c0_4 l0_4 r w hr0_3 hc0_3 hr0_4 hc0_4 h
 cases k with
 | zero => exact absurd h (by simp [capnpref10_Objects.f])
 | succ k =>
 simp only [capnpref10_Objects.f] at h
 have hu25 := Try.underlying25
 have HR0_3 := Aside0.mk hr0_3
 have HC0_3 := Aside0.mk hc0_3
 clear hr0_3 hc0_3
 have HR0_4 := Aside0.mk hr0_4
 have HC0_4 := Aside0.mk hc0_4
 clear hr0_4 hc0_4
 have HB := Aside0.mk (Below.refl w.heap.size w)
 have H : (if a0_0 = 0 then (some 0) else ((capnpref10_Targets.f k a0_0 a0_1 a0_2 l0_3 l0_4).bind fun t253 => (capnpref10_Objects.l0 k t253 1 0))) = some r := h
 clear h
 by_cases c2 : a0_0 = 0
 ·rw [if_pos c2] at H
  have c2b0 : (a0_0 == 0) = true := beq_iff_eq.mpr c2
  have c2b1 : (a0_0 != 0) = false := bne_eq_false_iff_eq.mpr c2
  clear c2
  obtain rfl := Option.some.inj H
  go_enter Try.func22, Try.ntmps22
  go_wp2_with (first | ((with_reducible refine gate_dst (N := 1) rfl ?_); refine box_event ?hg (N := 1) ?hd (cs := #[.int .i64 a0_0, .int .i64 a0_1, .int .i64 a0_2, .slice A0_3 l0_3.length c0_3, .slice A0_4 l0_4.length c0_4]) (t := 25) ?hr ?_; (case hd => rfl); (case hg => rfl); (case hr => first | (go_simp; done) | (go_simp; rfl)); intro gb252 hg w3 hbox hb; have n0_ := Aside0.mk (below_step (by repeat (first | (with_reducible first | exact HB.out | apply below_alloc | apply pw_below_drewN | apply below_drew1) | exact HB.out)) hb); have n1_ := Aside0.mk (hbox); have n2_ := Aside0.mk ((by rw [hg]; exact (below_size (by repeat (first | (with_reducible first | exact HB.out | apply below_alloc | apply pw_below_drewN | apply below_drew1) | exact HB.out))) : w.heap.size ≤ gb252)); have n3_ := Aside0.mk ((by rw [hg]; exact (below_size (by repeat (first | (with_reducible first | exact HB.out | apply below_alloc | apply pw_below_drewN | apply below_drew1) | exact HB.out))) : w.heap.size ≤ gb252)); clear HB; have HB := n0_; have BK252 := n1_; have GW252 := n2_; have GE252 := n3_; clear n0_ n1_ n2_ n3_; clear hb hbox hg; have hcz4_0 : w3.cell? ⟨gb252, 0, none⟩ = some (.int .i64 a0_0) := (blk_cell BK252.out 0).trans rfl; have hcz4_1 : w3.cell? ⟨gb252, 1, none⟩ = some (.int .i64 a0_1) := (blk_cell BK252.out 1).trans rfl; have hcz4_2 : w3.cell? ⟨gb252, 2, none⟩ = some (.int .i64 a0_2) := (blk_cell BK252.out 2).trans rfl; have hcz4_3 : w3.cell? ⟨gb252, 3, none⟩ = some (.slice A0_3 l0_3.length c0_3) := (blk_cell BK252.out 3).trans rfl; have hcz4_4 : w3.cell? ⟨gb252, 4, none⟩ = some (.slice A0_4 l0_4.length c0_4) := (blk_cell BK252.out 4).trans rfl; have hfz4_0 := blk_frozen BK252.out 0; have hfz4_1 := blk_frozen BK252.out 1; have hfz4_2 := blk_frozen BK252.out 2; have hfz4_3 := blk_frozen BK252.out 3; have hfz4_4 := blk_frozen BK252.out 4))
  go_ret
  exact ⟨by first | rfl | (simp [errW_none, errW_some] <;> rfl) | (simp [*, errW_none, errW_some] <;> rfl), by repeat (first | (with_reducible first | exact HB.out | apply below_alloc | apply pw_below_drewN | apply below_drew1 | refine below_set ?_ GE252.out) | exact HB.out)⟩
 ·rw [if_neg c2] at H
  have c2b0 : (a0_0 == 0) = false := beq_eq_false_iff_ne.mpr c2
  have c2b1 : (a0_0 != 0) = true := bne_iff_ne.mpr c2
  replace H := Option.bind_eq_some_iff.mp H
  obtain ⟨t253, A50, H⟩ := H
  replace H : (capnpref10_Objects.l0 k t253 1 0) = some r := H
  have A5 := Aside0.mk A50
  clear A50
  have H' := Aside0.mk H
  clear H
  go_enter Try.func22, Try.ntmps22
  go_wp2_with (first | ((with_reducible refine gate_dst (N := 1) rfl ?_); refine box_event ?hg (N := 1) ?hd (cs := #[.int .i64 a0_0, .int .i64 a0_1, .int .i64 a0_2, .slice A0_3 l0_3.length c0_3, .slice A0_4 l0_4.length c0_4]) (t := 25) ?hr ?_; (case hd => rfl); (case hg => rfl); (case hr => first | (go_simp; done) | (go_simp; rfl)); intro gb252 hg w6 hbox hb; have n0_ := Aside0.mk (below_step (by repeat (first | (with_reducible first | exact HB.out | apply below_alloc | apply pw_below_drewN | apply below_drew1) | exact HB.out)) hb); have n1_ := Aside0.mk (hbox); have n2_ := Aside0.mk ((by rw [hg]; exact (below_size (by repeat (first | (with_reducible first | exact HB.out | apply below_alloc | apply pw_below_drewN | apply below_drew1) | exact HB.out))) : w.heap.size ≤ gb252)); have n3_ := Aside0.mk ((by rw [hg]; exact (below_size (by repeat (first | (with_reducible first | exact HB.out | apply below_alloc | apply pw_below_drewN | apply below_drew1) | exact HB.out))) : w.heap.size ≤ gb252)); clear HB; have HB := n0_; have BK252 := n1_; have GW252 := n2_; have GE252 := n3_; clear n0_ n1_ n2_ n3_; clear hb hbox hg; have hcz7_0 : w6.cell? ⟨gb252, 0, none⟩ = some (.int .i64 a0_0) := (blk_cell BK252.out 0).trans rfl; have hcz7_1 : w6.cell? ⟨gb252, 1, none⟩ = some (.int .i64 a0_1) := (blk_cell BK252.out 1).trans rfl; have hcz7_2 : w6.cell? ⟨gb252, 2, none⟩ = some (.int .i64 a0_2) := (blk_cell BK252.out 2).trans rfl; have hcz7_3 : w6.cell? ⟨gb252, 3, none⟩ = some (.slice A0_3 l0_3.length c0_3) := (blk_cell BK252.out 3).trans rfl; have hcz7_4 : w6.cell? ⟨gb252, 4, none⟩ = some (.slice A0_4 l0_4.length c0_4) := (blk_cell BK252.out 4).trans rfl; have hfz7_0 := blk_frozen BK252.out 0; have hfz7_1 := blk_frozen BK252.out 1; have hfz7_2 := blk_frozen BK252.out 2; have hfz7_3 := blk_frozen BK252.out 3; have hfz7_4 := blk_frozen BK252.out 4) | ((with_reducible refine gate_callee (f := 33) rfl ?_); refine goesL_ (some 10) rfl rfl Try.func33 (by kernel_rfl) rfl #[.agg #[.int .i64 a0_0, .int .i64 a0_1, .int .i64 a0_2, .slice A0_3 l0_3.length c0_3, .slice A0_4 l0_4.length c0_4]] rfl (by (try simp only [List.map_toArray, List.map_cons, List.map_nil]); first | done | rfl | (simp only [List.length_drop, List.length_take]; rfl)) ?_; (with_reducible refine (capnpref10_Targets.calls k a0_0 a0_1 a0_2 _ _ l0_3 (fun k_ => k_ < w.heap.size) _ _ l0_4 t253 _ ?side1 ?side2 ?side3 A5.out).mono ?_); (case side1 => repeat (first | exact (Kd.C_below HR0_3.out HB.out) | (with_reducible refine Kd.C_alloc ?_ _) | (with_reducible refine Kd.C_drewN ?_ _) | (with_reducible refine Kd.C_drew ?_))); (case side2 => exact HC0_3.out); (case side3 => exact Kd.V_mk HC0_4.out (Kd.F_below (Kd.C_F k25_heap HR0_4.out) (by repeat (first | (with_reducible first | exact HB.out | apply below_alloc | apply pw_below_drewN | apply below_drew1 | refine below_set ?_ GE252.out) | exact HB.out)))); rintro e w8 ⟨v254, rfl, ho0, hb⟩; refine ⟨_, rfl, ?_⟩; have n0_ := Aside0.mk (Kd.V_lower (Kd.V_mono (ok' := fun k_ => k_ ≠ gb252) ho0 (fun k_ hk_ => Or.elim hk_ (fun hs_ => fun e_ => Nat.not_le.2 hs_ (by rw [e_]; exact GW252.out)) (fun hn_ => (Kd.freshB (g := gb252) (o := .cells #[.int .i64 a0_0, .int .i64 a0_1, .int .i64 a0_2, .slice A0_3 l0_3.length c0_3, .slice A0_4 l0_4.length c0_4] 25 (0, 0)) (by (with_reducible repeat (first | refine blk_drewN ?_ _ | refine blk_drew ?_ | refine blk_alloc ?_ _)); exact BK252.out) k_ hn_)))) (below_size (by repeat (first | (with_reducible first | exact HB.out | apply below_alloc | apply pw_below_drewN | apply below_drew1 | refine below_set ?_ GE252.out) | exact HB.out)))); have n1_ := Aside0.mk (blk_below (g := gb252) (o := .cells #[.int .i64 a0_0, .int .i64 a0_1, .int .i64 a0_2, .slice A0_3 l0_3.length c0_3, .slice A0_4 l0_4.length c0_4] 25 (0, 0)) (by (with_reducible repeat (first | refine blk_drewN ?_ _ | refine blk_drew ?_ | refine blk_alloc ?_ _)); exact BK252.out) hb); have n2_ := Aside0.mk (below_step (by repeat (first | (with_reducible first | exact HB.out | apply below_alloc | apply pw_below_drewN | apply below_drew1 | refine below_set ?_ GE252.out) | exact HB.out)) hb); clear BK252; clear HB; have HO255 := n0_; have BK252 := n1_; have HB := n2_; clear n0_ n1_ n2_; (try clear hb); (try clear hb2); (try clear hk); (try clear hi); (try clear ho0)))
  go_loopg [4, 5] k (fun kq v4 v5 w' => ∃ (x4_1 : Int) (x5_1 : Int), v4 = .int .i64 x4_1 ∧ v5 = .int .i64 x5_1 ∧ Aside0 (capnpref10_Objects.l0 kq t253 x4_1 x5_1 = some r) ∧ Aside0 (kq ≤ k) ∧ Aside0 (Kd.V k25 25 w' w.heap.size (fun k_ => k_ ≠ gb252) v254 t253) ∧ Aside0 (w'.heap[gb252]? = some (.cells #[.int .i64 a0_0, .int .i64 a0_1, .int .i64 a0_2, (.slice A0_3 l0_3.length c0_3), (.slice A0_4 l0_4.length c0_4)] 25 (0, 0))) ∧ Aside0 (Below w.heap.size w w'))
  case atStart => exact ⟨(1), (0), (by first | rfl | (simp; done) | (simp [*]; done)), (by first | rfl | (simp; done) | (simp [*]; done)), H', ⟨Nat.le_refl _⟩, ⟨by (with_reducible repeat (first | apply Kd.V_alloc | apply Kd.V_drewN | apply Kd.V_drew)); exact HO255.out⟩, ⟨by (with_reducible repeat (first | refine blk_drewN ?_ _ | refine blk_drew ?_ | refine blk_alloc ?_ _)); exact BK252.out⟩, ⟨by repeat (first | (with_reducible first | exact HB.out | apply below_alloc | apply pw_below_drewN | apply below_drew1 | refine below_set ?_ GE252.out) | exact HB.out)⟩⟩
  case round =>
   clear H'
   try clear c2
   try clear c2b0
   try clear c2b1
   try clear p2
   try clear c3
   try clear hcz4_0
   try clear hcz4_1
   try clear hcz4_2
   try clear hcz4_3
   try clear hcz4_4
   try clear hcz7_0
   try clear hcz7_1
   try clear hcz7_2
   try clear hcz7_3
   try clear hcz7_4
   try clear hfz4_0
   try clear hfz4_1
   try clear hfz4_2
   try clear hfz4_3
   try clear hfz4_4
   try clear hfz7_0
   try clear hfz7_1
   try clear hfz7_2
   try clear hfz7_3
   try clear hfz7_4
   try clear BK252
   obtain ⟨x4_1, x5_1, rfl, rfl, HA, HK1, HO_3, BK252, HB⟩ := hrel
   cases gk with
   | zero => exact absurd HA.out (by simp [capnpref10_Objects.l0])
   | succ k1 =>
    have H := HA.out
    clear HA
    simp only [capnpref10_Objects.l0] at H
    by_cases c9 : x5_1 < (t253.length : Int)
    ·rw [if_pos c9] at H
     have c9b0 : decide (x5_1 < (t253.length : Int)) = true := decide_eq_true c9
     clear c9
     by_cases c10 : 0 ≤ x5_1
     ·rw [if_pos c10] at H
      have c10b0 : decide (0 ≤ x5_1) = true := decide_eq_true c10
      clear c10
      replace H := Option.bind_eq_some_iff.mp H
      obtain ⟨t257, A110, H⟩ := H
      replace H : (capnpref10_Objects.l0 k1 t253 (wrap64 (x4_1 + t257)) (wrap64 (x5_1 + 1))) = some r := H
      have A11 := Aside0.mk A110
      clear A110
      have H' := Aside0.mk H
      clear H
      obtain ⟨Ao12, co12, eo12⟩ := Kd.V_slice HO_3.out
      subst eo12
      have p256 : 0 ≤ (x5_1 : Int) := of_decide_eq_true (by first | (with_reducible assumption) | assumption)
      have q256 : x5_1 < (t253.length : Int) := of_decide_eq_true (by first | (with_reducible assumption) | assumption)
      obtain ⟨ad256, A256_3, c256_3, A256_4, c256_4, e256, hx256_0, hx256_1, hx256_2, hx256_3, hx256_4, hl256_3, hi256_3, hl256_4, hi256_4⟩ := at_T25 (Kd.V_reads' HO_3.out).2.2 x5_1 p256 q256
      cases e256
      obtain ⟨ce256, hce256, hMe256, hcc256⟩ := Kd.V_get HO_3.out z25 x5_1 p256 (by first | exact q256 | exact of_decide_eq_true (by first | (with_reducible assumption) | assumption) | (have e_ := (Kd.V_reads' HO_3.out).1; omega))
      obtain ⟨ua256_3, uc256_3, ua256_4, uc256_4, rfl, ul256_3, ge256_3, ul256_4, ge256_4⟩ := k25_openF hMe256
      have hv256_3 := hcc256 3 _ rfl
      rw [add_field _ _ 3 (by omega)] at hv256_3
      replace hv256_3 := Option.some.inj (hv256_3.symm.trans hx256_3)
      injection hv256_3 with hva_ hvn_ hvc_
      rw [hva_] at ge256_3
      rw [hvc_] at ul256_3
      have HL256_3 := Aside0.mk (show Kd.V (Kd.int .u8) 5 _ w.heap.size _ _ ((rd_T25 t253 x5_1).f3) from Kd.V_mk ul256_3 ge256_3)
      clear hva_ hvn_ hvc_ ge256_3 ul256_3
      have hv256_4 := hcc256 4 _ rfl
      rw [add_field _ _ 4 (by omega)] at hv256_4
      replace hv256_4 := Option.some.inj (hv256_4.symm.trans hx256_4)
      injection hv256_4 with hva_ hvn_ hvc_
      rw [hva_] at ge256_4
      rw [hvc_] at ul256_4
      have HL256_4 := Aside0.mk (show Kd.V k25 25 _ w.heap.size _ _ ((rd_T25 t253 x5_1).f4) from Kd.V_mk ul256_4 ge256_4)
      clear hva_ hvn_ hvc_ ge256_4 ul256_4
      clear hcc256 hce256
      have HR256_3 := Aside0.mk hi256_3
      have HC256_3 := Aside0.mk hl256_3
      clear hi256_3 hl256_3
      have HR256_4 := Aside0.mk hi256_4
      have HC256_4 := Aside0.mk hl256_4
      clear hi256_4 hl256_4
      replace p256 := eq_true p256
      replace q256 := eq_true q256
      go_wp2_with (first | ((with_reducible refine gate_callee (f := 22) rfl ?_); refine goesL_ (some 22) rfl rfl Try.func22 (by kernel_rfl) rfl #[.agg #[.int .i64 ((rd_T25 t253 x5_1).f0), .int .i64 ((rd_T25 t253 x5_1).f1), .int .i64 ((rd_T25 t253 x5_1).f2), .slice A256_3 ((rd_T25 t253 x5_1).f3).length c256_3, .slice A256_4 ((rd_T25 t253 x5_1).f4).length c256_4]] rfl (by (try simp only [List.map_toArray, List.map_cons, List.map_nil]); first | done | rfl | (simp only [List.length_drop, List.length_take]; rfl)) ?_; (with_reducible refine (ih k1 (by have := HK1.out; omega) ((rd_T25 t253 x5_1).f0) ((rd_T25 t253 x5_1).f1) ((rd_T25 t253 x5_1).f2) _ _ ((rd_T25 t253 x5_1).f3) _ _ ((rd_T25 t253 x5_1).f4) t257 _ ?side1 ?side2 ?side3 ?side4 A11.out).mono ?_); (case side1 => repeat (first | exact (by repeat (first | (with_reducible exact HR256_3.out) | (with_reducible refine Kd.C_alloc ?_ _) | (with_reducible refine Kd.C_drewN ?_ _) | (with_reducible refine Kd.C_drew ?_) | exact HR256_3.out)) | (with_reducible refine Kd.C_alloc ?_ _) | (with_reducible refine Kd.C_drewN ?_ _) | (with_reducible refine Kd.C_drew ?_))); (case side2 => exact HC256_3.out); (case side3 => repeat (first | exact (by repeat (first | (with_reducible exact HR256_4.out) | (with_reducible refine Kd.C_alloc ?_ _) | (with_reducible refine Kd.C_drewN ?_ _) | (with_reducible refine Kd.C_drew ?_) | exact HR256_4.out)) | (with_reducible refine Kd.C_alloc ?_ _) | (with_reducible refine Kd.C_drewN ?_ _) | (with_reducible refine Kd.C_drew ?_))); (case side4 => exact HC256_4.out); rintro e w13 ⟨rfl, hb⟩; refine ⟨_, rfl, ?_⟩; have n0_ := Aside0.mk (Kd.V_below (by (with_reducible repeat (first | apply Kd.V_alloc | apply Kd.V_drewN | apply Kd.V_drew)); exact HO_3.out) hb); have n1_ := Aside0.mk (Kd.V_below (by (with_reducible repeat (first | apply Kd.V_alloc | apply Kd.V_drewN | apply Kd.V_drew)); exact HL256_3.out) hb); have n2_ := Aside0.mk (Kd.V_below (by (with_reducible repeat (first | apply Kd.V_alloc | apply Kd.V_drewN | apply Kd.V_drew)); exact HL256_4.out) hb); have n3_ := Aside0.mk (blk_below (g := gb252) (o := .cells #[.int .i64 a0_0, .int .i64 a0_1, .int .i64 a0_2, .slice A0_3 l0_3.length c0_3, .slice A0_4 l0_4.length c0_4] 25 (0, 0)) (by (with_reducible repeat (first | refine blk_drewN ?_ _ | refine blk_drew ?_ | refine blk_alloc ?_ _)); exact BK252.out) hb); have n4_ := Aside0.mk (Kd.C_below (by repeat (first | (with_reducible exact HR256_3.out) | (with_reducible refine Kd.C_alloc ?_ _) | (with_reducible refine Kd.C_drewN ?_ _) | (with_reducible refine Kd.C_drew ?_) | exact HR256_3.out)) hb); have n5_ := Aside0.mk (Kd.C_below (by repeat (first | (with_reducible exact HR256_4.out) | (with_reducible refine Kd.C_alloc ?_ _) | (with_reducible refine Kd.C_drewN ?_ _) | (with_reducible refine Kd.C_drew ?_) | exact HR256_4.out)) hb); have n6_ := Aside0.mk (below_step (by repeat (first | (with_reducible first | exact HB.out | apply below_alloc | apply pw_below_drewN | apply below_drew1 | refine below_set ?_ GE252.out) | exact HB.out)) hb); clear HO_3; clear HL256_3; clear HL256_4; clear BK252; clear HR256_3; clear HR256_4; clear HB; have HO_3 := n0_; have HL256_3 := n1_; have HL256_4 := n2_; have BK252 := n3_; have HR256_3 := n4_; have HR256_4 := n5_; have HB := n6_; clear n0_ n1_ n2_ n3_ n4_ n5_ n6_; (try clear hb); (try clear hb2); (try clear hk); (try clear hi)))
      go_roundg k1
      case measure => have := HK1.out; omega
      case rel => exact ⟨(wrap64 (x4_1 + t257)), (wrap64 (x5_1 + 1)), (by first | rfl | (simp; done) | (simp [*]; done)), (by first | rfl | (simp; done) | (simp [*]; done)), H', ⟨by have := HK1.out; omega⟩, ⟨by (with_reducible repeat (first | apply Kd.V_alloc | apply Kd.V_drewN | apply Kd.V_drew)); exact HO_3.out⟩, ⟨by (with_reducible repeat (first | refine blk_drewN ?_ _ | refine blk_drew ?_ | refine blk_alloc ?_ _)); exact BK252.out⟩, ⟨by repeat (first | (with_reducible first | exact HB.out | apply below_alloc | apply pw_below_drewN | apply below_drew1 | refine below_set ?_ GE252.out) | exact HB.out)⟩⟩
     ·rw [if_neg c10] at H
      exact absurd H (by simp)
    ·rw [if_neg c9] at H
     have c9b0 : decide (x5_1 < (t253.length : Int)) = false := decide_eq_false c9
     clear c9
     obtain rfl := Option.some.inj H
     obtain ⟨Ao14, co14, eo14⟩ := Kd.V_slice HO_3.out
     subst eo14
     go_wp2
     go_ret
     exact ⟨by first | rfl | (simp [errW_none, errW_some] <;> rfl) | (simp [*, errW_none, errW_some] <;> rfl), by repeat (first | (with_reducible first | exact HB.out | apply below_alloc | apply pw_below_drewN | apply below_drew1 | refine below_set ?_ GE252.out) | exact HB.out)⟩
end Go.Proofs.Ytmbockhcmhghlaa.Pr
end
section
namespace Go.Proofs.Ytmbockhcmhghlaa.Pr
open Go.RowKit Go.Proofs.YtmbockhcmhghlaaW.PrintWords Go.Proofs.YtmbockhcmhghlaaW.PrintLast Go.Proofs.YtmbockhcmhghlaaW.PrintMore
attribute [local go_sem] max2_int min2_int max_two min_two max_three min_three max_four min_four
set_option linter.unusedVariables false
set_option linter.unusedSimpArgs false
def capnplaw11_TrimIsCanonical.j0 : Nat → Bool → Int → Int → Int → List Int → List (S25) → Option (Bool)
 | 0, _, _, _, _, _, _ => none
 | k + 1, x15, x259000, x259001, x259002, x259003, x259004 => if x15 = true then ((capnplaw11_awake.f).bind fun t262 => (some t262)) else ((trim_Trim.f k x259000 x259001 x259002 x259003 x259004).bind fun bt263 => ((trim_Trim.f k bt263.1 bt263.2.1 bt263.2.2.1 bt263.2.2.2.1 bt263.2.2.2.2).bind fun bt273 => ((capnpref10_Equal.f k bt273.1 bt273.2.1 bt273.2.2.1 bt273.2.2.2.1 bt273.2.2.2.2 bt263.1 bt263.2.1 bt263.2.2.1 bt263.2.2.2.1 bt263.2.2.2.2).bind fun t282 => (if t282 = true then ((capnpref10_Valid.f k bt263.1 bt263.2.1 bt263.2.2.1 bt263.2.2.2.1 bt263.2.2.2.2).bind fun t283 => (if t283 = true then ((capnpref11_Trimmed.f k bt263.1 bt263.2.1 bt263.2.2.1 bt263.2.2.2.1 bt263.2.2.2.2).bind fun t284 => (if t284 = true then ((capnpref10_Depth.f k bt263.1 bt263.2.1 bt263.2.2.1 bt263.2.2.2.1 bt263.2.2.2.2).bind fun t285 => ((capnpref10_Depth.f k x259000 x259001 x259002 x259003 x259004).bind fun t286 => (if t285 = t286 then ((capnpref10_Objects.f k bt263.1 bt263.2.1 bt263.2.2.1 bt263.2.2.2.1 bt263.2.2.2.2).bind fun t287 => ((capnpref10_Objects.f k x259000 x259001 x259002 x259003 x259004).bind fun t288 => (if t287 = t288 then ((capnpref11_Trimmed.f k x259000 x259001 x259002 x259003 x259004).bind fun t289 => (if t289 = true then ((capnpref10_Equal.f k bt263.1 bt263.2.1 bt263.2.2.1 bt263.2.2.2.1 bt263.2.2.2.2 x259000 x259001 x259002 x259003 x259004).bind fun t290 => (some t290)) else (some true))) else (none)))) else (none)))) else (none))) else (none))) else (none)))))
def capnplaw11_TrimIsCanonical.f (k : Nat) (a0_0 : Int) (a0_1 : Int) (a0_2 : Int) (l0_3 : List Int) (l0_4 : List (S25)) : Option (Bool) := (capnplaw11_awake.f).bind fun t259 => (if t259 = true then ((capnpref10_Few.f k a0_0 a0_1 a0_2 l0_3 l0_4).bind fun t260 => (if t260 = true then ((capnpref10_Valid.f k a0_0 a0_1 a0_2 l0_3 l0_4).bind fun t261 => (capnplaw11_TrimIsCanonical.j0 k (!t261) a0_0 a0_1 a0_2 l0_3 l0_4)) else (capnplaw11_TrimIsCanonical.j0 k true a0_0 a0_1 a0_2 l0_3 l0_4))) else (capnplaw11_TrimIsCanonical.j0 k true a0_0 a0_1 a0_2 l0_3 l0_4))
def capnplaw11_TrimIsCanonical.T4 : Bool × List (List Nat × List Nat) := (true, [([], []), ([0], [0]), ([], []), ([1, 2, 1], [1, 2]), ([3, 3], [3]), ([4], [4]), ([5, 4, 4], [4, 5]), ([4, 6], [4, 6]), ([7, 6], [7]), ([8], [8]), ([9, 8, 8], [8, 9]), ([8, 10], [8, 10]), ([11, 10], [11]), ([12], [12]), ([13, 12, 12], [12, 13]), ([12], [12]), ([15, 14, 12], [12, 15]), ([14, 16, 12], [12, 14, 16]), ([12, 17], [12, 17]), ([18, 16], [18]), ([19], [19]), ([20, 19, 19], [19, 20]), ([19], [19]), ([22, 21, 19], [19, 22]), ([21, 23, 19], [19, 21, 23]), ([19, 24], [19, 24]), ([25, 23], [25]), ([26], [26]), ([27, 26, 26], [26, 27]), ([28, 26], [26, 28]), ([29, 28, 26], [26, 29]), ([30], [30]), ([30], [30]), ([31, 32, 30, 30], [30, 31, 32]), ([30, 33, 26], [26, 30, 33]), ([26, 34], [26, 34]), ([35, 33, 0, 1, 2, 3, 4, 5, 6, 7, 8, 9, 10, 11, 12, 13, 14, 15, 16, 17, 18, 19, 20, 21, 22, 23, 24, 25, 26, 27, 28, 29, 30, 31, 32, 33, 34, 35], [35])])
def capnplaw11_TrimIsCanonical.B4 : List Nat := [0, 1, 0, 7, 15, 31, 63, 127, 255, 511, 1023, 2047, 4095, 8191, 16383, 8191, 65535, 131071, 262143, 524287, 1048575, 2097151, 1048575, 8388607, 16777215, 33554431, 67108863, 134217727, 268435455, 536870911, 1073741823, 2147483647, 2147483647, 8589934591, 17179869183, 34359738367, 68719476735]
theorem capnplaw11_TrimIsCanonical.tab4 : rtab .any (opsOf Try.f4 4) = capnplaw11_TrimIsCanonical.T4 := by kernel_rfl
theorem capnplaw11_TrimIsCanonical.bits4 : waitsOk capnplaw11_TrimIsCanonical.T4.2 capnplaw11_TrimIsCanonical.B4 = true := by kernel_rfl
set_option maxHeartbeats 8000000 in
set_option maxRecDepth 100000 in
theorem capnplaw11_TrimIsCanonical.calls (k : Nat) (a0_0 : Int) (a0_1 : Int) (a0_2 : Int) (A0_3 : Option Addr) (c0_3 : Nat) (l0_3 : List Int) (A0_4 : Option Addr) (c0_4 : Nat) (l0_4 : List (S25)) (r : Bool) (w : World) (hr0_3 : Kd.C (Kd.int .u8) w A0_3 l0_3.length l0_3) (hc0_3 : l0_3.length ≤ c0_3) (hr0_4 : Kd.C k25 w A0_4 l0_4.length l0_4) (hc0_4 : l0_4.length ≤ c0_4) (h : capnplaw11_TrimIsCanonical.f k a0_0 a0_1 a0_2 l0_3 l0_4 = some r) :
  Calls Try.prog 4 #[.agg #[.int .i64 a0_0, .int .i64 a0_1, .int .i64 a0_2, .slice A0_3 l0_3.length c0_3, .slice A0_4 l0_4.length c0_4]] w fun e w' => e = .returned (.bool r) ∧ Below w.heap.size w w' := by
 have hu25 := Try.underlying25
 have HR0_3 := Aside0.mk hr0_3
 have HC0_3 := Aside0.mk hc0_3
 clear hr0_3 hc0_3
 have HR0_4 := Aside0.mk hr0_4
 have HC0_4 := Aside0.mk hc0_4
 clear hr0_4 hc0_4
 have HB := Aside0.mk (Below.refl w.heap.size w)
 have H : ((capnplaw11_awake.f).bind fun t259 => (if t259 = true then ((capnpref10_Few.f k a0_0 a0_1 a0_2 l0_3 l0_4).bind fun t260 => (if t260 = true then ((capnpref10_Valid.f k a0_0 a0_1 a0_2 l0_3 l0_4).bind fun t261 => (capnplaw11_TrimIsCanonical.j0 k (!t261) a0_0 a0_1 a0_2 l0_3 l0_4)) else (capnplaw11_TrimIsCanonical.j0 k true a0_0 a0_1 a0_2 l0_3 l0_4))) else (capnplaw11_TrimIsCanonical.j0 k true a0_0 a0_1 a0_2 l0_3 l0_4))) = some r := h
 clear h
 have HC2 := Aside0.mk H
 clear H
 go_enter Try.func4, Try.ntmps4
 go_upto_region 1 with (first | ((with_reducible refine gate_dst (N := 1) rfl ?_); refine box_event ?hg (N := 1) ?hd (cs := #[.int .i64 a0_0, .int .i64 a0_1, .int .i64 a0_2, .slice A0_3 l0_3.length c0_3, .slice A0_4 l0_4.length c0_4]) (t := 25) ?hr ?_; (case hd => rfl); (case hg => rfl); (case hr => first | (go_simp; done) | (go_simp; rfl)); intro gb258 hg w3 hbox hb; have n0_ := Aside0.mk (below_step (by repeat (first | (with_reducible first | exact HB.out | apply below_alloc | apply pw_below_drewN | apply below_drew1) | exact HB.out)) hb); have n1_ := Aside0.mk (hbox); have n2_ := Aside0.mk ((by rw [hg]; exact (below_size (by repeat (first | (with_reducible first | exact HB.out | apply below_alloc | apply pw_below_drewN | apply below_drew1) | exact HB.out))) : w.heap.size ≤ gb258)); have n3_ := Aside0.mk ((by rw [hg]; exact (below_size (by repeat (first | (with_reducible first | exact HB.out | apply below_alloc | apply pw_below_drewN | apply below_drew1) | exact HB.out))) : w.heap.size ≤ gb258)); clear HB; have HB := n0_; have BK258 := n1_; have GW258 := n2_; have GE258 := n3_; clear n0_ n1_ n2_ n3_; clear hb hbox hg))
 (try simp only [Act.put, List.setIfInBounds_toArray, List.set_cons_zero, List.set_cons_succ])
 go_cut [15] (fun v15 wc => ∃ (kq : Nat) (x15_1 : Bool), v15 = .bool x15_1 ∧ Aside0 (capnplaw11_TrimIsCanonical.j0 kq x15_1 a0_0 a0_1 a0_2 l0_3 l0_4 = some r) ∧ Aside0 (kq ≤ k) ∧ Aside0 (wc.heap[gb258]? = some (.cells #[.int .i64 a0_0, .int .i64 a0_1, .int .i64 a0_2, (.slice A0_3 l0_3.length c0_3), (.slice A0_4 l0_4.length c0_4)] 25 (0, 0))) ∧ Aside0 (Below w.heap.size w wc))
 case first =>
  have H := HC2.out
  clear HC2
  replace H := Option.bind_eq_some_iff.mp H
  obtain ⟨t259, A40, H⟩ := H
  replace H : (if t259 = true then ((capnpref10_Few.f k a0_0 a0_1 a0_2 l0_3 l0_4).bind fun t260 => (if t260 = true then ((capnpref10_Valid.f k a0_0 a0_1 a0_2 l0_3 l0_4).bind fun t261 => (capnplaw11_TrimIsCanonical.j0 k (!t261) a0_0 a0_1 a0_2 l0_3 l0_4)) else (capnplaw11_TrimIsCanonical.j0 k true a0_0 a0_1 a0_2 l0_3 l0_4))) else (capnplaw11_TrimIsCanonical.j0 k true a0_0 a0_1 a0_2 l0_3 l0_4)) = some r := H
  have A4 := Aside0.mk A40
  clear A40
  by_cases c5 : t259 = true
  ·subst c5
   have H1 : ((capnpref10_Few.f k a0_0 a0_1 a0_2 l0_3 l0_4).bind fun t260 => (if t260 = true then ((capnpref10_Valid.f k a0_0 a0_1 a0_2 l0_3 l0_4).bind fun t261 => (capnplaw11_TrimIsCanonical.j0 k (!t261) a0_0 a0_1 a0_2 l0_3 l0_4)) else (capnplaw11_TrimIsCanonical.j0 k true a0_0 a0_1 a0_2 l0_3 l0_4))) = some r := by rw [if_pos rfl] at H; exact H
   clear H
   have H := H1
   clear H1
   replace H := Option.bind_eq_some_iff.mp H
   obtain ⟨t260, A60, H⟩ := H
   replace H : (if t260 = true then ((capnpref10_Valid.f k a0_0 a0_1 a0_2 l0_3 l0_4).bind fun t261 => (capnplaw11_TrimIsCanonical.j0 k (!t261) a0_0 a0_1 a0_2 l0_3 l0_4)) else (capnplaw11_TrimIsCanonical.j0 k true a0_0 a0_1 a0_2 l0_3 l0_4)) = some r := H
   have A6 := Aside0.mk A60
   clear A60
   by_cases c7 : t260 = true
   ·subst c7
    have H1 : ((capnpref10_Valid.f k a0_0 a0_1 a0_2 l0_3 l0_4).bind fun t261 => (capnplaw11_TrimIsCanonical.j0 k (!t261) a0_0 a0_1 a0_2 l0_3 l0_4)) = some r := by rw [if_pos rfl] at H; exact H
    clear H
    have H := H1
    clear H1
    replace H := Option.bind_eq_some_iff.mp H
    obtain ⟨t261, A80, H⟩ := H
    replace H : (capnplaw11_TrimIsCanonical.j0 k (!t261) a0_0 a0_1 a0_2 l0_3 l0_4) = some r := H
    have A8 := Aside0.mk A80
    clear A80
    have H' := Aside0.mk H
    clear H
    go_wp2_with (first | ((with_reducible refine gate_callee (f := 8) rfl ?_); refine goesL_ (some 4) rfl rfl Try.func8 (by kernel_rfl) rfl #[] rfl (by (try simp only [List.map_toArray, List.map_cons, List.map_nil]); first | done | rfl | (simp only [List.length_drop, List.length_take]; rfl)) ?_; (with_reducible refine (capnplaw11_awake.calls  true _ A4.out).mono ?_); rintro e w9 ⟨rfl, hb⟩; refine ⟨_, rfl, ?_⟩; have n0_ := Aside0.mk (blk_below (g := gb258) (o := .cells #[.int .i64 a0_0, .int .i64 a0_1, .int .i64 a0_2, .slice A0_3 l0_3.length c0_3, .slice A0_4 l0_4.length c0_4] 25 (0, 0)) (by (with_reducible repeat (first | refine blk_drewN ?_ _ | refine blk_drew ?_ | refine blk_alloc ?_ _)); exact BK258.out) hb); have n1_ := Aside0.mk (below_step (by repeat (first | (with_reducible first | exact HB.out | apply below_alloc | apply pw_below_drewN | apply below_drew1 | refine below_set ?_ GE258.out) | exact HB.out)) hb); clear BK258; clear HB; have BK258 := n0_; have HB := n1_; clear n0_ n1_; (try clear hb); (try clear hb2); (try clear hk); (try clear hi); have hcz10_0 : w9.cell? ⟨gb258, 0, none⟩ = some (.int .i64 a0_0) := (blk_cell BK258.out 0).trans rfl; have hcz10_1 : w9.cell? ⟨gb258, 1, none⟩ = some (.int .i64 a0_1) := (blk_cell BK258.out 1).trans rfl; have hcz10_2 : w9.cell? ⟨gb258, 2, none⟩ = some (.int .i64 a0_2) := (blk_cell BK258.out 2).trans rfl; have hcz10_3 : w9.cell? ⟨gb258, 3, none⟩ = some (.slice A0_3 l0_3.length c0_3) := (blk_cell BK258.out 3).trans rfl; have hcz10_4 : w9.cell? ⟨gb258, 4, none⟩ = some (.slice A0_4 l0_4.length c0_4) := (blk_cell BK258.out 4).trans rfl; have hfz10_0 := blk_frozen BK258.out 0; have hfz10_1 := blk_frozen BK258.out 1; have hfz10_2 := blk_frozen BK258.out 2; have hfz10_3 := blk_frozen BK258.out 3; have hfz10_4 := blk_frozen BK258.out 4) | (go_at_call 9; (with_reducible refine (capnpref10_Few.calls k a0_0 a0_1 a0_2 _ _ l0_3 _ _ l0_4 true _ ?side1 ?side2 ?side3 ?side4 A6.out).mono ?_); (case side1 => repeat (first | exact (Kd.C_below HR0_3.out HB.out) | (with_reducible refine Kd.C_alloc ?_ _) | (with_reducible refine Kd.C_drewN ?_ _) | (with_reducible refine Kd.C_drew ?_))); (case side2 => exact HC0_3.out); (case side3 => repeat (first | exact (Kd.C_below HR0_4.out HB.out) | (with_reducible refine Kd.C_alloc ?_ _) | (with_reducible refine Kd.C_drewN ?_ _) | (with_reducible refine Kd.C_drew ?_))); (case side4 => exact HC0_4.out); rintro e w11 ⟨rfl, hb⟩; have n0_ := Aside0.mk (blk_below (g := gb258) (o := .cells #[.int .i64 a0_0, .int .i64 a0_1, .int .i64 a0_2, .slice A0_3 l0_3.length c0_3, .slice A0_4 l0_4.length c0_4] 25 (0, 0)) (by (with_reducible repeat (first | refine blk_drewN ?_ _ | refine blk_drew ?_ | refine blk_alloc ?_ _)); exact BK258.out) hb); have n1_ := Aside0.mk (below_step (by repeat (first | (with_reducible first | exact HB.out | apply below_alloc | apply pw_below_drewN | apply below_drew1 | refine below_set ?_ GE258.out) | exact HB.out)) hb); clear BK258; clear HB; have BK258 := n0_; have HB := n1_; clear n0_ n1_; (try clear hb); (try clear hb2); (try clear hk); (try clear hi); have hcz12_0 : w11.cell? ⟨gb258, 0, none⟩ = some (.int .i64 a0_0) := (blk_cell BK258.out 0).trans rfl; have hcz12_1 : w11.cell? ⟨gb258, 1, none⟩ = some (.int .i64 a0_1) := (blk_cell BK258.out 1).trans rfl; have hcz12_2 : w11.cell? ⟨gb258, 2, none⟩ = some (.int .i64 a0_2) := (blk_cell BK258.out 2).trans rfl; have hcz12_3 : w11.cell? ⟨gb258, 3, none⟩ = some (.slice A0_3 l0_3.length c0_3) := (blk_cell BK258.out 3).trans rfl; have hcz12_4 : w11.cell? ⟨gb258, 4, none⟩ = some (.slice A0_4 l0_4.length c0_4) := (blk_cell BK258.out 4).trans rfl; have hfz12_0 := blk_frozen BK258.out 0; have hfz12_1 := blk_frozen BK258.out 1; have hfz12_2 := blk_frozen BK258.out 2; have hfz12_3 := blk_frozen BK258.out 3; have hfz12_4 := blk_frozen BK258.out 4) | (go_at_call 10; (with_reducible refine (capnpref10_Valid.calls k a0_0 a0_1 a0_2 _ _ l0_3 _ _ l0_4 t261 _ ?side1 ?side2 ?side3 ?side4 A8.out).mono ?_); (case side1 => repeat (first | exact (Kd.C_below HR0_3.out HB.out) | (with_reducible refine Kd.C_alloc ?_ _) | (with_reducible refine Kd.C_drewN ?_ _) | (with_reducible refine Kd.C_drew ?_))); (case side2 => exact HC0_3.out); (case side3 => repeat (first | exact (Kd.C_below HR0_4.out HB.out) | (with_reducible refine Kd.C_alloc ?_ _) | (with_reducible refine Kd.C_drewN ?_ _) | (with_reducible refine Kd.C_drew ?_))); (case side4 => exact HC0_4.out); rintro e w13 ⟨rfl, hb⟩; have n0_ := Aside0.mk (blk_below (g := gb258) (o := .cells #[.int .i64 a0_0, .int .i64 a0_1, .int .i64 a0_2, .slice A0_3 l0_3.length c0_3, .slice A0_4 l0_4.length c0_4] 25 (0, 0)) (by (with_reducible repeat (first | refine blk_drewN ?_ _ | refine blk_drew ?_ | refine blk_alloc ?_ _)); exact BK258.out) hb); have n1_ := Aside0.mk (below_step (by repeat (first | (with_reducible first | exact HB.out | apply below_alloc | apply pw_below_drewN | apply below_drew1 | refine below_set ?_ GE258.out) | exact HB.out)) hb); clear BK258; clear HB; have BK258 := n0_; have HB := n1_; clear n0_ n1_; (try clear hb); (try clear hb2); (try clear hk); (try clear hi)))
    go_meet
    case rel => exact ⟨_, (!t261), (by first | rfl | (simp; done) | (simp [*]; done)), H', ⟨by first | omega | exact Nat.le_refl _⟩, ⟨by (with_reducible repeat (first | refine blk_drewN ?_ _ | refine blk_drew ?_ | refine blk_alloc ?_ _)); exact BK258.out⟩, ⟨by repeat (first | (with_reducible first | exact HB.out | apply below_alloc | apply pw_below_drewN | apply below_drew1 | refine below_set ?_ GE258.out) | exact HB.out)⟩⟩
   ·replace c7 := Bool.eq_false_iff.mpr c7
    subst c7
    have H1 : (capnplaw11_TrimIsCanonical.j0 k true a0_0 a0_1 a0_2 l0_3 l0_4) = some r := by rw [if_neg (show ¬ (false = true) by decide)] at H; exact H
    clear H
    have H := H1
    clear H1
    have H' := Aside0.mk H
    clear H
    go_wp2_with (first | ((with_reducible refine gate_callee (f := 8) rfl ?_); refine goesL_ (some 4) rfl rfl Try.func8 (by kernel_rfl) rfl #[] rfl (by (try simp only [List.map_toArray, List.map_cons, List.map_nil]); first | done | rfl | (simp only [List.length_drop, List.length_take]; rfl)) ?_; (with_reducible refine (capnplaw11_awake.calls  true _ A4.out).mono ?_); rintro e w14 ⟨rfl, hb⟩; refine ⟨_, rfl, ?_⟩; have n0_ := Aside0.mk (blk_below (g := gb258) (o := .cells #[.int .i64 a0_0, .int .i64 a0_1, .int .i64 a0_2, .slice A0_3 l0_3.length c0_3, .slice A0_4 l0_4.length c0_4] 25 (0, 0)) (by (with_reducible repeat (first | refine blk_drewN ?_ _ | refine blk_drew ?_ | refine blk_alloc ?_ _)); exact BK258.out) hb); have n1_ := Aside0.mk (below_step (by repeat (first | (with_reducible first | exact HB.out | apply below_alloc | apply pw_below_drewN | apply below_drew1 | refine below_set ?_ GE258.out) | exact HB.out)) hb); clear BK258; clear HB; have BK258 := n0_; have HB := n1_; clear n0_ n1_; (try clear hb); (try clear hb2); (try clear hk); (try clear hi); have hcz15_0 : w14.cell? ⟨gb258, 0, none⟩ = some (.int .i64 a0_0) := (blk_cell BK258.out 0).trans rfl; have hcz15_1 : w14.cell? ⟨gb258, 1, none⟩ = some (.int .i64 a0_1) := (blk_cell BK258.out 1).trans rfl; have hcz15_2 : w14.cell? ⟨gb258, 2, none⟩ = some (.int .i64 a0_2) := (blk_cell BK258.out 2).trans rfl; have hcz15_3 : w14.cell? ⟨gb258, 3, none⟩ = some (.slice A0_3 l0_3.length c0_3) := (blk_cell BK258.out 3).trans rfl; have hcz15_4 : w14.cell? ⟨gb258, 4, none⟩ = some (.slice A0_4 l0_4.length c0_4) := (blk_cell BK258.out 4).trans rfl; have hfz15_0 := blk_frozen BK258.out 0; have hfz15_1 := blk_frozen BK258.out 1; have hfz15_2 := blk_frozen BK258.out 2; have hfz15_3 := blk_frozen BK258.out 3; have hfz15_4 := blk_frozen BK258.out 4) | (go_at_call 9; (with_reducible refine (capnpref10_Few.calls k a0_0 a0_1 a0_2 _ _ l0_3 _ _ l0_4 false _ ?side1 ?side2 ?side3 ?side4 A6.out).mono ?_); (case side1 => repeat (first | exact (Kd.C_below HR0_3.out HB.out) | (with_reducible refine Kd.C_alloc ?_ _) | (with_reducible refine Kd.C_drewN ?_ _) | (with_reducible refine Kd.C_drew ?_))); (case side2 => exact HC0_3.out); (case side3 => repeat (first | exact (Kd.C_below HR0_4.out HB.out) | (with_reducible refine Kd.C_alloc ?_ _) | (with_reducible refine Kd.C_drewN ?_ _) | (with_reducible refine Kd.C_drew ?_))); (case side4 => exact HC0_4.out); rintro e w16 ⟨rfl, hb⟩; have n0_ := Aside0.mk (blk_below (g := gb258) (o := .cells #[.int .i64 a0_0, .int .i64 a0_1, .int .i64 a0_2, .slice A0_3 l0_3.length c0_3, .slice A0_4 l0_4.length c0_4] 25 (0, 0)) (by (with_reducible repeat (first | refine blk_drewN ?_ _ | refine blk_drew ?_ | refine blk_alloc ?_ _)); exact BK258.out) hb); have n1_ := Aside0.mk (below_step (by repeat (first | (with_reducible first | exact HB.out | apply below_alloc | apply pw_below_drewN | apply below_drew1 | refine below_set ?_ GE258.out) | exact HB.out)) hb); clear BK258; clear HB; have BK258 := n0_; have HB := n1_; clear n0_ n1_; (try clear hb); (try clear hb2); (try clear hk); (try clear hi)))
    go_meet
    case rel => exact ⟨_, (true), (by first | rfl | (simp; done) | (simp [*]; done)), H', ⟨by first | omega | exact Nat.le_refl _⟩, ⟨by (with_reducible repeat (first | refine blk_drewN ?_ _ | refine blk_drew ?_ | refine blk_alloc ?_ _)); exact BK258.out⟩, ⟨by repeat (first | (with_reducible first | exact HB.out | apply below_alloc | apply pw_below_drewN | apply below_drew1 | refine below_set ?_ GE258.out) | exact HB.out)⟩⟩
  ·replace c5 := Bool.eq_false_iff.mpr c5
   subst c5
   have H1 : (capnplaw11_TrimIsCanonical.j0 k true a0_0 a0_1 a0_2 l0_3 l0_4) = some r := by rw [if_neg (show ¬ (false = true) by decide)] at H; exact H
   clear H
   have H := H1
   clear H1
   have H' := Aside0.mk H
   clear H
   go_wp2_with (first | ((with_reducible refine gate_callee (f := 8) rfl ?_); refine goesL_ (some 4) rfl rfl Try.func8 (by kernel_rfl) rfl #[] rfl (by (try simp only [List.map_toArray, List.map_cons, List.map_nil]); first | done | rfl | (simp only [List.length_drop, List.length_take]; rfl)) ?_; (with_reducible refine (capnplaw11_awake.calls  false _ A4.out).mono ?_); rintro e w17 ⟨rfl, hb⟩; refine ⟨_, rfl, ?_⟩; have n0_ := Aside0.mk (blk_below (g := gb258) (o := .cells #[.int .i64 a0_0, .int .i64 a0_1, .int .i64 a0_2, .slice A0_3 l0_3.length c0_3, .slice A0_4 l0_4.length c0_4] 25 (0, 0)) (by (with_reducible repeat (first | refine blk_drewN ?_ _ | refine blk_drew ?_ | refine blk_alloc ?_ _)); exact BK258.out) hb); have n1_ := Aside0.mk (below_step (by repeat (first | (with_reducible first | exact HB.out | apply below_alloc | apply pw_below_drewN | apply below_drew1 | refine below_set ?_ GE258.out) | exact HB.out)) hb); clear BK258; clear HB; have BK258 := n0_; have HB := n1_; clear n0_ n1_; (try clear hb); (try clear hb2); (try clear hk); (try clear hi)))
   go_meet
   case rel => exact ⟨_, (true), (by first | rfl | (simp; done) | (simp [*]; done)), H', ⟨by first | omega | exact Nat.le_refl _⟩, ⟨by (with_reducible repeat (first | refine blk_drewN ?_ _ | refine blk_drew ?_ | refine blk_alloc ?_ _)); exact BK258.out⟩, ⟨by repeat (first | (with_reducible first | exact HB.out | apply below_alloc | apply pw_below_drewN | apply below_drew1 | refine below_set ?_ GE258.out) | exact HB.out)⟩⟩
 case rest =>
  clear HC2
  try clear p2
  try clear c4
  try clear c5
  try clear c7
  try clear c8
  try clear hcz10_0
  try clear hcz10_1
  try clear hcz10_2
  try clear hcz10_3
  try clear hcz10_4
  try clear hcz12_0
  try clear hcz12_1
  try clear hcz12_2
  try clear hcz12_3
  try clear hcz12_4
  try clear hcz15_0
  try clear hcz15_1
  try clear hcz15_2
  try clear hcz15_3
  try clear hcz15_4
  try clear hfz10_0
  try clear hfz10_1
  try clear hfz10_2
  try clear hfz10_3
  try clear hfz10_4
  try clear hfz12_0
  try clear hfz12_1
  try clear hfz12_2
  try clear hfz12_3
  try clear hfz12_4
  try clear hfz15_0
  try clear hfz15_1
  try clear hfz15_2
  try clear hfz15_3
  try clear hfz15_4
  obtain ⟨kq, x15_1, rfl, HA, HJ1, BK258, HB⟩ := hcut
  cases kq with
  | zero => exact absurd HA.out (by simp [capnplaw11_TrimIsCanonical.j0])
  | succ kj1 =>
   have H := HA.out
   clear HA
   simp only [capnplaw11_TrimIsCanonical.j0] at H
   by_cases c18 : x15_1 = true
   ·subst c18
    have H1 : ((capnplaw11_awake.f).bind fun t262 => (some t262)) = some r := by rw [if_pos rfl] at H; exact H
    clear H
    have H := H1
    clear H1
    replace H := Option.bind_eq_some_iff.mp H
    obtain ⟨t262, A190, H⟩ := H
    replace H : (some t262) = some r := H
    have A19 := Aside0.mk A190
    clear A190
    obtain rfl := Option.some.inj H
    go_wp2_with (first | ((with_reducible refine gate_callee (f := 8) rfl ?_); refine goesL_ (some 16) rfl rfl Try.func8 (by kernel_rfl) rfl #[] rfl (by (try simp only [List.map_toArray, List.map_cons, List.map_nil]); first | done | rfl | (simp only [List.length_drop, List.length_take]; rfl)) ?_; (with_reducible refine (capnplaw11_awake.calls  t262 _ A19.out).mono ?_); rintro e w20 ⟨rfl, hb⟩; refine ⟨_, rfl, ?_⟩; have n0_ := Aside0.mk (blk_below (g := gb258) (o := .cells #[.int .i64 a0_0, .int .i64 a0_1, .int .i64 a0_2, .slice A0_3 l0_3.length c0_3, .slice A0_4 l0_4.length c0_4] 25 (0, 0)) (by (with_reducible repeat (first | refine blk_drewN ?_ _ | refine blk_drew ?_ | refine blk_alloc ?_ _)); exact BK258.out) hb); have n1_ := Aside0.mk (below_step (by repeat (first | (with_reducible first | exact HB.out | apply below_alloc | apply pw_below_drewN | apply below_drew1 | refine below_set ?_ GE258.out) | exact HB.out)) hb); clear BK258; clear HB; have BK258 := n0_; have HB := n1_; clear n0_ n1_; (try clear hb); (try clear hb2); (try clear hk); (try clear hi)))
    go_ret
    exact ⟨by first | rfl | (simp [errW_none, errW_some] <;> rfl) | (simp [*, errW_none, errW_some] <;> rfl), by repeat (first | (with_reducible first | exact HB.out | apply below_alloc | apply pw_below_drewN | apply below_drew1 | refine below_set ?_ GE258.out) | exact HB.out)⟩
   ·replace c18 := Bool.eq_false_iff.mpr c18
    subst c18
    have H1 : ((trim_Trim.f kj1 a0_0 a0_1 a0_2 l0_3 l0_4).bind fun bt263 => ((trim_Trim.f kj1 bt263.1 bt263.2.1 bt263.2.2.1 bt263.2.2.2.1 bt263.2.2.2.2).bind fun bt273 => ((capnpref10_Equal.f kj1 bt273.1 bt273.2.1 bt273.2.2.1 bt273.2.2.2.1 bt273.2.2.2.2 bt263.1 bt263.2.1 bt263.2.2.1 bt263.2.2.2.1 bt263.2.2.2.2).bind fun t282 => (if t282 = true then ((capnpref10_Valid.f kj1 bt263.1 bt263.2.1 bt263.2.2.1 bt263.2.2.2.1 bt263.2.2.2.2).bind fun t283 => (if t283 = true then ((capnpref11_Trimmed.f kj1 bt263.1 bt263.2.1 bt263.2.2.1 bt263.2.2.2.1 bt263.2.2.2.2).bind fun t284 => (if t284 = true then ((capnpref10_Depth.f kj1 bt263.1 bt263.2.1 bt263.2.2.1 bt263.2.2.2.1 bt263.2.2.2.2).bind fun t285 => ((capnpref10_Depth.f kj1 a0_0 a0_1 a0_2 l0_3 l0_4).bind fun t286 => (if t285 = t286 then ((capnpref10_Objects.f kj1 bt263.1 bt263.2.1 bt263.2.2.1 bt263.2.2.2.1 bt263.2.2.2.2).bind fun t287 => ((capnpref10_Objects.f kj1 a0_0 a0_1 a0_2 l0_3 l0_4).bind fun t288 => (if t287 = t288 then ((capnpref11_Trimmed.f kj1 a0_0 a0_1 a0_2 l0_3 l0_4).bind fun t289 => (if t289 = true then ((capnpref10_Equal.f kj1 bt263.1 bt263.2.1 bt263.2.2.1 bt263.2.2.2.1 bt263.2.2.2.2 a0_0 a0_1 a0_2 l0_3 l0_4).bind fun t290 => (some t290)) else (some true))) else (none)))) else (none)))) else (none))) else (none))) else (none))))) = some r := by rw [if_neg (show ¬ (false = true) by decide)] at H; exact H
    clear H
    have H := H1
    clear H1
    replace H := Option.bind_eq_some_iff.mp H
    obtain ⟨⟨t263, t264, t265, t266, t269⟩, A210, H⟩ := H
    replace H : ((trim_Trim.f kj1 t263 t264 t265 t266 t269).bind fun bt273 => ((capnpref10_Equal.f kj1 bt273.1 bt273.2.1 bt273.2.2.1 bt273.2.2.2.1 bt273.2.2.2.2 t263 t264 t265 t266 t269).bind fun t282 => (if t282 = true then ((capnpref10_Valid.f kj1 t263 t264 t265 t266 t269).bind fun t283 => (if t283 = true then ((capnpref11_Trimmed.f kj1 t263 t264 t265 t266 t269).bind fun t284 => (if t284 = true then ((capnpref10_Depth.f kj1 t263 t264 t265 t266 t269).bind fun t285 => ((capnpref10_Depth.f kj1 a0_0 a0_1 a0_2 l0_3 l0_4).bind fun t286 => (if t285 = t286 then ((capnpref10_Objects.f kj1 t263 t264 t265 t266 t269).bind fun t287 => ((capnpref10_Objects.f kj1 a0_0 a0_1 a0_2 l0_3 l0_4).bind fun t288 => (if t287 = t288 then ((capnpref11_Trimmed.f kj1 a0_0 a0_1 a0_2 l0_3 l0_4).bind fun t289 => (if t289 = true then ((capnpref10_Equal.f kj1 t263 t264 t265 t266 t269 a0_0 a0_1 a0_2 l0_3 l0_4).bind fun t290 => (some t290)) else (some true))) else (none)))) else (none)))) else (none))) else (none))) else (none)))) = some r := H
    have A21 := Aside0.mk A210
    clear A210
    replace H := Option.bind_eq_some_iff.mp H
    obtain ⟨⟨t273, t274, t275, t276, t279⟩, A220, H⟩ := H
    replace H : ((capnpref10_Equal.f kj1 t273 t274 t275 t276 t279 t263 t264 t265 t266 t269).bind fun t282 => (if t282 = true then ((capnpref10_Valid.f kj1 t263 t264 t265 t266 t269).bind fun t283 => (if t283 = true then ((capnpref11_Trimmed.f kj1 t263 t264 t265 t266 t269).bind fun t284 => (if t284 = true then ((capnpref10_Depth.f kj1 t263 t264 t265 t266 t269).bind fun t285 => ((capnpref10_Depth.f kj1 a0_0 a0_1 a0_2 l0_3 l0_4).bind fun t286 => (if t285 = t286 then ((capnpref10_Objects.f kj1 t263 t264 t265 t266 t269).bind fun t287 => ((capnpref10_Objects.f kj1 a0_0 a0_1 a0_2 l0_3 l0_4).bind fun t288 => (if t287 = t288 then ((capnpref11_Trimmed.f kj1 a0_0 a0_1 a0_2 l0_3 l0_4).bind fun t289 => (if t289 = true then ((capnpref10_Equal.f kj1 t263 t264 t265 t266 t269 a0_0 a0_1 a0_2 l0_3 l0_4).bind fun t290 => (some t290)) else (some true))) else (none)))) else (none)))) else (none))) else (none))) else (none))) = some r := H
    have A22 := Aside0.mk A220
    clear A220
    replace H := Option.bind_eq_some_iff.mp H
    obtain ⟨t282, A230, H⟩ := H
    replace H : (if t282 = true then ((capnpref10_Valid.f kj1 t263 t264 t265 t266 t269).bind fun t283 => (if t283 = true then ((capnpref11_Trimmed.f kj1 t263 t264 t265 t266 t269).bind fun t284 => (if t284 = true then ((capnpref10_Depth.f kj1 t263 t264 t265 t266 t269).bind fun t285 => ((capnpref10_Depth.f kj1 a0_0 a0_1 a0_2 l0_3 l0_4).bind fun t286 => (if t285 = t286 then ((capnpref10_Objects.f kj1 t263 t264 t265 t266 t269).bind fun t287 => ((capnpref10_Objects.f kj1 a0_0 a0_1 a0_2 l0_3 l0_4).bind fun t288 => (if t287 = t288 then ((capnpref11_Trimmed.f kj1 a0_0 a0_1 a0_2 l0_3 l0_4).bind fun t289 => (if t289 = true then ((capnpref10_Equal.f kj1 t263 t264 t265 t266 t269 a0_0 a0_1 a0_2 l0_3 l0_4).bind fun t290 => (some t290)) else (some true))) else (none)))) else (none)))) else (none))) else (none))) else (none)) = some r := H
    have A23 := Aside0.mk A230
    clear A230
    by_cases c24 : t282 = true
    ·subst c24
     have H1 : ((capnpref10_Valid.f kj1 t263 t264 t265 t266 t269).bind fun t283 => (if t283 = true then ((capnpref11_Trimmed.f kj1 t263 t264 t265 t266 t269).bind fun t284 => (if t284 = true then ((capnpref10_Depth.f kj1 t263 t264 t265 t266 t269).bind fun t285 => ((capnpref10_Depth.f kj1 a0_0 a0_1 a0_2 l0_3 l0_4).bind fun t286 => (if t285 = t286 then ((capnpref10_Objects.f kj1 t263 t264 t265 t266 t269).bind fun t287 => ((capnpref10_Objects.f kj1 a0_0 a0_1 a0_2 l0_3 l0_4).bind fun t288 => (if t287 = t288 then ((capnpref11_Trimmed.f kj1 a0_0 a0_1 a0_2 l0_3 l0_4).bind fun t289 => (if t289 = true then ((capnpref10_Equal.f kj1 t263 t264 t265 t266 t269 a0_0 a0_1 a0_2 l0_3 l0_4).bind fun t290 => (some t290)) else (some true))) else (none)))) else (none)))) else (none))) else (none))) = some r := by rw [if_pos rfl] at H; exact H
     clear H
     have H := H1
     clear H1
     replace H := Option.bind_eq_some_iff.mp H
     obtain ⟨t283, A250, H⟩ := H
     replace H : (if t283 = true then ((capnpref11_Trimmed.f kj1 t263 t264 t265 t266 t269).bind fun t284 => (if t284 = true then ((capnpref10_Depth.f kj1 t263 t264 t265 t266 t269).bind fun t285 => ((capnpref10_Depth.f kj1 a0_0 a0_1 a0_2 l0_3 l0_4).bind fun t286 => (if t285 = t286 then ((capnpref10_Objects.f kj1 t263 t264 t265 t266 t269).bind fun t287 => ((capnpref10_Objects.f kj1 a0_0 a0_1 a0_2 l0_3 l0_4).bind fun t288 => (if t287 = t288 then ((capnpref11_Trimmed.f kj1 a0_0 a0_1 a0_2 l0_3 l0_4).bind fun t289 => (if t289 = true then ((capnpref10_Equal.f kj1 t263 t264 t265 t266 t269 a0_0 a0_1 a0_2 l0_3 l0_4).bind fun t290 => (some t290)) else (some true))) else (none)))) else (none)))) else (none))) else (none)) = some r := H
     have A25 := Aside0.mk A250
     clear A250
     by_cases c26 : t283 = true
     ·subst c26
      have H1 : ((capnpref11_Trimmed.f kj1 t263 t264 t265 t266 t269).bind fun t284 => (if t284 = true then ((capnpref10_Depth.f kj1 t263 t264 t265 t266 t269).bind fun t285 => ((capnpref10_Depth.f kj1 a0_0 a0_1 a0_2 l0_3 l0_4).bind fun t286 => (if t285 = t286 then ((capnpref10_Objects.f kj1 t263 t264 t265 t266 t269).bind fun t287 => ((capnpref10_Objects.f kj1 a0_0 a0_1 a0_2 l0_3 l0_4).bind fun t288 => (if t287 = t288 then ((capnpref11_Trimmed.f kj1 a0_0 a0_1 a0_2 l0_3 l0_4).bind fun t289 => (if t289 = true then ((capnpref10_Equal.f kj1 t263 t264 t265 t266 t269 a0_0 a0_1 a0_2 l0_3 l0_4).bind fun t290 => (some t290)) else (some true))) else (none)))) else (none)))) else (none))) = some r := by rw [if_pos rfl] at H; exact H
      clear H
      have H := H1
      clear H1
      replace H := Option.bind_eq_some_iff.mp H
      obtain ⟨t284, A270, H⟩ := H
      replace H : (if t284 = true then ((capnpref10_Depth.f kj1 t263 t264 t265 t266 t269).bind fun t285 => ((capnpref10_Depth.f kj1 a0_0 a0_1 a0_2 l0_3 l0_4).bind fun t286 => (if t285 = t286 then ((capnpref10_Objects.f kj1 t263 t264 t265 t266 t269).bind fun t287 => ((capnpref10_Objects.f kj1 a0_0 a0_1 a0_2 l0_3 l0_4).bind fun t288 => (if t287 = t288 then ((capnpref11_Trimmed.f kj1 a0_0 a0_1 a0_2 l0_3 l0_4).bind fun t289 => (if t289 = true then ((capnpref10_Equal.f kj1 t263 t264 t265 t266 t269 a0_0 a0_1 a0_2 l0_3 l0_4).bind fun t290 => (some t290)) else (some true))) else (none)))) else (none)))) else (none)) = some r := H
      have A27 := Aside0.mk A270
      clear A270
      by_cases c28 : t284 = true
      ·subst c28
       have H1 : ((capnpref10_Depth.f kj1 t263 t264 t265 t266 t269).bind fun t285 => ((capnpref10_Depth.f kj1 a0_0 a0_1 a0_2 l0_3 l0_4).bind fun t286 => (if t285 = t286 then ((capnpref10_Objects.f kj1 t263 t264 t265 t266 t269).bind fun t287 => ((capnpref10_Objects.f kj1 a0_0 a0_1 a0_2 l0_3 l0_4).bind fun t288 => (if t287 = t288 then ((capnpref11_Trimmed.f kj1 a0_0 a0_1 a0_2 l0_3 l0_4).bind fun t289 => (if t289 = true then ((capnpref10_Equal.f kj1 t263 t264 t265 t266 t269 a0_0 a0_1 a0_2 l0_3 l0_4).bind fun t290 => (some t290)) else (some true))) else (none)))) else (none)))) = some r := by rw [if_pos rfl] at H; exact H
       clear H
       have H := H1
       clear H1
       replace H := Option.bind_eq_some_iff.mp H
       obtain ⟨t285, A290, H⟩ := H
       replace H : ((capnpref10_Depth.f kj1 a0_0 a0_1 a0_2 l0_3 l0_4).bind fun t286 => (if t285 = t286 then ((capnpref10_Objects.f kj1 t263 t264 t265 t266 t269).bind fun t287 => ((capnpref10_Objects.f kj1 a0_0 a0_1 a0_2 l0_3 l0_4).bind fun t288 => (if t287 = t288 then ((capnpref11_Trimmed.f kj1 a0_0 a0_1 a0_2 l0_3 l0_4).bind fun t289 => (if t289 = true then ((capnpref10_Equal.f kj1 t263 t264 t265 t266 t269 a0_0 a0_1 a0_2 l0_3 l0_4).bind fun t290 => (some t290)) else (some true))) else (none)))) else (none))) = some r := H
       have A29 := Aside0.mk A290
       clear A290
       replace H := Option.bind_eq_some_iff.mp H
       obtain ⟨t286, A300, H⟩ := H
       replace H : (if t285 = t286 then ((capnpref10_Objects.f kj1 t263 t264 t265 t266 t269).bind fun t287 => ((capnpref10_Objects.f kj1 a0_0 a0_1 a0_2 l0_3 l0_4).bind fun t288 => (if t287 = t288 then ((capnpref11_Trimmed.f kj1 a0_0 a0_1 a0_2 l0_3 l0_4).bind fun t289 => (if t289 = true then ((capnpref10_Equal.f kj1 t263 t264 t265 t266 t269 a0_0 a0_1 a0_2 l0_3 l0_4).bind fun t290 => (some t290)) else (some true))) else (none)))) else (none)) = some r := H
       have A30 := Aside0.mk A300
       clear A300
       by_cases c31 : t285 = t286
       ·rw [if_pos c31] at H
        have c31b0 : (t285 == t286) = true := beq_iff_eq.mpr c31
        have c31b1 : (t285 != t286) = false := bne_eq_false_iff_eq.mpr c31
        clear c31
        replace H := Option.bind_eq_some_iff.mp H
        obtain ⟨t287, A320, H⟩ := H
        replace H : ((capnpref10_Objects.f kj1 a0_0 a0_1 a0_2 l0_3 l0_4).bind fun t288 => (if t287 = t288 then ((capnpref11_Trimmed.f kj1 a0_0 a0_1 a0_2 l0_3 l0_4).bind fun t289 => (if t289 = true then ((capnpref10_Equal.f kj1 t263 t264 t265 t266 t269 a0_0 a0_1 a0_2 l0_3 l0_4).bind fun t290 => (some t290)) else (some true))) else (none))) = some r := H
        have A32 := Aside0.mk A320
        clear A320
        replace H := Option.bind_eq_some_iff.mp H
        obtain ⟨t288, A330, H⟩ := H
        replace H : (if t287 = t288 then ((capnpref11_Trimmed.f kj1 a0_0 a0_1 a0_2 l0_3 l0_4).bind fun t289 => (if t289 = true then ((capnpref10_Equal.f kj1 t263 t264 t265 t266 t269 a0_0 a0_1 a0_2 l0_3 l0_4).bind fun t290 => (some t290)) else (some true))) else (none)) = some r := H
        have A33 := Aside0.mk A330
        clear A330
        by_cases c34 : t287 = t288
        ·rw [if_pos c34] at H
         have c34b0 : (t287 == t288) = true := beq_iff_eq.mpr c34
         have c34b1 : (t287 != t288) = false := bne_eq_false_iff_eq.mpr c34
         clear c34
         replace H := Option.bind_eq_some_iff.mp H
         obtain ⟨t289, A350, H⟩ := H
         replace H : (if t289 = true then ((capnpref10_Equal.f kj1 t263 t264 t265 t266 t269 a0_0 a0_1 a0_2 l0_3 l0_4).bind fun t290 => (some t290)) else (some true)) = some r := H
         have A35 := Aside0.mk A350
         clear A350
         by_cases c36 : t289 = true
         ·subst c36
          have H1 : ((capnpref10_Equal.f kj1 t263 t264 t265 t266 t269 a0_0 a0_1 a0_2 l0_3 l0_4).bind fun t290 => (some t290)) = some r := by rw [if_pos rfl] at H; exact H
          clear H
          have H := H1
          clear H1
          replace H := Option.bind_eq_some_iff.mp H
          obtain ⟨t290, A370, H⟩ := H
          replace H : (some t290) = some r := H
          have A37 := Aside0.mk A370
          clear A370
          obtain rfl := Option.some.inj H
          have hcz38_0 : wc.cell? ⟨gb258, 0, none⟩ = some (.int .i64 a0_0) := (blk_cell BK258.out 0).trans rfl
          have hcz38_1 : wc.cell? ⟨gb258, 1, none⟩ = some (.int .i64 a0_1) := (blk_cell BK258.out 1).trans rfl
          have hcz38_2 : wc.cell? ⟨gb258, 2, none⟩ = some (.int .i64 a0_2) := (blk_cell BK258.out 2).trans rfl
          have hcz38_3 : wc.cell? ⟨gb258, 3, none⟩ = some (.slice A0_3 l0_3.length c0_3) := (blk_cell BK258.out 3).trans rfl
          have hcz38_4 : wc.cell? ⟨gb258, 4, none⟩ = some (.slice A0_4 l0_4.length c0_4) := (blk_cell BK258.out 4).trans rfl
          have hfz38_0 := blk_frozen BK258.out 0
          have hfz38_1 := blk_frozen BK258.out 1
          have hfz38_2 := blk_frozen BK258.out 2
          have hfz38_3 := blk_frozen BK258.out 3
          have hfz38_4 := blk_frozen BK258.out 4
          try go_wp2_with (first | ((with_reducible refine gate_callee (f := 16) rfl ?_); refine goesL_ (some 18) rfl rfl Try.func16 (by kernel_rfl) rfl #[.agg #[.int .i64 a0_0, .int .i64 a0_1, .int .i64 a0_2, .slice A0_3 l0_3.length c0_3, .slice A0_4 l0_4.length c0_4]] rfl (by (try simp only [List.map_toArray, List.map_cons, List.map_nil]); first | done | rfl | (simp only [List.length_drop, List.length_take]; rfl)) ?_; (with_reducible refine (trim_Trim.calls kj1 a0_0 a0_1 a0_2 (fun k_ => k_ < w.heap.size) _ _ l0_3 (fun k_ => k_ < w.heap.size) _ _ l0_4 t263 t264 t265 t266 t269 _ ?side1 ?side2 A21.out).mono ?_); (case side1 => exact Kd.V_mk HC0_3.out (Kd.F_below (Kd.C_F (Kd.heap_int .u8) HR0_3.out) (by repeat (first | (with_reducible first | exact HB.out | apply below_alloc | apply pw_below_drewN | apply below_drew1 | refine below_set ?_ GE258.out) | exact HB.out)))); (case side2 => exact Kd.V_mk HC0_4.out (Kd.F_below (Kd.C_F k25_heap HR0_4.out) (by repeat (first | (with_reducible first | exact HB.out | apply below_alloc | apply pw_below_drewN | apply below_drew1 | refine below_set ?_ GE258.out) | exact HB.out)))); rintro e w39 ⟨v267, v270, rfl, ho0, ho1, hb⟩; refine ⟨_, rfl, ?_⟩; have n0_ := Aside0.mk (Kd.R_lower (Kd.R_mono (ok' := fun k_ => True) ho0 (fun _ hk_ => trivial)) (below_size (by repeat (first | (with_reducible first | exact HB.out | apply below_alloc | apply pw_below_drewN | apply below_drew1 | refine below_set ?_ GE258.out) | exact HB.out)))); have n1_ := Aside0.mk (Kd.R_lower (Kd.R_newB (Kd.R_mono (ok' := fun k_ => some k_ ≠ (v267 : Value).ownBlock) ho1 (fun _ hk_ => hk_.2)) (g := gb258) (o := .cells #[.int .i64 a0_0, .int .i64 a0_1, .int .i64 a0_2, .slice A0_3 l0_3.length c0_3, .slice A0_4 l0_4.length c0_4] 25 (0, 0)) (by (with_reducible repeat (first | refine blk_drewN ?_ _ | refine blk_drew ?_ | refine blk_alloc ?_ _)); exact BK258.out)) (below_size (by repeat (first | (with_reducible first | exact HB.out | apply below_alloc | apply pw_below_drewN | apply below_drew1 | refine below_set ?_ GE258.out) | exact HB.out)))); have n2_ := Aside0.mk (blk_below (g := gb258) (o := .cells #[.int .i64 a0_0, .int .i64 a0_1, .int .i64 a0_2, .slice A0_3 l0_3.length c0_3, .slice A0_4 l0_4.length c0_4] 25 (0, 0)) (by (with_reducible repeat (first | refine blk_drewN ?_ _ | refine blk_drew ?_ | refine blk_alloc ?_ _)); exact BK258.out) hb); have n3_ := Aside0.mk (below_step (by repeat (first | (with_reducible first | exact HB.out | apply below_alloc | apply pw_below_drewN | apply below_drew1 | refine below_set ?_ GE258.out) | exact HB.out)) hb); clear BK258; clear HB; have HO268 := n0_; have HO271 := n1_; have BK258 := n2_; have HB := n3_; clear n0_ n1_ n2_ n3_; (try clear hb); (try clear hb2); (try clear hk); (try clear hi); (try clear ho0); (try clear ho1)) | ((with_reducible refine gate_dst (N := 3) rfl ?_); refine box_event ?hg (N := 3) ?hd (cs := #[.int .i64 0, .int .i64 0, .int .i64 0, .slice none 0 0, .slice none 0 0]) (t := 25) ?hr ?_; (case hd => rfl); (case hg => rfl); (case hr => first | (go_simp; done) | (go_simp; rfl)); intro gb272 hg w40 hbox hb; have n0_ := Aside0.mk (Kd.R_below (by (with_reducible repeat (first | apply Kd.R_alloc | apply Kd.R_drewN | apply Kd.R_drew)); exact HO268.out) hb); have n1_ := Aside0.mk (Kd.R_below (Kd.R_elderB (by (with_reducible repeat (first | apply Kd.R_alloc | apply Kd.R_drewN | apply Kd.R_drew)); exact HO271.out) gb272 (Nat.le_of_eq hg.symm)) hb); have n2_ := Aside0.mk (blk_below (g := gb258) (o := .cells #[.int .i64 a0_0, .int .i64 a0_1, .int .i64 a0_2, .slice A0_3 l0_3.length c0_3, .slice A0_4 l0_4.length c0_4] 25 (0, 0)) (by (with_reducible repeat (first | refine blk_drewN ?_ _ | refine blk_drew ?_ | refine blk_alloc ?_ _)); exact BK258.out) hb); have n3_ := Aside0.mk (below_step (by repeat (first | (with_reducible first | exact HB.out | apply below_alloc | apply pw_below_drewN | apply below_drew1 | refine below_set ?_ GE258.out) | exact HB.out)) hb); have n4_ := Aside0.mk (hbox); have n5_ := Aside0.mk ((by rw [hg]; exact (below_size (by repeat (first | (with_reducible first | exact HB.out | apply below_alloc | apply pw_below_drewN | apply below_drew1 | refine below_set ?_ GE258.out) | exact HB.out))) : w.heap.size ≤ gb272)); have n6_ := Aside0.mk ((by rw [hg]; exact (below_size (by repeat (first | (with_reducible first | exact HB.out | apply below_alloc | apply pw_below_drewN | apply below_drew1 | refine below_set ?_ GE258.out) | exact HB.out))) : w.heap.size ≤ gb272)); have n7_ := Aside0.mk ((by rw [hg]; exact Nat.ne_of_lt (blk_lt (g := gb258) (o := .cells #[.int .i64 a0_0, .int .i64 a0_1, .int .i64 a0_2, .slice A0_3 l0_3.length c0_3, .slice A0_4 l0_4.length c0_4] 25 (0, 0)) (by (with_reducible repeat (first | refine blk_drewN ?_ _ | refine blk_drew ?_ | refine blk_alloc ?_ _)); exact BK258.out)) : gb258 ≠ gb272)); have n8_ := Aside0.mk ((by rw [hg]; exact Nat.ne_of_gt (blk_lt (g := gb258) (o := .cells #[.int .i64 a0_0, .int .i64 a0_1, .int .i64 a0_2, .slice A0_3 l0_3.length c0_3, .slice A0_4 l0_4.length c0_4] 25 (0, 0)) (by (with_reducible repeat (first | refine blk_drewN ?_ _ | refine blk_drew ?_ | refine blk_alloc ?_ _)); exact BK258.out)) : gb272 ≠ gb258)); clear HO268; clear HO271; clear BK258; clear HB; have HO268 := n0_; have HO271 := n1_; have BK258 := n2_; have HB := n3_; have BK272 := n4_; have GW272 := n5_; have GE272 := n6_; have NB258_272 := n7_; have NB272_258 := n8_; clear n0_ n1_ n2_ n3_ n4_ n5_ n6_ n7_ n8_; clear hb hbox hg; have hnb41 := NB272_258.out; have hnc41 := NB258_272.out; have hcz42_0 : w40.cell? ⟨gb272, 0, none⟩ = some (.int .i64 0) := (blk_cell BK272.out 0).trans rfl; have hcz42_1 : w40.cell? ⟨gb272, 1, none⟩ = some (.int .i64 0) := (blk_cell BK272.out 1).trans rfl; have hcz42_2 : w40.cell? ⟨gb272, 2, none⟩ = some (.int .i64 0) := (blk_cell BK272.out 2).trans rfl; have hcz42_3 : w40.cell? ⟨gb272, 3, none⟩ = some (.slice none 0 0) := (blk_cell BK272.out 3).trans rfl; have hcz42_4 : w40.cell? ⟨gb272, 4, none⟩ = some (.slice none 0 0) := (blk_cell BK272.out 4).trans rfl; have hfz42_0 := blk_frozen BK272.out 0; have hfz42_1 := blk_frozen BK272.out 1; have hfz42_2 := blk_frozen BK272.out 2; have hfz42_3 := blk_frozen BK272.out 3; have hfz42_4 := blk_frozen BK272.out 4; obtain ⟨Ao43, co43, eo43⟩ := Kd.R_slice HO268.out; subst eo43; obtain ⟨Ao44, co44, eo44⟩ := Kd.R_slice HO271.out; subst eo44))
          have n0_ : Aside0 (Kd.R (Kd.int .u8) 5 (((((w40.setCell ⟨gb272, 0, none⟩ (.int .i64 t263)).setCell ⟨gb272, 1, none⟩ (.int .i64 t264)).setCell ⟨gb272, 2, none⟩ (.int .i64 t265)).setCell ⟨gb272, 3, none⟩ (.slice Ao43 t266.length co43)).setCell ⟨gb272, 4, none⟩ (.slice Ao44 t269.length co44)) w.heap.size (fun _ => True) (.slice Ao43 t266.length co43) t266) := ⟨by (with_reducible repeat (first | apply Kd.R_alloc | apply Kd.R_drewN | apply Kd.R_drew)); exact Kd.R_mono (Kd.R_far (p := ⟨gb272, 4, none⟩) (Kd.R_far (p := ⟨gb272, 3, none⟩) (Kd.R_far (p := ⟨gb272, 2, none⟩) (Kd.R_far (p := ⟨gb272, 1, none⟩) (Kd.R_far (p := ⟨gb272, 0, none⟩) (Kd.R_types HO268.out BK272.out (by decide)) (fun _ hk => hk.2) (.int .i64 t263)) (fun _ hk => hk.2) (.int .i64 t264)) (fun _ hk => hk.2) (.int .i64 t265)) (fun _ hk => hk.2) (.slice Ao43 t266.length co43)) (fun _ hk => hk.2) (.slice Ao44 t269.length co44)) (fun _ hk => trivial)⟩
          have n1_ : Aside0 (Kd.R k25 25 (((((w40.setCell ⟨gb272, 0, none⟩ (.int .i64 t263)).setCell ⟨gb272, 1, none⟩ (.int .i64 t264)).setCell ⟨gb272, 2, none⟩ (.int .i64 t265)).setCell ⟨gb272, 3, none⟩ (.slice Ao43 t266.length co43)).setCell ⟨gb272, 4, none⟩ (.slice Ao44 t269.length co44)) w.heap.size (fun k_ => some k_ ≠ (.slice Ao43 t266.length co43 : Value).ownBlock ∧ k_ ≠ gb258 ∧ k_ ≠ gb272) (.slice Ao44 t269.length co44) t269) := ⟨by (with_reducible repeat (first | apply Kd.R_alloc | apply Kd.R_drewN | apply Kd.R_drew)); exact Kd.R_mono (Kd.R_far (p := ⟨gb272, 4, none⟩) (Kd.R_far (p := ⟨gb272, 3, none⟩) (Kd.R_far (p := ⟨gb272, 2, none⟩) (Kd.R_far (p := ⟨gb272, 1, none⟩) (Kd.R_far (p := ⟨gb272, 0, none⟩) (Kd.R_mono HO271.out (fun k_ hk => (⟨hk, hk.2⟩ : _ ∧ k_ ≠ gb272))) (fun _ hk => hk.2) (.int .i64 t263)) (fun _ hk => hk.2) (.int .i64 t264)) (fun _ hk => hk.2) (.int .i64 t265)) (fun _ hk => hk.2) (.slice Ao43 t266.length co43)) (fun _ hk => hk.2) (.slice Ao44 t269.length co44)) (fun _ hk => ⟨hk.1.1.1, ⟨hk.1.1.2, hk.1.2⟩⟩)⟩
          have n2_ : Aside0 ((((((w40.setCell ⟨gb272, 0, none⟩ (.int .i64 t263)).setCell ⟨gb272, 1, none⟩ (.int .i64 t264)).setCell ⟨gb272, 2, none⟩ (.int .i64 t265)).setCell ⟨gb272, 3, none⟩ (.slice Ao43 t266.length co43)).setCell ⟨gb272, 4, none⟩ (.slice Ao44 t269.length co44)).heap[gb258]? = some (.cells #[.int .i64 a0_0, .int .i64 a0_1, .int .i64 a0_2, .slice A0_3 l0_3.length c0_3, .slice A0_4 l0_4.length c0_4] 25 (0, 0))) := ⟨by (with_reducible repeat (first | refine blk_drewN ?_ _ | refine blk_drew ?_ | refine blk_alloc ?_ _)); refine blk_far ?_ NB258_272.out _; (with_reducible repeat (first | refine blk_drewN ?_ _ | refine blk_drew ?_ | refine blk_alloc ?_ _)); refine blk_far ?_ NB258_272.out _; (with_reducible repeat (first | refine blk_drewN ?_ _ | refine blk_drew ?_ | refine blk_alloc ?_ _)); refine blk_far ?_ NB258_272.out _; (with_reducible repeat (first | refine blk_drewN ?_ _ | refine blk_drew ?_ | refine blk_alloc ?_ _)); refine blk_far ?_ NB258_272.out _; (with_reducible repeat (first | refine blk_drewN ?_ _ | refine blk_drew ?_ | refine blk_alloc ?_ _)); refine blk_far ?_ NB258_272.out _; (with_reducible repeat (first | refine blk_drewN ?_ _ | refine blk_drew ?_ | refine blk_alloc ?_ _)); exact BK258.out⟩
          have n3_ : Aside0 ((((((w40.setCell ⟨gb272, 0, none⟩ (.int .i64 t263)).setCell ⟨gb272, 1, none⟩ (.int .i64 t264)).setCell ⟨gb272, 2, none⟩ (.int .i64 t265)).setCell ⟨gb272, 3, none⟩ (.slice Ao43 t266.length co43)).setCell ⟨gb272, 4, none⟩ (.slice Ao44 t269.length co44)).heap[gb272]? = some (.cells #[.int .i64 t263, .int .i64 t264, .int .i64 t265, .slice Ao43 t266.length co43, .slice Ao44 t269.length co44] 25 (0, 0))) := ⟨by (with_reducible repeat (first | refine blk_drewN ?_ _ | refine blk_drew ?_ | refine blk_alloc ?_ _)); refine blk_put (cs := #[.int .i64 t263, .int .i64 t264, .int .i64 t265, .slice Ao43 t266.length co43, .slice none 0 0]) ?_ 4 _ rfl; (with_reducible repeat (first | refine blk_drewN ?_ _ | refine blk_drew ?_ | refine blk_alloc ?_ _)); refine blk_put (cs := #[.int .i64 t263, .int .i64 t264, .int .i64 t265, .slice none 0 0, .slice none 0 0]) ?_ 3 _ rfl; (with_reducible repeat (first | refine blk_drewN ?_ _ | refine blk_drew ?_ | refine blk_alloc ?_ _)); refine blk_put (cs := #[.int .i64 t263, .int .i64 t264, .int .i64 0, .slice none 0 0, .slice none 0 0]) ?_ 2 _ rfl; (with_reducible repeat (first | refine blk_drewN ?_ _ | refine blk_drew ?_ | refine blk_alloc ?_ _)); refine blk_put (cs := #[.int .i64 t263, .int .i64 0, .int .i64 0, .slice none 0 0, .slice none 0 0]) ?_ 1 _ rfl; (with_reducible repeat (first | refine blk_drewN ?_ _ | refine blk_drew ?_ | refine blk_alloc ?_ _)); refine blk_put (cs := #[.int .i64 0, .int .i64 0, .int .i64 0, .slice none 0 0, .slice none 0 0]) ?_ 0 _ rfl; (with_reducible repeat (first | refine blk_drewN ?_ _ | refine blk_drew ?_ | refine blk_alloc ?_ _)); exact BK272.out⟩
          have n4_ : Aside0 (Below w.heap.size w (((((w40.setCell ⟨gb272, 0, none⟩ (.int .i64 t263)).setCell ⟨gb272, 1, none⟩ (.int .i64 t264)).setCell ⟨gb272, 2, none⟩ (.int .i64 t265)).setCell ⟨gb272, 3, none⟩ (.slice Ao43 t266.length co43)).setCell ⟨gb272, 4, none⟩ (.slice Ao44 t269.length co44))) := ⟨by repeat (first | (with_reducible first | exact HB.out | apply below_alloc | apply pw_below_drewN | apply below_drew1 | refine below_set ?_ GE258.out | refine below_set ?_ GE272.out) | exact HB.out)⟩
          (try clear HO268)
          (try clear HO271)
          (try clear BK258)
          (try clear BK272)
          (try clear HB)
          generalize (((((w40.setCell ⟨gb272, 0, none⟩ (.int .i64 t263)).setCell ⟨gb272, 1, none⟩ (.int .i64 t264)).setCell ⟨gb272, 2, none⟩ (.int .i64 t265)).setCell ⟨gb272, 3, none⟩ (.slice Ao43 t266.length co43)).setCell ⟨gb272, 4, none⟩ (.slice Ao44 t269.length co44)) = w45 at n0_ n1_ n2_ n3_ n4_ ⊢
          have HO268 := n0_
          have HO271 := n1_
          have BK258 := n2_
          have BK272 := n3_
          have HB := n4_
          clear n0_ n1_ n2_ n3_ n4_
          have n0_ := Aside0.mk (Kd.R_drew HO268.out)
          have n1_ := Aside0.mk (Kd.R_drew HO271.out)
          have n2_ := Aside0.mk (blk_drew BK258.out)
          have n3_ := Aside0.mk (blk_drew BK272.out)
          have n4_ := Aside0.mk (below_drew1 HB.out)
          clear HO268
          clear HO271
          clear BK258
          clear BK272
          clear HB
          have HO268 := n0_
          have HO271 := n1_
          have BK258 := n2_
          have BK272 := n3_
          have HB := n4_
          clear n0_ n1_ n2_ n3_ n4_
          refine start_ (n := 37) (S := fun w' => w'.cell? ⟨gb272, 0, none⟩ = some (.int .i64 t263) ∧ w'.cell? ⟨gb272, 1, none⟩ = some (.int .i64 t264) ∧ w'.cell? ⟨gb272, 2, none⟩ = some (.int .i64 t265) ∧ w'.cell? ⟨gb272, 3, none⟩ = some (.slice Ao43 t266.length co43) ∧ w'.cell? ⟨gb272, 4, none⟩ = some (.slice Ao44 t269.length co44) ∧ w'.cell? ⟨gb258, 0, none⟩ = some (.int .i64 a0_0) ∧ w'.cell? ⟨gb258, 1, none⟩ = some (.int .i64 a0_1) ∧ w'.cell? ⟨gb258, 2, none⟩ = some (.int .i64 a0_2) ∧ w'.cell? ⟨gb258, 3, none⟩ = some (.slice A0_3 l0_3.length c0_3) ∧ w'.cell? ⟨gb258, 4, none⟩ = some (.slice A0_4 l0_4.length c0_4)) (ds := []) #[false, false, false, false, false, false, false, false, false, false, false, false, false, false, false, false, false, false, false, false, false, false, false, false, false, false, false, false, false, false, false, false, false, false, false, false, false] (by kernel_rfl) rfl rfl ⟨(blk_cell BK272.out 0).trans rfl, (blk_cell BK272.out 1).trans rfl, (blk_cell BK272.out 2).trans rfl, (blk_cell BK272.out 3).trans rfl, (blk_cell BK272.out 4).trans rfl, (blk_cell BK258.out 0).trans rfl, (blk_cell BK258.out 1).trans rfl, (blk_cell BK258.out 2).trans rfl, (blk_cell BK258.out 3).trans rfl, (blk_cell BK258.out 4).trans rfl⟩ (fun hHeld => ?_); refine with_tabW capnplaw11_TrimIsCanonical.tab4 capnplaw11_TrimIsCanonical.bits4 (fun HT_ HW_ => ?_)
          generalize w45.drew = w46 at HO268 HO271 BK258 BK272 HB hHeld ⊢
          refine take_ (i := 0) (N := some 19) (v := ?_) (a' := ?_) #[true, false, false, false, false, false, false, false, false, false, false, false, false, false, false, false, false, false, false, false, false, false, false, false, false, false, false, false, false, false, false, false, false, false, false, false, false] rfl rfl (take_ofW HT_.out HW_.out (by kernel_rfl)) (fun _ _ _ h => h) (Or.inl ⟨by rfl, ?_⟩) hHeld ?_ ?_
          rotate_left
          ·rintro w' ⟨s0, s1, s2, s3, s4, s5, s6, s7, s8, s9⟩
           go_simp
           with_reducible rfl
          rotate_left
          ·simp only [Act.put, List.setIfInBounds_toArray, List.set_cons_zero, List.set_cons_succ, i64_w, i32_w]
           rfl
          refine take_ (i := 2) (N := some 21) (v := ?_) (a' := ?_) #[true, false, true, false, false, false, false, false, false, false, false, false, false, false, false, false, false, false, false, false, false, false, false, false, false, false, false, false, false, false, false, false, false, false, false, false, false] rfl rfl (take_ofW HT_.out HW_.out (by kernel_rfl)) (fun _ _ _ h => h) (Or.inl ⟨by rfl, ?_⟩) hHeld ?_ ?_
          rotate_left
          ·rintro w' ⟨s0, s1, s2, s3, s4, s5, s6, s7, s8, s9⟩
           go_simp
           with_reducible rfl
          rotate_left
          ·simp only [Act.put, List.setIfInBounds_toArray, List.set_cons_zero, List.set_cons_succ, i64_w, i32_w]
           rfl
          refine one_ (i := 1) (N := some 20) #[true, true, true, false, false, false, false, false, false, false, false, false, false, false, false, false, false, false, false, false, false, false, false, false, false, false, false, false, false, false, false, false, false, false, false, false, false] rfl rfl (one_of HT_.out (by kernel_rfl)) (by decide) (fun K hK => ?_)
          refine goes_ Try.func16 (by kernel_rfl) rfl #[.agg #[.int .i64 t263, .int .i64 t264, .int .i64 t265, .slice Ao43 t266.length co43, .slice Ao44 t269.length co44]] (by rfl) rfl rfl (by (try simp only [List.map_toArray, List.map_cons, List.map_nil]); first | done | rfl | (simp only [List.length_drop, List.length_take]; rfl)) ?_
          with_reducible refine (trim_Trim.calls kj1 t263 t264 t265 (fun k_ => some k_ = (.slice Ao43 t266.length co43 : Value).ownBlock) _ _ t266 (fun k_ => (some k_ ≠ (.slice Ao43 t266.length co43 : Value).ownBlock ∧ (k_ ≠ gb258 ∧ k_ ≠ gb272))) _ _ t269 t273 t274 t275 t276 t279 _ ?side1 ?side2 A22.out).mono ?_
          (case side1 => exact Kd.R_V (Kd.R_tight rfl (Kd.R_types (Kd.R_types (Kd.R_apart' (HO268.out) (Kd.R_typed HO271.out) (by decide)) BK258.out (by decide)) BK272.out (by decide))))
          (case side2 => exact Kd.R_V (HO271.out))
          rintro e w47 ⟨v277, v280, rfl, ho0, ho1, hb⟩
          refine ⟨_, rfl, ?_⟩
          have n0_ := Aside0.mk (Kd.R_elder' (by (with_reducible repeat (first | apply Kd.R_alloc | apply Kd.R_drewN | apply Kd.R_drew)); exact HO268.out) (Kd.R_base ho0) hb)
          have n1_ := Aside0.mk (Kd.R_mono (Kd.R_told (Kd.R_told (Kd.R_old (by (with_reducible repeat (first | apply Kd.R_alloc | apply Kd.R_drewN | apply Kd.R_drew)); exact HO271.out) hb) (Kd.R_base ho0)) (Kd.R_base ho1)) (fun _ h_ => h_.1))
          have n2_ := Aside0.mk (Kd.R_lower (Kd.R_new' (Kd.R_mono (ok' := fun k_ => True) ho0 (fun _ hk_ => trivial)) (Kd.R_lt (by (with_reducible repeat (first | apply Kd.R_alloc | apply Kd.R_drewN | apply Kd.R_drew)); exact HO268.out))) (below_size (by repeat (first | (with_reducible first | exact HB.out | apply below_alloc | apply pw_below_drewN | apply below_drew1 | refine below_set ?_ GE258.out | refine below_set ?_ GE272.out) | exact HB.out))))
          have n3_ := Aside0.mk (Kd.R_lower (Kd.R_newB (Kd.R_newB (Kd.R_new' (Kd.R_new' (Kd.R_mono (ok' := fun k_ => some k_ ≠ (v277 : Value).ownBlock) ho1 (fun _ hk_ => hk_.2)) (Kd.R_lt (by (with_reducible repeat (first | apply Kd.R_alloc | apply Kd.R_drewN | apply Kd.R_drew)); exact HO268.out))) (Kd.R_lt (by (with_reducible repeat (first | apply Kd.R_alloc | apply Kd.R_drewN | apply Kd.R_drew)); exact HO271.out))) (g := gb258) (o := .cells #[.int .i64 a0_0, .int .i64 a0_1, .int .i64 a0_2, .slice A0_3 l0_3.length c0_3, .slice A0_4 l0_4.length c0_4] 25 (0, 0)) (by (with_reducible repeat (first | refine blk_drewN ?_ _ | refine blk_drew ?_ | refine blk_alloc ?_ _)); exact BK258.out)) (g := gb272) (o := .cells #[.int .i64 t263, .int .i64 t264, .int .i64 t265, .slice Ao43 t266.length co43, .slice Ao44 t269.length co44] 25 (0, 0)) (by (with_reducible repeat (first | refine blk_drewN ?_ _ | refine blk_drew ?_ | refine blk_alloc ?_ _)); exact BK272.out)) (below_size (by repeat (first | (with_reducible first | exact HB.out | apply below_alloc | apply pw_below_drewN | apply below_drew1 | refine below_set ?_ GE258.out | refine below_set ?_ GE272.out) | exact HB.out))))
          have n4_ := Aside0.mk (blk_below (g := gb258) (o := .cells #[.int .i64 a0_0, .int .i64 a0_1, .int .i64 a0_2, .slice A0_3 l0_3.length c0_3, .slice A0_4 l0_4.length c0_4] 25 (0, 0)) (by (with_reducible repeat (first | refine blk_drewN ?_ _ | refine blk_drew ?_ | refine blk_alloc ?_ _)); exact BK258.out) hb)
          have n5_ := Aside0.mk (blk_below (g := gb272) (o := .cells #[.int .i64 t263, .int .i64 t264, .int .i64 t265, .slice Ao43 t266.length co43, .slice Ao44 t269.length co44] 25 (0, 0)) (by (with_reducible repeat (first | refine blk_drewN ?_ _ | refine blk_drew ?_ | refine blk_alloc ?_ _)); exact BK272.out) hb)
          have n6_ := Aside0.mk (below_step (by repeat (first | (with_reducible first | exact HB.out | apply below_alloc | apply pw_below_drewN | apply below_drew1 | refine below_set ?_ GE258.out | refine below_set ?_ GE272.out) | exact HB.out)) hb)
          clear HO268
          clear HO271
          clear BK258
          clear BK272
          clear HB
          have HO268 := n0_
          have HO271 := n1_
          have HO278 := n2_
          have HO281 := n3_
          have BK258 := n4_
          have BK272 := n5_
          have HB := n6_
          clear n0_ n1_ n2_ n3_ n4_ n5_ n6_
          (try clear hb)
          (try clear hb2)
          (try clear hk)
          (try clear hi)
          (try clear ho0)
          (try clear ho1)
          obtain ⟨Ao48, co48, eo48⟩ := Kd.R_slice HO278.out
          (first | subst eo48 | (injection eo48 with f1_ f2_ f3_; have f4_ := f1_.symm; have f5_ := f3_.symm; clear f1_ f2_ f3_; subst f4_; subst f5_))
          obtain ⟨Ao49, co49, eo49⟩ := Kd.R_slice HO281.out
          (first | subst eo49 | (injection eo49 with f1_ f2_ f3_; have f4_ := f1_.symm; have f5_ := f3_.symm; clear f1_ f2_ f3_; subst f4_; subst f5_))
          refine hK.out _ _ ⟨(blk_cell BK272.out 0).trans rfl, (blk_cell BK272.out 1).trans rfl, (blk_cell BK272.out 2).trans rfl, (blk_cell BK272.out 3).trans rfl, (blk_cell BK272.out 4).trans rfl, (blk_cell BK258.out 0).trans rfl, (blk_cell BK258.out 1).trans rfl, (blk_cell BK258.out 2).trans rfl, (blk_cell BK258.out 3).trans rfl, (blk_cell BK258.out 4).trans rfl⟩ (fun hHeld => ?_)
          clear hK K
          refine norm_ (a' := ?_) ?_ ?_
          rotate_left
          ·show Act.put _ (some 20) _ = _
           simp only [Act.put, List.setIfInBounds_toArray, List.set_cons_zero, List.set_cons_succ, i64_w, i32_w]
           rfl
          refine one_ (i := 3) (N := some 22) #[true, true, true, true, false, false, false, false, false, false, false, false, false, false, false, false, false, false, false, false, false, false, false, false, false, false, false, false, false, false, false, false, false, false, false, false, false] rfl rfl (one_of HT_.out (by kernel_rfl)) (by decide) (fun K hK => ?_)
          refine goes_ Try.func15 (by kernel_rfl) rfl #[.agg #[.int .i64 t273, .int .i64 t274, .int .i64 t275, .slice Ao48 t276.length co48, .slice Ao49 t279.length co49], .agg #[.int .i64 t263, .int .i64 t264, .int .i64 t265, .slice Ao43 t266.length co43, .slice Ao44 t269.length co44]] (by rfl) rfl rfl (by (try simp only [List.map_toArray, List.map_cons, List.map_nil]); first | done | rfl | (simp only [List.length_drop, List.length_take]; rfl)) ?_
          with_reducible refine (capnpref10_Equal.calls kj1 t273 t274 t275 _ _ t276 _ _ t279 t263 t264 t265 _ _ t266 _ _ t269 true _ ?side1 ?side2 ?side3 ?side4 ?side5 ?side6 ?side7 ?side8 A23.out).mono ?_
          (case side1 => repeat (first | exact (Kd.R_reads' HO278.out).2.2 | (with_reducible refine Kd.C_alloc ?_ _) | (with_reducible refine Kd.C_drewN ?_ _) | (with_reducible refine Kd.C_drew ?_)))
          (case side2 => exact (Kd.R_reads' HO278.out).2.1)
          (case side3 => repeat (first | exact (Kd.R_reads' HO281.out).2.2 | (with_reducible refine Kd.C_alloc ?_ _) | (with_reducible refine Kd.C_drewN ?_ _) | (with_reducible refine Kd.C_drew ?_)))
          (case side4 => exact (Kd.R_reads' HO281.out).2.1)
          (case side5 => repeat (first | exact (Kd.R_reads' HO268.out).2.2 | (with_reducible refine Kd.C_alloc ?_ _) | (with_reducible refine Kd.C_drewN ?_ _) | (with_reducible refine Kd.C_drew ?_)))
          (case side6 => exact (Kd.R_reads' HO268.out).2.1)
          (case side7 => repeat (first | exact (Kd.R_reads' HO271.out).2.2 | (with_reducible refine Kd.C_alloc ?_ _) | (with_reducible refine Kd.C_drewN ?_ _) | (with_reducible refine Kd.C_drew ?_)))
          (case side8 => exact (Kd.R_reads' HO271.out).2.1)
          rintro e w50 ⟨rfl, hb⟩
          refine ⟨_, rfl, ?_⟩
          have n0_ := Aside0.mk (Kd.R_below (by (with_reducible repeat (first | apply Kd.R_alloc | apply Kd.R_drewN | apply Kd.R_drew)); exact HO268.out) hb)
          have n1_ := Aside0.mk (Kd.R_below (by (with_reducible repeat (first | apply Kd.R_alloc | apply Kd.R_drewN | apply Kd.R_drew)); exact HO271.out) hb)
          have n2_ := Aside0.mk (Kd.R_below (by (with_reducible repeat (first | apply Kd.R_alloc | apply Kd.R_drewN | apply Kd.R_drew)); exact HO278.out) hb)
          have n3_ := Aside0.mk (Kd.R_below (by (with_reducible repeat (first | apply Kd.R_alloc | apply Kd.R_drewN | apply Kd.R_drew)); exact HO281.out) hb)
          have n4_ := Aside0.mk (blk_below (g := gb258) (o := .cells #[.int .i64 a0_0, .int .i64 a0_1, .int .i64 a0_2, .slice A0_3 l0_3.length c0_3, .slice A0_4 l0_4.length c0_4] 25 (0, 0)) (by (with_reducible repeat (first | refine blk_drewN ?_ _ | refine blk_drew ?_ | refine blk_alloc ?_ _)); exact BK258.out) hb)
          have n5_ := Aside0.mk (blk_below (g := gb272) (o := .cells #[.int .i64 t263, .int .i64 t264, .int .i64 t265, .slice Ao43 t266.length co43, .slice Ao44 t269.length co44] 25 (0, 0)) (by (with_reducible repeat (first | refine blk_drewN ?_ _ | refine blk_drew ?_ | refine blk_alloc ?_ _)); exact BK272.out) hb)
          have n6_ := Aside0.mk (below_step (by repeat (first | (with_reducible first | exact HB.out | apply below_alloc | apply pw_below_drewN | apply below_drew1 | refine below_set ?_ GE258.out | refine below_set ?_ GE272.out) | exact HB.out)) hb)
          clear HO268
          clear HO271
          clear HO278
          clear HO281
          clear BK258
          clear BK272
          clear HB
          have HO268 := n0_
          have HO271 := n1_
          have HO278 := n2_
          have HO281 := n3_
          have BK258 := n4_
          have BK272 := n5_
          have HB := n6_
          clear n0_ n1_ n2_ n3_ n4_ n5_ n6_
          (try clear hb)
          (try clear hb2)
          (try clear hk)
          (try clear hi)
          refine hK.out _ _ ⟨(blk_cell BK272.out 0).trans rfl, (blk_cell BK272.out 1).trans rfl, (blk_cell BK272.out 2).trans rfl, (blk_cell BK272.out 3).trans rfl, (blk_cell BK272.out 4).trans rfl, (blk_cell BK258.out 0).trans rfl, (blk_cell BK258.out 1).trans rfl, (blk_cell BK258.out 2).trans rfl, (blk_cell BK258.out 3).trans rfl, (blk_cell BK258.out 4).trans rfl⟩ (fun hHeld => ?_)
          clear hK K
          refine norm_ (a' := ?_) ?_ ?_
          rotate_left
          ·show Act.put _ (some 22) _ = _
           simp only [Act.put, List.setIfInBounds_toArray, List.set_cons_zero, List.set_cons_succ, i64_w, i32_w]
           rfl
          refine pure_ (i := 4) (N := some 23) (v := ?_) (a' := ?_) #[true, true, true, true, true, false, false, false, false, false, false, false, false, false, false, false, false, false, false, false, false, false, false, false, false, false, false, false, false, false, false, false, false, false, false, false, false] rfl rfl (any_of HT_.out (by kernel_rfl)) (fun _ _ _ h => h) (Or.inl ⟨by rfl, ?_⟩) ?_ ?_
          rotate_left
          ·intro w'
           go_simp
           with_reducible rfl
          rotate_left
          ·simp only [Act.put, List.setIfInBounds_toArray, List.set_cons_zero, List.set_cons_succ, i64_w, i32_w]
           rfl
          refine take_ (i := 5) (N := some 24) (v := ?_) (a' := ?_) #[true, true, true, true, true, true, false, false, false, false, false, false, false, false, false, false, false, false, false, false, false, false, false, false, false, false, false, false, false, false, false, false, false, false, false, false, false] rfl rfl (take_ofW HT_.out HW_.out (by kernel_rfl)) (fun _ _ _ h => h) (Or.inl ⟨by rfl, ?_⟩) hHeld ?_ ?_
          rotate_left
          ·rintro w' ⟨s0, s1, s2, s3, s4, s5, s6, s7, s8, s9⟩
           go_simp
           with_reducible rfl
          rotate_left
          ·simp only [Act.put, List.setIfInBounds_toArray, List.set_cons_zero, List.set_cons_succ, i64_w, i32_w]
           rfl
          refine one_ (i := 6) (N := some 25) #[true, true, true, true, true, true, true, false, false, false, false, false, false, false, false, false, false, false, false, false, false, false, false, false, false, false, false, false, false, false, false, false, false, false, false, false, false] rfl rfl (one_of HT_.out (by kernel_rfl)) (by decide) (fun K hK => ?_)
          refine goes_ Try.func10 (by kernel_rfl) rfl #[.agg #[.int .i64 t263, .int .i64 t264, .int .i64 t265, .slice Ao43 t266.length co43, .slice Ao44 t269.length co44]] (by rfl) rfl rfl (by (try simp only [List.map_toArray, List.map_cons, List.map_nil]); first | done | rfl | (simp only [List.length_drop, List.length_take]; rfl)) ?_
          with_reducible refine (capnpref10_Valid.calls kj1 t263 t264 t265 _ _ t266 _ _ t269 true _ ?side1 ?side2 ?side3 ?side4 A25.out).mono ?_
          (case side1 => repeat (first | exact (Kd.R_reads' HO268.out).2.2 | (with_reducible refine Kd.C_alloc ?_ _) | (with_reducible refine Kd.C_drewN ?_ _) | (with_reducible refine Kd.C_drew ?_)))
          (case side2 => exact (Kd.R_reads' HO268.out).2.1)
          (case side3 => repeat (first | exact (Kd.R_reads' HO271.out).2.2 | (with_reducible refine Kd.C_alloc ?_ _) | (with_reducible refine Kd.C_drewN ?_ _) | (with_reducible refine Kd.C_drew ?_)))
          (case side4 => exact (Kd.R_reads' HO271.out).2.1)
          rintro e w51 ⟨rfl, hb⟩
          refine ⟨_, rfl, ?_⟩
          have n0_ := Aside0.mk (Kd.R_below (by (with_reducible repeat (first | apply Kd.R_alloc | apply Kd.R_drewN | apply Kd.R_drew)); exact HO268.out) hb)
          have n1_ := Aside0.mk (Kd.R_below (by (with_reducible repeat (first | apply Kd.R_alloc | apply Kd.R_drewN | apply Kd.R_drew)); exact HO271.out) hb)
          have n2_ := Aside0.mk (Kd.R_below (by (with_reducible repeat (first | apply Kd.R_alloc | apply Kd.R_drewN | apply Kd.R_drew)); exact HO278.out) hb)
          have n3_ := Aside0.mk (Kd.R_below (by (with_reducible repeat (first | apply Kd.R_alloc | apply Kd.R_drewN | apply Kd.R_drew)); exact HO281.out) hb)
          have n4_ := Aside0.mk (blk_below (g := gb258) (o := .cells #[.int .i64 a0_0, .int .i64 a0_1, .int .i64 a0_2, .slice A0_3 l0_3.length c0_3, .slice A0_4 l0_4.length c0_4] 25 (0, 0)) (by (with_reducible repeat (first | refine blk_drewN ?_ _ | refine blk_drew ?_ | refine blk_alloc ?_ _)); exact BK258.out) hb)
          have n5_ := Aside0.mk (blk_below (g := gb272) (o := .cells #[.int .i64 t263, .int .i64 t264, .int .i64 t265, .slice Ao43 t266.length co43, .slice Ao44 t269.length co44] 25 (0, 0)) (by (with_reducible repeat (first | refine blk_drewN ?_ _ | refine blk_drew ?_ | refine blk_alloc ?_ _)); exact BK272.out) hb)
          have n6_ := Aside0.mk (below_step (by repeat (first | (with_reducible first | exact HB.out | apply below_alloc | apply pw_below_drewN | apply below_drew1 | refine below_set ?_ GE258.out | refine below_set ?_ GE272.out) | exact HB.out)) hb)
          clear HO268
          clear HO271
          clear HO278
          clear HO281
          clear BK258
          clear BK272
          clear HB
          have HO268 := n0_
          have HO271 := n1_
          have HO278 := n2_
          have HO281 := n3_
          have BK258 := n4_
          have BK272 := n5_
          have HB := n6_
          clear n0_ n1_ n2_ n3_ n4_ n5_ n6_
          (try clear hb)
          (try clear hb2)
          (try clear hk)
          (try clear hi)
          refine hK.out _ _ ⟨(blk_cell BK272.out 0).trans rfl, (blk_cell BK272.out 1).trans rfl, (blk_cell BK272.out 2).trans rfl, (blk_cell BK272.out 3).trans rfl, (blk_cell BK272.out 4).trans rfl, (blk_cell BK258.out 0).trans rfl, (blk_cell BK258.out 1).trans rfl, (blk_cell BK258.out 2).trans rfl, (blk_cell BK258.out 3).trans rfl, (blk_cell BK258.out 4).trans rfl⟩ (fun hHeld => ?_)
          clear hK K
          refine norm_ (a' := ?_) ?_ ?_
          rotate_left
          ·show Act.put _ (some 25) _ = _
           simp only [Act.put, List.setIfInBounds_toArray, List.set_cons_zero, List.set_cons_succ, i64_w, i32_w]
           rfl
          refine pure_ (i := 7) (N := some 26) (v := ?_) (a' := ?_) #[true, true, true, true, true, true, true, true, false, false, false, false, false, false, false, false, false, false, false, false, false, false, false, false, false, false, false, false, false, false, false, false, false, false, false, false, false] rfl rfl (any_of HT_.out (by kernel_rfl)) (fun _ _ _ h => h) (Or.inl ⟨by rfl, ?_⟩) ?_ ?_
          rotate_left
          ·intro w'
           go_simp
           with_reducible rfl
          rotate_left
          ·simp only [Act.put, List.setIfInBounds_toArray, List.set_cons_zero, List.set_cons_succ, i64_w, i32_w]
           rfl
          refine pure_ (i := 8) (N := some 27) (v := ?_) (a' := ?_) #[true, true, true, true, true, true, true, true, true, false, false, false, false, false, false, false, false, false, false, false, false, false, false, false, false, false, false, false, false, false, false, false, false, false, false, false, false] rfl rfl (any_of HT_.out (by kernel_rfl)) (fun _ _ _ h => h) (Or.inl ⟨by rfl, ?_⟩) ?_ ?_
          rotate_left
          ·intro w'
           go_simp
           with_reducible rfl
          rotate_left
          ·simp only [Act.put, List.setIfInBounds_toArray, List.set_cons_zero, List.set_cons_succ, i64_w, i32_w]
           rfl
          refine take_ (i := 9) (N := some 28) (v := ?_) (a' := ?_) #[true, true, true, true, true, true, true, true, true, true, false, false, false, false, false, false, false, false, false, false, false, false, false, false, false, false, false, false, false, false, false, false, false, false, false, false, false] rfl rfl (take_ofW HT_.out HW_.out (by kernel_rfl)) (fun _ _ _ h => h) (Or.inl ⟨by rfl, ?_⟩) hHeld ?_ ?_
          rotate_left
          ·rintro w' ⟨s0, s1, s2, s3, s4, s5, s6, s7, s8, s9⟩
           go_simp
           with_reducible rfl
          rotate_left
          ·simp only [Act.put, List.setIfInBounds_toArray, List.set_cons_zero, List.set_cons_succ, i64_w, i32_w]
           rfl
          refine one_ (i := 10) (N := some 29) #[true, true, true, true, true, true, true, true, true, true, true, false, false, false, false, false, false, false, false, false, false, false, false, false, false, false, false, false, false, false, false, false, false, false, false, false, false] rfl rfl (one_of HT_.out (by kernel_rfl)) (by decide) (fun K hK => ?_)
          refine goes_ Try.func20 (by kernel_rfl) rfl #[.agg #[.int .i64 t263, .int .i64 t264, .int .i64 t265, .slice Ao43 t266.length co43, .slice Ao44 t269.length co44]] (by rfl) rfl rfl (by (try simp only [List.map_toArray, List.map_cons, List.map_nil]); first | done | rfl | (simp only [List.length_drop, List.length_take]; rfl)) ?_
          with_reducible refine (capnpref11_Trimmed.calls kj1 t263 t264 t265 _ _ t266 _ _ t269 true _ ?side1 ?side2 ?side3 ?side4 A27.out).mono ?_
          (case side1 => repeat (first | exact (Kd.R_reads' HO268.out).2.2 | (with_reducible refine Kd.C_alloc ?_ _) | (with_reducible refine Kd.C_drewN ?_ _) | (with_reducible refine Kd.C_drew ?_)))
          (case side2 => exact (Kd.R_reads' HO268.out).2.1)
          (case side3 => repeat (first | exact (Kd.R_reads' HO271.out).2.2 | (with_reducible refine Kd.C_alloc ?_ _) | (with_reducible refine Kd.C_drewN ?_ _) | (with_reducible refine Kd.C_drew ?_)))
          (case side4 => exact (Kd.R_reads' HO271.out).2.1)
          rintro e w52 ⟨rfl, hb⟩
          refine ⟨_, rfl, ?_⟩
          have n0_ := Aside0.mk (Kd.R_below (by (with_reducible repeat (first | apply Kd.R_alloc | apply Kd.R_drewN | apply Kd.R_drew)); exact HO268.out) hb)
          have n1_ := Aside0.mk (Kd.R_below (by (with_reducible repeat (first | apply Kd.R_alloc | apply Kd.R_drewN | apply Kd.R_drew)); exact HO271.out) hb)
          have n2_ := Aside0.mk (Kd.R_below (by (with_reducible repeat (first | apply Kd.R_alloc | apply Kd.R_drewN | apply Kd.R_drew)); exact HO278.out) hb)
          have n3_ := Aside0.mk (Kd.R_below (by (with_reducible repeat (first | apply Kd.R_alloc | apply Kd.R_drewN | apply Kd.R_drew)); exact HO281.out) hb)
          have n4_ := Aside0.mk (blk_below (g := gb258) (o := .cells #[.int .i64 a0_0, .int .i64 a0_1, .int .i64 a0_2, .slice A0_3 l0_3.length c0_3, .slice A0_4 l0_4.length c0_4] 25 (0, 0)) (by (with_reducible repeat (first | refine blk_drewN ?_ _ | refine blk_drew ?_ | refine blk_alloc ?_ _)); exact BK258.out) hb)
          have n5_ := Aside0.mk (blk_below (g := gb272) (o := .cells #[.int .i64 t263, .int .i64 t264, .int .i64 t265, .slice Ao43 t266.length co43, .slice Ao44 t269.length co44] 25 (0, 0)) (by (with_reducible repeat (first | refine blk_drewN ?_ _ | refine blk_drew ?_ | refine blk_alloc ?_ _)); exact BK272.out) hb)
          have n6_ := Aside0.mk (below_step (by repeat (first | (with_reducible first | exact HB.out | apply below_alloc | apply pw_below_drewN | apply below_drew1 | refine below_set ?_ GE258.out | refine below_set ?_ GE272.out) | exact HB.out)) hb)
          clear HO268
          clear HO271
          clear HO278
          clear HO281
          clear BK258
          clear BK272
          clear HB
          have HO268 := n0_
          have HO271 := n1_
          have HO278 := n2_
          have HO281 := n3_
          have BK258 := n4_
          have BK272 := n5_
          have HB := n6_
          clear n0_ n1_ n2_ n3_ n4_ n5_ n6_
          (try clear hb)
          (try clear hb2)
          (try clear hk)
          (try clear hi)
          refine hK.out _ _ ⟨(blk_cell BK272.out 0).trans rfl, (blk_cell BK272.out 1).trans rfl, (blk_cell BK272.out 2).trans rfl, (blk_cell BK272.out 3).trans rfl, (blk_cell BK272.out 4).trans rfl, (blk_cell BK258.out 0).trans rfl, (blk_cell BK258.out 1).trans rfl, (blk_cell BK258.out 2).trans rfl, (blk_cell BK258.out 3).trans rfl, (blk_cell BK258.out 4).trans rfl⟩ (fun hHeld => ?_)
          clear hK K
          refine norm_ (a' := ?_) ?_ ?_
          rotate_left
          ·show Act.put _ (some 29) _ = _
           simp only [Act.put, List.setIfInBounds_toArray, List.set_cons_zero, List.set_cons_succ, i64_w, i32_w]
           rfl
          refine pure_ (i := 11) (N := some 30) (v := ?_) (a' := ?_) #[true, true, true, true, true, true, true, true, true, true, true, true, false, false, false, false, false, false, false, false, false, false, false, false, false, false, false, false, false, false, false, false, false, false, false, false, false] rfl rfl (any_of HT_.out (by kernel_rfl)) (fun _ _ _ h => h) (Or.inl ⟨by rfl, ?_⟩) ?_ ?_
          rotate_left
          ·intro w'
           go_simp
           with_reducible rfl
          rotate_left
          ·simp only [Act.put, List.setIfInBounds_toArray, List.set_cons_zero, List.set_cons_succ, i64_w, i32_w]
           rfl
          refine pure_ (i := 12) (N := some 31) (v := ?_) (a' := ?_) #[true, true, true, true, true, true, true, true, true, true, true, true, true, false, false, false, false, false, false, false, false, false, false, false, false, false, false, false, false, false, false, false, false, false, false, false, false] rfl rfl (any_of HT_.out (by kernel_rfl)) (fun _ _ _ h => h) (Or.inl ⟨by rfl, ?_⟩) ?_ ?_
          rotate_left
          ·intro w'
           go_simp
           with_reducible rfl
          rotate_left
          ·simp only [Act.put, List.setIfInBounds_toArray, List.set_cons_zero, List.set_cons_succ, i64_w, i32_w]
           rfl
          refine take_ (i := 13) (N := some 32) (v := ?_) (a' := ?_) #[true, true, true, true, true, true, true, true, true, true, true, true, true, true, false, false, false, false, false, false, false, false, false, false, false, false, false, false, false, false, false, false, false, false, false, false, false] rfl rfl (take_ofW HT_.out HW_.out (by kernel_rfl)) (fun _ _ _ h => h) (Or.inl ⟨by rfl, ?_⟩) hHeld ?_ ?_
          rotate_left
          ·rintro w' ⟨s0, s1, s2, s3, s4, s5, s6, s7, s8, s9⟩
           go_simp
           with_reducible rfl
          rotate_left
          ·simp only [Act.put, List.setIfInBounds_toArray, List.set_cons_zero, List.set_cons_succ, i64_w, i32_w]
           rfl
          refine take_ (i := 15) (N := some 34) (v := ?_) (a' := ?_) #[true, true, true, true, true, true, true, true, true, true, true, true, true, true, false, true, false, false, false, false, false, false, false, false, false, false, false, false, false, false, false, false, false, false, false, false, false] rfl rfl (take_ofW HT_.out HW_.out (by kernel_rfl)) (fun _ _ _ h => h) (Or.inl ⟨by rfl, ?_⟩) hHeld ?_ ?_
          rotate_left
          ·rintro w' ⟨s0, s1, s2, s3, s4, s5, s6, s7, s8, s9⟩
           go_simp
           with_reducible rfl
          rotate_left
          ·simp only [Act.put, List.setIfInBounds_toArray, List.set_cons_zero, List.set_cons_succ, i64_w, i32_w]
           rfl
          refine one_ (i := 14) (N := some 33) #[true, true, true, true, true, true, true, true, true, true, true, true, true, true, true, true, false, false, false, false, false, false, false, false, false, false, false, false, false, false, false, false, false, false, false, false, false] rfl rfl (one_of HT_.out (by kernel_rfl)) (by decide) (fun K hK => ?_)
          refine goes_ Try.func21 (by kernel_rfl) rfl #[.agg #[.int .i64 t263, .int .i64 t264, .int .i64 t265, .slice Ao43 t266.length co43, .slice Ao44 t269.length co44]] (by rfl) rfl rfl (by (try simp only [List.map_toArray, List.map_cons, List.map_nil]); first | done | rfl | (simp only [List.length_drop, List.length_take]; rfl)) ?_
          with_reducible refine (capnpref10_Depth.calls kj1 t263 t264 t265 _ _ t266 _ _ t269 t285 _ ?side1 ?side2 ?side3 ?side4 A29.out).mono ?_
          (case side1 => repeat (first | exact (Kd.R_reads' HO268.out).2.2 | (with_reducible refine Kd.C_alloc ?_ _) | (with_reducible refine Kd.C_drewN ?_ _) | (with_reducible refine Kd.C_drew ?_)))
          (case side2 => exact (Kd.R_reads' HO268.out).2.1)
          (case side3 => repeat (first | exact (Kd.R_reads' HO271.out).2.2 | (with_reducible refine Kd.C_alloc ?_ _) | (with_reducible refine Kd.C_drewN ?_ _) | (with_reducible refine Kd.C_drew ?_)))
          (case side4 => exact (Kd.R_reads' HO271.out).2.1)
          rintro e w53 ⟨rfl, hb⟩
          refine ⟨_, rfl, ?_⟩
          have n0_ := Aside0.mk (Kd.R_below (by (with_reducible repeat (first | apply Kd.R_alloc | apply Kd.R_drewN | apply Kd.R_drew)); exact HO268.out) hb)
          have n1_ := Aside0.mk (Kd.R_below (by (with_reducible repeat (first | apply Kd.R_alloc | apply Kd.R_drewN | apply Kd.R_drew)); exact HO271.out) hb)
          have n2_ := Aside0.mk (Kd.R_below (by (with_reducible repeat (first | apply Kd.R_alloc | apply Kd.R_drewN | apply Kd.R_drew)); exact HO278.out) hb)
          have n3_ := Aside0.mk (Kd.R_below (by (with_reducible repeat (first | apply Kd.R_alloc | apply Kd.R_drewN | apply Kd.R_drew)); exact HO281.out) hb)
          have n4_ := Aside0.mk (blk_below (g := gb258) (o := .cells #[.int .i64 a0_0, .int .i64 a0_1, .int .i64 a0_2, .slice A0_3 l0_3.length c0_3, .slice A0_4 l0_4.length c0_4] 25 (0, 0)) (by (with_reducible repeat (first | refine blk_drewN ?_ _ | refine blk_drew ?_ | refine blk_alloc ?_ _)); exact BK258.out) hb)
          have n5_ := Aside0.mk (blk_below (g := gb272) (o := .cells #[.int .i64 t263, .int .i64 t264, .int .i64 t265, .slice Ao43 t266.length co43, .slice Ao44 t269.length co44] 25 (0, 0)) (by (with_reducible repeat (first | refine blk_drewN ?_ _ | refine blk_drew ?_ | refine blk_alloc ?_ _)); exact BK272.out) hb)
          have n6_ := Aside0.mk (below_step (by repeat (first | (with_reducible first | exact HB.out | apply below_alloc | apply pw_below_drewN | apply below_drew1 | refine below_set ?_ GE258.out | refine below_set ?_ GE272.out) | exact HB.out)) hb)
          clear HO268
          clear HO271
          clear HO278
          clear HO281
          clear BK258
          clear BK272
          clear HB
          have HO268 := n0_
          have HO271 := n1_
          have HO278 := n2_
          have HO281 := n3_
          have BK258 := n4_
          have BK272 := n5_
          have HB := n6_
          clear n0_ n1_ n2_ n3_ n4_ n5_ n6_
          (try clear hb)
          (try clear hb2)
          (try clear hk)
          (try clear hi)
          refine hK.out _ _ ⟨(blk_cell BK272.out 0).trans rfl, (blk_cell BK272.out 1).trans rfl, (blk_cell BK272.out 2).trans rfl, (blk_cell BK272.out 3).trans rfl, (blk_cell BK272.out 4).trans rfl, (blk_cell BK258.out 0).trans rfl, (blk_cell BK258.out 1).trans rfl, (blk_cell BK258.out 2).trans rfl, (blk_cell BK258.out 3).trans rfl, (blk_cell BK258.out 4).trans rfl⟩ (fun hHeld => ?_)
          clear hK K
          refine norm_ (a' := ?_) ?_ ?_
          rotate_left
          ·show Act.put _ (some 33) _ = _
           simp only [Act.put, List.setIfInBounds_toArray, List.set_cons_zero, List.set_cons_succ, i64_w, i32_w]
           rfl
          refine one_ (i := 16) (N := some 35) #[true, true, true, true, true, true, true, true, true, true, true, true, true, true, true, true, true, false, false, false, false, false, false, false, false, false, false, false, false, false, false, false, false, false, false, false, false] rfl rfl (one_of HT_.out (by kernel_rfl)) (by decide) (fun K hK => ?_)
          refine goes_ Try.func21 (by kernel_rfl) rfl #[.agg #[.int .i64 a0_0, .int .i64 a0_1, .int .i64 a0_2, .slice A0_3 l0_3.length c0_3, .slice A0_4 l0_4.length c0_4]] (by rfl) rfl rfl (by (try simp only [List.map_toArray, List.map_cons, List.map_nil]); first | done | rfl | (simp only [List.length_drop, List.length_take]; rfl)) ?_
          with_reducible refine (capnpref10_Depth.calls kj1 a0_0 a0_1 a0_2 _ _ l0_3 _ _ l0_4 t286 _ ?side1 ?side2 ?side3 ?side4 A30.out).mono ?_
          (case side1 => repeat (first | exact (Kd.C_below HR0_3.out HB.out) | (with_reducible refine Kd.C_alloc ?_ _) | (with_reducible refine Kd.C_drewN ?_ _) | (with_reducible refine Kd.C_drew ?_)))
          (case side2 => exact HC0_3.out)
          (case side3 => repeat (first | exact (Kd.C_below HR0_4.out HB.out) | (with_reducible refine Kd.C_alloc ?_ _) | (with_reducible refine Kd.C_drewN ?_ _) | (with_reducible refine Kd.C_drew ?_)))
          (case side4 => exact HC0_4.out)
          rintro e w54 ⟨rfl, hb⟩
          refine ⟨_, rfl, ?_⟩
          have n0_ := Aside0.mk (Kd.R_below (by (with_reducible repeat (first | apply Kd.R_alloc | apply Kd.R_drewN | apply Kd.R_drew)); exact HO268.out) hb)
          have n1_ := Aside0.mk (Kd.R_below (by (with_reducible repeat (first | apply Kd.R_alloc | apply Kd.R_drewN | apply Kd.R_drew)); exact HO271.out) hb)
          have n2_ := Aside0.mk (Kd.R_below (by (with_reducible repeat (first | apply Kd.R_alloc | apply Kd.R_drewN | apply Kd.R_drew)); exact HO278.out) hb)
          have n3_ := Aside0.mk (Kd.R_below (by (with_reducible repeat (first | apply Kd.R_alloc | apply Kd.R_drewN | apply Kd.R_drew)); exact HO281.out) hb)
          have n4_ := Aside0.mk (blk_below (g := gb258) (o := .cells #[.int .i64 a0_0, .int .i64 a0_1, .int .i64 a0_2, .slice A0_3 l0_3.length c0_3, .slice A0_4 l0_4.length c0_4] 25 (0, 0)) (by (with_reducible repeat (first | refine blk_drewN ?_ _ | refine blk_drew ?_ | refine blk_alloc ?_ _)); exact BK258.out) hb)
          have n5_ := Aside0.mk (blk_below (g := gb272) (o := .cells #[.int .i64 t263, .int .i64 t264, .int .i64 t265, .slice Ao43 t266.length co43, .slice Ao44 t269.length co44] 25 (0, 0)) (by (with_reducible repeat (first | refine blk_drewN ?_ _ | refine blk_drew ?_ | refine blk_alloc ?_ _)); exact BK272.out) hb)
          have n6_ := Aside0.mk (below_step (by repeat (first | (with_reducible first | exact HB.out | apply below_alloc | apply pw_below_drewN | apply below_drew1 | refine below_set ?_ GE258.out | refine below_set ?_ GE272.out) | exact HB.out)) hb)
          clear HO268
          clear HO271
          clear HO278
          clear HO281
          clear BK258
          clear BK272
          clear HB
          have HO268 := n0_
          have HO271 := n1_
          have HO278 := n2_
          have HO281 := n3_
          have BK258 := n4_
          have BK272 := n5_
          have HB := n6_
          clear n0_ n1_ n2_ n3_ n4_ n5_ n6_
          (try clear hb)
          (try clear hb2)
          (try clear hk)
          (try clear hi)
          refine hK.out _ _ ⟨(blk_cell BK272.out 0).trans rfl, (blk_cell BK272.out 1).trans rfl, (blk_cell BK272.out 2).trans rfl, (blk_cell BK272.out 3).trans rfl, (blk_cell BK272.out 4).trans rfl, (blk_cell BK258.out 0).trans rfl, (blk_cell BK258.out 1).trans rfl, (blk_cell BK258.out 2).trans rfl, (blk_cell BK258.out 3).trans rfl, (blk_cell BK258.out 4).trans rfl⟩ (fun hHeld => ?_)
          clear hK K
          refine norm_ (a' := ?_) ?_ ?_
          rotate_left
          ·show Act.put _ (some 35) _ = _
           simp only [Act.put, List.setIfInBounds_toArray, List.set_cons_zero, List.set_cons_succ, i64_w, i32_w]
           rfl
          refine pure_ (i := 17) (N := some 36) (v := ?_) (a' := ?_) #[true, true, true, true, true, true, true, true, true, true, true, true, true, true, true, true, true, true, false, false, false, false, false, false, false, false, false, false, false, false, false, false, false, false, false, false, false] rfl rfl (any_of HT_.out (by kernel_rfl)) (fun _ _ _ h => h) (Or.inl ⟨by rfl, ?_⟩) ?_ ?_
          rotate_left
          ·intro w'
           go_simp
           with_reducible rfl
          rotate_left
          ·simp only [Act.put, List.setIfInBounds_toArray, List.set_cons_zero, List.set_cons_succ, i64_w, i32_w]
           rfl
          refine pure_ (i := 18) (N := some 37) (v := ?_) (a' := ?_) #[true, true, true, true, true, true, true, true, true, true, true, true, true, true, true, true, true, true, true, false, false, false, false, false, false, false, false, false, false, false, false, false, false, false, false, false, false] rfl rfl (any_of HT_.out (by kernel_rfl)) (fun _ _ _ h => h) (Or.inl ⟨by rfl, ?_⟩) ?_ ?_
          rotate_left
          ·intro w'
           go_simp
           with_reducible rfl
          rotate_left
          ·simp only [Act.put, List.setIfInBounds_toArray, List.set_cons_zero, List.set_cons_succ, i64_w, i32_w]
           rfl
          refine pure_ (i := 19) (N := some 38) (v := ?_) (a' := ?_) #[true, true, true, true, true, true, true, true, true, true, true, true, true, true, true, true, true, true, true, true, false, false, false, false, false, false, false, false, false, false, false, false, false, false, false, false, false] rfl rfl (any_of HT_.out (by kernel_rfl)) (fun _ _ _ h => h) (Or.inl ⟨by rfl, ?_⟩) ?_ ?_
          rotate_left
          ·intro w'
           go_simp
           with_reducible rfl
          rotate_left
          ·simp only [Act.put, List.setIfInBounds_toArray, List.set_cons_zero, List.set_cons_succ, i64_w, i32_w]
           rfl
          refine take_ (i := 20) (N := some 39) (v := ?_) (a' := ?_) #[true, true, true, true, true, true, true, true, true, true, true, true, true, true, true, true, true, true, true, true, true, false, false, false, false, false, false, false, false, false, false, false, false, false, false, false, false] rfl rfl (take_ofW HT_.out HW_.out (by kernel_rfl)) (fun _ _ _ h => h) (Or.inl ⟨by rfl, ?_⟩) hHeld ?_ ?_
          rotate_left
          ·rintro w' ⟨s0, s1, s2, s3, s4, s5, s6, s7, s8, s9⟩
           go_simp
           with_reducible rfl
          rotate_left
          ·simp only [Act.put, List.setIfInBounds_toArray, List.set_cons_zero, List.set_cons_succ, i64_w, i32_w]
           rfl
          refine take_ (i := 22) (N := some 41) (v := ?_) (a' := ?_) #[true, true, true, true, true, true, true, true, true, true, true, true, true, true, true, true, true, true, true, true, true, false, true, false, false, false, false, false, false, false, false, false, false, false, false, false, false] rfl rfl (take_ofW HT_.out HW_.out (by kernel_rfl)) (fun _ _ _ h => h) (Or.inl ⟨by rfl, ?_⟩) hHeld ?_ ?_
          rotate_left
          ·rintro w' ⟨s0, s1, s2, s3, s4, s5, s6, s7, s8, s9⟩
           go_simp
           with_reducible rfl
          rotate_left
          ·simp only [Act.put, List.setIfInBounds_toArray, List.set_cons_zero, List.set_cons_succ, i64_w, i32_w]
           rfl
          refine one_ (i := 21) (N := some 40) #[true, true, true, true, true, true, true, true, true, true, true, true, true, true, true, true, true, true, true, true, true, true, true, false, false, false, false, false, false, false, false, false, false, false, false, false, false] rfl rfl (one_of HT_.out (by kernel_rfl)) (by decide) (fun K hK => ?_)
          refine goes_ Try.func22 (by kernel_rfl) rfl #[.agg #[.int .i64 t263, .int .i64 t264, .int .i64 t265, .slice Ao43 t266.length co43, .slice Ao44 t269.length co44]] (by rfl) rfl rfl (by (try simp only [List.map_toArray, List.map_cons, List.map_nil]); first | done | rfl | (simp only [List.length_drop, List.length_take]; rfl)) ?_
          with_reducible refine (capnpref10_Objects.calls kj1 t263 t264 t265 _ _ t266 _ _ t269 t287 _ ?side1 ?side2 ?side3 ?side4 A32.out).mono ?_
          (case side1 => repeat (first | exact (Kd.R_reads' HO268.out).2.2 | (with_reducible refine Kd.C_alloc ?_ _) | (with_reducible refine Kd.C_drewN ?_ _) | (with_reducible refine Kd.C_drew ?_)))
          (case side2 => exact (Kd.R_reads' HO268.out).2.1)
          (case side3 => repeat (first | exact (Kd.R_reads' HO271.out).2.2 | (with_reducible refine Kd.C_alloc ?_ _) | (with_reducible refine Kd.C_drewN ?_ _) | (with_reducible refine Kd.C_drew ?_)))
          (case side4 => exact (Kd.R_reads' HO271.out).2.1)
          rintro e w55 ⟨rfl, hb⟩
          refine ⟨_, rfl, ?_⟩
          have n0_ := Aside0.mk (Kd.R_below (by (with_reducible repeat (first | apply Kd.R_alloc | apply Kd.R_drewN | apply Kd.R_drew)); exact HO268.out) hb)
          have n1_ := Aside0.mk (Kd.R_below (by (with_reducible repeat (first | apply Kd.R_alloc | apply Kd.R_drewN | apply Kd.R_drew)); exact HO271.out) hb)
          have n2_ := Aside0.mk (Kd.R_below (by (with_reducible repeat (first | apply Kd.R_alloc | apply Kd.R_drewN | apply Kd.R_drew)); exact HO278.out) hb)
          have n3_ := Aside0.mk (Kd.R_below (by (with_reducible repeat (first | apply Kd.R_alloc | apply Kd.R_drewN | apply Kd.R_drew)); exact HO281.out) hb)
          have n4_ := Aside0.mk (blk_below (g := gb258) (o := .cells #[.int .i64 a0_0, .int .i64 a0_1, .int .i64 a0_2, .slice A0_3 l0_3.length c0_3, .slice A0_4 l0_4.length c0_4] 25 (0, 0)) (by (with_reducible repeat (first | refine blk_drewN ?_ _ | refine blk_drew ?_ | refine blk_alloc ?_ _)); exact BK258.out) hb)
          have n5_ := Aside0.mk (blk_below (g := gb272) (o := .cells #[.int .i64 t263, .int .i64 t264, .int .i64 t265, .slice Ao43 t266.length co43, .slice Ao44 t269.length co44] 25 (0, 0)) (by (with_reducible repeat (first | refine blk_drewN ?_ _ | refine blk_drew ?_ | refine blk_alloc ?_ _)); exact BK272.out) hb)
          have n6_ := Aside0.mk (below_step (by repeat (first | (with_reducible first | exact HB.out | apply below_alloc | apply pw_below_drewN | apply below_drew1 | refine below_set ?_ GE258.out | refine below_set ?_ GE272.out) | exact HB.out)) hb)
          clear HO268
          clear HO271
          clear HO278
          clear HO281
          clear BK258
          clear BK272
          clear HB
          have HO268 := n0_
          have HO271 := n1_
          have HO278 := n2_
          have HO281 := n3_
          have BK258 := n4_
          have BK272 := n5_
          have HB := n6_
          clear n0_ n1_ n2_ n3_ n4_ n5_ n6_
          (try clear hb)
          (try clear hb2)
          (try clear hk)
          (try clear hi)
          refine hK.out _ _ ⟨(blk_cell BK272.out 0).trans rfl, (blk_cell BK272.out 1).trans rfl, (blk_cell BK272.out 2).trans rfl, (blk_cell BK272.out 3).trans rfl, (blk_cell BK272.out 4).trans rfl, (blk_cell BK258.out 0).trans rfl, (blk_cell BK258.out 1).trans rfl, (blk_cell BK258.out 2).trans rfl, (blk_cell BK258.out 3).trans rfl, (blk_cell BK258.out 4).trans rfl⟩ (fun hHeld => ?_)
          clear hK K
          refine norm_ (a' := ?_) ?_ ?_
          rotate_left
          ·show Act.put _ (some 40) _ = _
           simp only [Act.put, List.setIfInBounds_toArray, List.set_cons_zero, List.set_cons_succ, i64_w, i32_w]
           rfl
          refine one_ (i := 23) (N := some 42) #[true, true, true, true, true, true, true, true, true, true, true, true, true, true, true, true, true, true, true, true, true, true, true, true, false, false, false, false, false, false, false, false, false, false, false, false, false] rfl rfl (one_of HT_.out (by kernel_rfl)) (by decide) (fun K hK => ?_)
          refine goes_ Try.func22 (by kernel_rfl) rfl #[.agg #[.int .i64 a0_0, .int .i64 a0_1, .int .i64 a0_2, .slice A0_3 l0_3.length c0_3, .slice A0_4 l0_4.length c0_4]] (by rfl) rfl rfl (by (try simp only [List.map_toArray, List.map_cons, List.map_nil]); first | done | rfl | (simp only [List.length_drop, List.length_take]; rfl)) ?_
          with_reducible refine (capnpref10_Objects.calls kj1 a0_0 a0_1 a0_2 _ _ l0_3 _ _ l0_4 t288 _ ?side1 ?side2 ?side3 ?side4 A33.out).mono ?_
          (case side1 => repeat (first | exact (Kd.C_below HR0_3.out HB.out) | (with_reducible refine Kd.C_alloc ?_ _) | (with_reducible refine Kd.C_drewN ?_ _) | (with_reducible refine Kd.C_drew ?_)))
          (case side2 => exact HC0_3.out)
          (case side3 => repeat (first | exact (Kd.C_below HR0_4.out HB.out) | (with_reducible refine Kd.C_alloc ?_ _) | (with_reducible refine Kd.C_drewN ?_ _) | (with_reducible refine Kd.C_drew ?_)))
          (case side4 => exact HC0_4.out)
          rintro e w56 ⟨rfl, hb⟩
          refine ⟨_, rfl, ?_⟩
          have n0_ := Aside0.mk (Kd.R_below (by (with_reducible repeat (first | apply Kd.R_alloc | apply Kd.R_drewN | apply Kd.R_drew)); exact HO268.out) hb)
          have n1_ := Aside0.mk (Kd.R_below (by (with_reducible repeat (first | apply Kd.R_alloc | apply Kd.R_drewN | apply Kd.R_drew)); exact HO271.out) hb)
          have n2_ := Aside0.mk (Kd.R_below (by (with_reducible repeat (first | apply Kd.R_alloc | apply Kd.R_drewN | apply Kd.R_drew)); exact HO278.out) hb)
          have n3_ := Aside0.mk (Kd.R_below (by (with_reducible repeat (first | apply Kd.R_alloc | apply Kd.R_drewN | apply Kd.R_drew)); exact HO281.out) hb)
          have n4_ := Aside0.mk (blk_below (g := gb258) (o := .cells #[.int .i64 a0_0, .int .i64 a0_1, .int .i64 a0_2, .slice A0_3 l0_3.length c0_3, .slice A0_4 l0_4.length c0_4] 25 (0, 0)) (by (with_reducible repeat (first | refine blk_drewN ?_ _ | refine blk_drew ?_ | refine blk_alloc ?_ _)); exact BK258.out) hb)
          have n5_ := Aside0.mk (blk_below (g := gb272) (o := .cells #[.int .i64 t263, .int .i64 t264, .int .i64 t265, .slice Ao43 t266.length co43, .slice Ao44 t269.length co44] 25 (0, 0)) (by (with_reducible repeat (first | refine blk_drewN ?_ _ | refine blk_drew ?_ | refine blk_alloc ?_ _)); exact BK272.out) hb)
          have n6_ := Aside0.mk (below_step (by repeat (first | (with_reducible first | exact HB.out | apply below_alloc | apply pw_below_drewN | apply below_drew1 | refine below_set ?_ GE258.out | refine below_set ?_ GE272.out) | exact HB.out)) hb)
          clear HO268
          clear HO271
          clear HO278
          clear HO281
          clear BK258
          clear BK272
          clear HB
          have HO268 := n0_
          have HO271 := n1_
          have HO278 := n2_
          have HO281 := n3_
          have BK258 := n4_
          have BK272 := n5_
          have HB := n6_
          clear n0_ n1_ n2_ n3_ n4_ n5_ n6_
          (try clear hb)
          (try clear hb2)
          (try clear hk)
          (try clear hi)
          refine hK.out _ _ ⟨(blk_cell BK272.out 0).trans rfl, (blk_cell BK272.out 1).trans rfl, (blk_cell BK272.out 2).trans rfl, (blk_cell BK272.out 3).trans rfl, (blk_cell BK272.out 4).trans rfl, (blk_cell BK258.out 0).trans rfl, (blk_cell BK258.out 1).trans rfl, (blk_cell BK258.out 2).trans rfl, (blk_cell BK258.out 3).trans rfl, (blk_cell BK258.out 4).trans rfl⟩ (fun hHeld => ?_)
          clear hK K
          refine norm_ (a' := ?_) ?_ ?_
          rotate_left
          ·show Act.put _ (some 42) _ = _
           simp only [Act.put, List.setIfInBounds_toArray, List.set_cons_zero, List.set_cons_succ, i64_w, i32_w]
           rfl
          refine pure_ (i := 24) (N := some 43) (v := ?_) (a' := ?_) #[true, true, true, true, true, true, true, true, true, true, true, true, true, true, true, true, true, true, true, true, true, true, true, true, true, false, false, false, false, false, false, false, false, false, false, false, false] rfl rfl (any_of HT_.out (by kernel_rfl)) (fun _ _ _ h => h) (Or.inl ⟨by rfl, ?_⟩) ?_ ?_
          rotate_left
          ·intro w'
           go_simp
           with_reducible rfl
          rotate_left
          ·simp only [Act.put, List.setIfInBounds_toArray, List.set_cons_zero, List.set_cons_succ, i64_w, i32_w]
           rfl
          refine pure_ (i := 25) (N := some 44) (v := ?_) (a' := ?_) #[true, true, true, true, true, true, true, true, true, true, true, true, true, true, true, true, true, true, true, true, true, true, true, true, true, true, false, false, false, false, false, false, false, false, false, false, false] rfl rfl (any_of HT_.out (by kernel_rfl)) (fun _ _ _ h => h) (Or.inl ⟨by rfl, ?_⟩) ?_ ?_
          rotate_left
          ·intro w'
           go_simp
           with_reducible rfl
          rotate_left
          ·simp only [Act.put, List.setIfInBounds_toArray, List.set_cons_zero, List.set_cons_succ, i64_w, i32_w]
           rfl
          refine pure_ (i := 26) (N := some 45) (v := ?_) (a' := ?_) #[true, true, true, true, true, true, true, true, true, true, true, true, true, true, true, true, true, true, true, true, true, true, true, true, true, true, true, false, false, false, false, false, false, false, false, false, false] rfl rfl (any_of HT_.out (by kernel_rfl)) (fun _ _ _ h => h) (Or.inl ⟨by rfl, ?_⟩) ?_ ?_
          rotate_left
          ·intro w'
           go_simp
           with_reducible rfl
          rotate_left
          ·simp only [Act.put, List.setIfInBounds_toArray, List.set_cons_zero, List.set_cons_succ, i64_w, i32_w]
           rfl
          refine take_ (i := 27) (N := some 46) (v := ?_) (a' := ?_) #[true, true, true, true, true, true, true, true, true, true, true, true, true, true, true, true, true, true, true, true, true, true, true, true, true, true, true, true, false, false, false, false, false, false, false, false, false] rfl rfl (take_ofW HT_.out HW_.out (by kernel_rfl)) (fun _ _ _ h => h) (Or.inl ⟨by rfl, ?_⟩) hHeld ?_ ?_
          rotate_left
          ·rintro w' ⟨s0, s1, s2, s3, s4, s5, s6, s7, s8, s9⟩
           go_simp
           with_reducible rfl
          rotate_left
          ·simp only [Act.put, List.setIfInBounds_toArray, List.set_cons_zero, List.set_cons_succ, i64_w, i32_w]
           rfl
          refine one_ (i := 28) (N := some 47) #[true, true, true, true, true, true, true, true, true, true, true, true, true, true, true, true, true, true, true, true, true, true, true, true, true, true, true, true, true, false, false, false, false, false, false, false, false] rfl rfl (one_of HT_.out (by kernel_rfl)) (by decide) (fun K hK => ?_)
          refine goes_ Try.func20 (by kernel_rfl) rfl #[.agg #[.int .i64 a0_0, .int .i64 a0_1, .int .i64 a0_2, .slice A0_3 l0_3.length c0_3, .slice A0_4 l0_4.length c0_4]] (by rfl) rfl rfl (by (try simp only [List.map_toArray, List.map_cons, List.map_nil]); first | done | rfl | (simp only [List.length_drop, List.length_take]; rfl)) ?_
          with_reducible refine (capnpref11_Trimmed.calls kj1 a0_0 a0_1 a0_2 _ _ l0_3 _ _ l0_4 true _ ?side1 ?side2 ?side3 ?side4 A35.out).mono ?_
          (case side1 => repeat (first | exact (Kd.C_below HR0_3.out HB.out) | (with_reducible refine Kd.C_alloc ?_ _) | (with_reducible refine Kd.C_drewN ?_ _) | (with_reducible refine Kd.C_drew ?_)))
          (case side2 => exact HC0_3.out)
          (case side3 => repeat (first | exact (Kd.C_below HR0_4.out HB.out) | (with_reducible refine Kd.C_alloc ?_ _) | (with_reducible refine Kd.C_drewN ?_ _) | (with_reducible refine Kd.C_drew ?_)))
          (case side4 => exact HC0_4.out)
          rintro e w57 ⟨rfl, hb⟩
          refine ⟨_, rfl, ?_⟩
          have n0_ := Aside0.mk (Kd.R_below (by (with_reducible repeat (first | apply Kd.R_alloc | apply Kd.R_drewN | apply Kd.R_drew)); exact HO268.out) hb)
          have n1_ := Aside0.mk (Kd.R_below (by (with_reducible repeat (first | apply Kd.R_alloc | apply Kd.R_drewN | apply Kd.R_drew)); exact HO271.out) hb)
          have n2_ := Aside0.mk (Kd.R_below (by (with_reducible repeat (first | apply Kd.R_alloc | apply Kd.R_drewN | apply Kd.R_drew)); exact HO278.out) hb)
          have n3_ := Aside0.mk (Kd.R_below (by (with_reducible repeat (first | apply Kd.R_alloc | apply Kd.R_drewN | apply Kd.R_drew)); exact HO281.out) hb)
          have n4_ := Aside0.mk (blk_below (g := gb258) (o := .cells #[.int .i64 a0_0, .int .i64 a0_1, .int .i64 a0_2, .slice A0_3 l0_3.length c0_3, .slice A0_4 l0_4.length c0_4] 25 (0, 0)) (by (with_reducible repeat (first | refine blk_drewN ?_ _ | refine blk_drew ?_ | refine blk_alloc ?_ _)); exact BK258.out) hb)
          have n5_ := Aside0.mk (blk_below (g := gb272) (o := .cells #[.int .i64 t263, .int .i64 t264, .int .i64 t265, .slice Ao43 t266.length co43, .slice Ao44 t269.length co44] 25 (0, 0)) (by (with_reducible repeat (first | refine blk_drewN ?_ _ | refine blk_drew ?_ | refine blk_alloc ?_ _)); exact BK272.out) hb)
          have n6_ := Aside0.mk (below_step (by repeat (first | (with_reducible first | exact HB.out | apply below_alloc | apply pw_below_drewN | apply below_drew1 | refine below_set ?_ GE258.out | refine below_set ?_ GE272.out) | exact HB.out)) hb)
          clear HO268
          clear HO271
          clear HO278
          clear HO281
          clear BK258
          clear BK272
          clear HB
          have HO268 := n0_
          have HO271 := n1_
          have HO278 := n2_
          have HO281 := n3_
          have BK258 := n4_
          have BK272 := n5_
          have HB := n6_
          clear n0_ n1_ n2_ n3_ n4_ n5_ n6_
          (try clear hb)
          (try clear hb2)
          (try clear hk)
          (try clear hi)
          refine hK.out _ _ ⟨(blk_cell BK272.out 0).trans rfl, (blk_cell BK272.out 1).trans rfl, (blk_cell BK272.out 2).trans rfl, (blk_cell BK272.out 3).trans rfl, (blk_cell BK272.out 4).trans rfl, (blk_cell BK258.out 0).trans rfl, (blk_cell BK258.out 1).trans rfl, (blk_cell BK258.out 2).trans rfl, (blk_cell BK258.out 3).trans rfl, (blk_cell BK258.out 4).trans rfl⟩ (fun hHeld => ?_)
          clear hK K
          refine norm_ (a' := ?_) ?_ ?_
          rotate_left
          ·show Act.put _ (some 47) _ = _
           simp only [Act.put, List.setIfInBounds_toArray, List.set_cons_zero, List.set_cons_succ, i64_w, i32_w]
           rfl
          refine pure_ (i := 29) (N := some 48) (v := ?_) (a' := ?_) #[true, true, true, true, true, true, true, true, true, true, true, true, true, true, true, true, true, true, true, true, true, true, true, true, true, true, true, true, true, true, false, false, false, false, false, false, false] rfl rfl (any_of HT_.out (by kernel_rfl)) (fun _ _ _ h => h) (Or.inl ⟨by rfl, ?_⟩) ?_ ?_
          rotate_left
          ·intro w'
           go_simp
           with_reducible rfl
          rotate_left
          ·simp only [Act.put, List.setIfInBounds_toArray, List.set_cons_zero, List.set_cons_succ, i64_w, i32_w]
           rfl
          refine pure_ (i := 30) (N := some 49) (v := ?_) (a' := ?_) #[true, true, true, true, true, true, true, true, true, true, true, true, true, true, true, true, true, true, true, true, true, true, true, true, true, true, true, true, true, true, true, false, false, false, false, false, false] rfl rfl (any_of HT_.out (by kernel_rfl)) (fun _ _ _ h => h) (Or.inl ⟨by rfl, ?_⟩) ?_ ?_
          rotate_left
          ·intro w'
           go_simp
           with_reducible rfl
          rotate_left
          ·simp only [Act.put, List.setIfInBounds_toArray, List.set_cons_zero, List.set_cons_succ, i64_w, i32_w]
           rfl
          refine take_ (i := 31) (N := some 50) (v := ?_) (a' := ?_) #[true, true, true, true, true, true, true, true, true, true, true, true, true, true, true, true, true, true, true, true, true, true, true, true, true, true, true, true, true, true, true, true, false, false, false, false, false] rfl rfl (take_ofW HT_.out HW_.out (by kernel_rfl)) (fun _ _ _ h => h) (Or.inl ⟨by rfl, ?_⟩) hHeld ?_ ?_
          rotate_left
          ·rintro w' ⟨s0, s1, s2, s3, s4, s5, s6, s7, s8, s9⟩
           go_simp
           with_reducible rfl
          rotate_left
          ·simp only [Act.put, List.setIfInBounds_toArray, List.set_cons_zero, List.set_cons_succ, i64_w, i32_w]
           rfl
          refine take_ (i := 32) (N := some 51) (v := ?_) (a' := ?_) #[true, true, true, true, true, true, true, true, true, true, true, true, true, true, true, true, true, true, true, true, true, true, true, true, true, true, true, true, true, true, true, true, true, false, false, false, false] rfl rfl (take_ofW HT_.out HW_.out (by kernel_rfl)) (fun _ _ _ h => h) (Or.inl ⟨by rfl, ?_⟩) hHeld ?_ ?_
          rotate_left
          ·rintro w' ⟨s0, s1, s2, s3, s4, s5, s6, s7, s8, s9⟩
           go_simp
           with_reducible rfl
          rotate_left
          ·simp only [Act.put, List.setIfInBounds_toArray, List.set_cons_zero, List.set_cons_succ, i64_w, i32_w]
           rfl
          refine one_ (i := 33) (N := some 52) #[true, true, true, true, true, true, true, true, true, true, true, true, true, true, true, true, true, true, true, true, true, true, true, true, true, true, true, true, true, true, true, true, true, true, false, false, false] rfl rfl (one_of HT_.out (by kernel_rfl)) (by decide) (fun K hK => ?_)
          refine goes_ Try.func15 (by kernel_rfl) rfl #[.agg #[.int .i64 t263, .int .i64 t264, .int .i64 t265, .slice Ao43 t266.length co43, .slice Ao44 t269.length co44], .agg #[.int .i64 a0_0, .int .i64 a0_1, .int .i64 a0_2, .slice A0_3 l0_3.length c0_3, .slice A0_4 l0_4.length c0_4]] (by rfl) rfl rfl (by (try simp only [List.map_toArray, List.map_cons, List.map_nil]); first | done | rfl | (simp only [List.length_drop, List.length_take]; rfl)) ?_
          with_reducible refine (capnpref10_Equal.calls kj1 t263 t264 t265 _ _ t266 _ _ t269 a0_0 a0_1 a0_2 _ _ l0_3 _ _ l0_4 t290 _ ?side1 ?side2 ?side3 ?side4 ?side5 ?side6 ?side7 ?side8 A37.out).mono ?_
          (case side1 => repeat (first | exact (Kd.R_reads' HO268.out).2.2 | (with_reducible refine Kd.C_alloc ?_ _) | (with_reducible refine Kd.C_drewN ?_ _) | (with_reducible refine Kd.C_drew ?_)))
          (case side2 => exact (Kd.R_reads' HO268.out).2.1)
          (case side3 => repeat (first | exact (Kd.R_reads' HO271.out).2.2 | (with_reducible refine Kd.C_alloc ?_ _) | (with_reducible refine Kd.C_drewN ?_ _) | (with_reducible refine Kd.C_drew ?_)))
          (case side4 => exact (Kd.R_reads' HO271.out).2.1)
          (case side5 => repeat (first | exact (Kd.C_below HR0_3.out HB.out) | (with_reducible refine Kd.C_alloc ?_ _) | (with_reducible refine Kd.C_drewN ?_ _) | (with_reducible refine Kd.C_drew ?_)))
          (case side6 => exact HC0_3.out)
          (case side7 => repeat (first | exact (Kd.C_below HR0_4.out HB.out) | (with_reducible refine Kd.C_alloc ?_ _) | (with_reducible refine Kd.C_drewN ?_ _) | (with_reducible refine Kd.C_drew ?_)))
          (case side8 => exact HC0_4.out)
          rintro e w58 ⟨rfl, hb⟩
          refine ⟨_, rfl, ?_⟩
          have n0_ := Aside0.mk (Kd.R_below (by (with_reducible repeat (first | apply Kd.R_alloc | apply Kd.R_drewN | apply Kd.R_drew)); exact HO268.out) hb)
          have n1_ := Aside0.mk (Kd.R_below (by (with_reducible repeat (first | apply Kd.R_alloc | apply Kd.R_drewN | apply Kd.R_drew)); exact HO271.out) hb)
          have n2_ := Aside0.mk (Kd.R_below (by (with_reducible repeat (first | apply Kd.R_alloc | apply Kd.R_drewN | apply Kd.R_drew)); exact HO278.out) hb)
          have n3_ := Aside0.mk (Kd.R_below (by (with_reducible repeat (first | apply Kd.R_alloc | apply Kd.R_drewN | apply Kd.R_drew)); exact HO281.out) hb)
          have n4_ := Aside0.mk (blk_below (g := gb258) (o := .cells #[.int .i64 a0_0, .int .i64 a0_1, .int .i64 a0_2, .slice A0_3 l0_3.length c0_3, .slice A0_4 l0_4.length c0_4] 25 (0, 0)) (by (with_reducible repeat (first | refine blk_drewN ?_ _ | refine blk_drew ?_ | refine blk_alloc ?_ _)); exact BK258.out) hb)
          have n5_ := Aside0.mk (blk_below (g := gb272) (o := .cells #[.int .i64 t263, .int .i64 t264, .int .i64 t265, .slice Ao43 t266.length co43, .slice Ao44 t269.length co44] 25 (0, 0)) (by (with_reducible repeat (first | refine blk_drewN ?_ _ | refine blk_drew ?_ | refine blk_alloc ?_ _)); exact BK272.out) hb)
          have n6_ := Aside0.mk (below_step (by repeat (first | (with_reducible first | exact HB.out | apply below_alloc | apply pw_below_drewN | apply below_drew1 | refine below_set ?_ GE258.out | refine below_set ?_ GE272.out) | exact HB.out)) hb)
          clear HO268
          clear HO271
          clear HO278
          clear HO281
          clear BK258
          clear BK272
          clear HB
          have HO268 := n0_
          have HO271 := n1_
          have HO278 := n2_
          have HO281 := n3_
          have BK258 := n4_
          have BK272 := n5_
          have HB := n6_
          clear n0_ n1_ n2_ n3_ n4_ n5_ n6_
          (try clear hb)
          (try clear hb2)
          (try clear hk)
          (try clear hi)
          refine hK.out _ _ ⟨(blk_cell BK272.out 0).trans rfl, (blk_cell BK272.out 1).trans rfl, (blk_cell BK272.out 2).trans rfl, (blk_cell BK272.out 3).trans rfl, (blk_cell BK272.out 4).trans rfl, (blk_cell BK258.out 0).trans rfl, (blk_cell BK258.out 1).trans rfl, (blk_cell BK258.out 2).trans rfl, (blk_cell BK258.out 3).trans rfl, (blk_cell BK258.out 4).trans rfl⟩ (fun hHeld => ?_)
          clear hK K
          refine norm_ (a' := ?_) ?_ ?_
          rotate_left
          ·show Act.put _ (some 52) _ = _
           simp only [Act.put, List.setIfInBounds_toArray, List.set_cons_zero, List.set_cons_succ, i64_w, i32_w]
           rfl
          refine pure_ (i := 34) (N := some 53) (v := ?_) (a' := ?_) #[true, true, true, true, true, true, true, true, true, true, true, true, true, true, true, true, true, true, true, true, true, true, true, true, true, true, true, true, true, true, true, true, true, true, true, false, false] rfl rfl (any_of HT_.out (by kernel_rfl)) (fun _ _ _ h => h) (Or.inl ⟨by rfl, ?_⟩) ?_ ?_
          rotate_left
          ·intro w'
           go_simp
           with_reducible rfl
          rotate_left
          ·simp only [Act.put, List.setIfInBounds_toArray, List.set_cons_zero, List.set_cons_succ, i64_w, i32_w]
           rfl
          refine pure_ (i := 35) (N := some 54) (v := ?_) (a' := ?_) #[true, true, true, true, true, true, true, true, true, true, true, true, true, true, true, true, true, true, true, true, true, true, true, true, true, true, true, true, true, true, true, true, true, true, true, true, false] rfl rfl (any_of HT_.out (by kernel_rfl)) (fun _ _ _ h => h) (Or.inl ⟨by rfl, ?_⟩) ?_ ?_
          rotate_left
          ·intro w'
           go_simp
           with_reducible rfl
          rotate_left
          ·simp only [Act.put, List.setIfInBounds_toArray, List.set_cons_zero, List.set_cons_succ, i64_w, i32_w]
           rfl
          refine pure_ (i := 36) (N := some 2) (v := ?_) (a' := ?_) #[true, true, true, true, true, true, true, true, true, true, true, true, true, true, true, true, true, true, true, true, true, true, true, true, true, true, true, true, true, true, true, true, true, true, true, true, true] rfl rfl (any_of HT_.out (by kernel_rfl)) (fun _ _ _ h => h) (Or.inl ⟨by rfl, ?_⟩) ?_ ?_
          rotate_left
          ·intro w'
           go_simp
           with_reducible rfl
          rotate_left
          ·simp only [Act.put, List.setIfInBounds_toArray, List.set_cons_zero, List.set_cons_succ, i64_w, i32_w]
           rfl
          refine done_ (done_of HT_.out (by kernel_rfl)) ?_
          try go_wp2
          go_ret
          exact ⟨by first | rfl | (simp [errW_none, errW_some] <;> rfl) | (simp [*, errW_none, errW_some] <;> rfl), by repeat (first | (with_reducible first | exact HB.out | apply below_alloc | apply pw_below_drewN | apply below_drew1 | refine below_set ?_ GE258.out | refine below_set ?_ GE272.out) | exact HB.out)⟩
         ·replace c36 := Bool.eq_false_iff.mpr c36
          subst c36
          have H1 : (some true) = some r := by rw [if_neg (show ¬ (false = true) by decide)] at H; exact H
          clear H
          have H := H1
          clear H1
          obtain rfl := Option.some.inj H
          have hcz59_0 : wc.cell? ⟨gb258, 0, none⟩ = some (.int .i64 a0_0) := (blk_cell BK258.out 0).trans rfl
          have hcz59_1 : wc.cell? ⟨gb258, 1, none⟩ = some (.int .i64 a0_1) := (blk_cell BK258.out 1).trans rfl
          have hcz59_2 : wc.cell? ⟨gb258, 2, none⟩ = some (.int .i64 a0_2) := (blk_cell BK258.out 2).trans rfl
          have hcz59_3 : wc.cell? ⟨gb258, 3, none⟩ = some (.slice A0_3 l0_3.length c0_3) := (blk_cell BK258.out 3).trans rfl
          have hcz59_4 : wc.cell? ⟨gb258, 4, none⟩ = some (.slice A0_4 l0_4.length c0_4) := (blk_cell BK258.out 4).trans rfl
          have hfz59_0 := blk_frozen BK258.out 0
          have hfz59_1 := blk_frozen BK258.out 1
          have hfz59_2 := blk_frozen BK258.out 2
          have hfz59_3 := blk_frozen BK258.out 3
          have hfz59_4 := blk_frozen BK258.out 4
          try go_wp2_with (first | ((with_reducible refine gate_callee (f := 16) rfl ?_); refine goesL_ (some 18) rfl rfl Try.func16 (by kernel_rfl) rfl #[.agg #[.int .i64 a0_0, .int .i64 a0_1, .int .i64 a0_2, .slice A0_3 l0_3.length c0_3, .slice A0_4 l0_4.length c0_4]] rfl (by (try simp only [List.map_toArray, List.map_cons, List.map_nil]); first | done | rfl | (simp only [List.length_drop, List.length_take]; rfl)) ?_; (with_reducible refine (trim_Trim.calls kj1 a0_0 a0_1 a0_2 (fun k_ => k_ < w.heap.size) _ _ l0_3 (fun k_ => k_ < w.heap.size) _ _ l0_4 t263 t264 t265 t266 t269 _ ?side1 ?side2 A21.out).mono ?_); (case side1 => exact Kd.V_mk HC0_3.out (Kd.F_below (Kd.C_F (Kd.heap_int .u8) HR0_3.out) (by repeat (first | (with_reducible first | exact HB.out | apply below_alloc | apply pw_below_drewN | apply below_drew1 | refine below_set ?_ GE258.out) | exact HB.out)))); (case side2 => exact Kd.V_mk HC0_4.out (Kd.F_below (Kd.C_F k25_heap HR0_4.out) (by repeat (first | (with_reducible first | exact HB.out | apply below_alloc | apply pw_below_drewN | apply below_drew1 | refine below_set ?_ GE258.out) | exact HB.out)))); rintro e w60 ⟨v267, v270, rfl, ho0, ho1, hb⟩; refine ⟨_, rfl, ?_⟩; have n0_ := Aside0.mk (Kd.R_lower (Kd.R_mono (ok' := fun k_ => True) ho0 (fun _ hk_ => trivial)) (below_size (by repeat (first | (with_reducible first | exact HB.out | apply below_alloc | apply pw_below_drewN | apply below_drew1 | refine below_set ?_ GE258.out) | exact HB.out)))); have n1_ := Aside0.mk (Kd.R_lower (Kd.R_newB (Kd.R_mono (ok' := fun k_ => some k_ ≠ (v267 : Value).ownBlock) ho1 (fun _ hk_ => hk_.2)) (g := gb258) (o := .cells #[.int .i64 a0_0, .int .i64 a0_1, .int .i64 a0_2, .slice A0_3 l0_3.length c0_3, .slice A0_4 l0_4.length c0_4] 25 (0, 0)) (by (with_reducible repeat (first | refine blk_drewN ?_ _ | refine blk_drew ?_ | refine blk_alloc ?_ _)); exact BK258.out)) (below_size (by repeat (first | (with_reducible first | exact HB.out | apply below_alloc | apply pw_below_drewN | apply below_drew1 | refine below_set ?_ GE258.out) | exact HB.out)))); have n2_ := Aside0.mk (blk_below (g := gb258) (o := .cells #[.int .i64 a0_0, .int .i64 a0_1, .int .i64 a0_2, .slice A0_3 l0_3.length c0_3, .slice A0_4 l0_4.length c0_4] 25 (0, 0)) (by (with_reducible repeat (first | refine blk_drewN ?_ _ | refine blk_drew ?_ | refine blk_alloc ?_ _)); exact BK258.out) hb); have n3_ := Aside0.mk (below_step (by repeat (first | (with_reducible first | exact HB.out | apply below_alloc | apply pw_below_drewN | apply below_drew1 | refine below_set ?_ GE258.out) | exact HB.out)) hb); clear BK258; clear HB; have HO268 := n0_; have HO271 := n1_; have BK258 := n2_; have HB := n3_; clear n0_ n1_ n2_ n3_; (try clear hb); (try clear hb2); (try clear hk); (try clear hi); (try clear ho0); (try clear ho1)) | ((with_reducible refine gate_dst (N := 3) rfl ?_); refine box_event ?hg (N := 3) ?hd (cs := #[.int .i64 0, .int .i64 0, .int .i64 0, .slice none 0 0, .slice none 0 0]) (t := 25) ?hr ?_; (case hd => rfl); (case hg => rfl); (case hr => first | (go_simp; done) | (go_simp; rfl)); intro gb272 hg w61 hbox hb; have n0_ := Aside0.mk (Kd.R_below (by (with_reducible repeat (first | apply Kd.R_alloc | apply Kd.R_drewN | apply Kd.R_drew)); exact HO268.out) hb); have n1_ := Aside0.mk (Kd.R_below (Kd.R_elderB (by (with_reducible repeat (first | apply Kd.R_alloc | apply Kd.R_drewN | apply Kd.R_drew)); exact HO271.out) gb272 (Nat.le_of_eq hg.symm)) hb); have n2_ := Aside0.mk (blk_below (g := gb258) (o := .cells #[.int .i64 a0_0, .int .i64 a0_1, .int .i64 a0_2, .slice A0_3 l0_3.length c0_3, .slice A0_4 l0_4.length c0_4] 25 (0, 0)) (by (with_reducible repeat (first | refine blk_drewN ?_ _ | refine blk_drew ?_ | refine blk_alloc ?_ _)); exact BK258.out) hb); have n3_ := Aside0.mk (below_step (by repeat (first | (with_reducible first | exact HB.out | apply below_alloc | apply pw_below_drewN | apply below_drew1 | refine below_set ?_ GE258.out) | exact HB.out)) hb); have n4_ := Aside0.mk (hbox); have n5_ := Aside0.mk ((by rw [hg]; exact (below_size (by repeat (first | (with_reducible first | exact HB.out | apply below_alloc | apply pw_below_drewN | apply below_drew1 | refine below_set ?_ GE258.out) | exact HB.out))) : w.heap.size ≤ gb272)); have n6_ := Aside0.mk ((by rw [hg]; exact (below_size (by repeat (first | (with_reducible first | exact HB.out | apply below_alloc | apply pw_below_drewN | apply below_drew1 | refine below_set ?_ GE258.out) | exact HB.out))) : w.heap.size ≤ gb272)); have n7_ := Aside0.mk ((by rw [hg]; exact Nat.ne_of_lt (blk_lt (g := gb258) (o := .cells #[.int .i64 a0_0, .int .i64 a0_1, .int .i64 a0_2, .slice A0_3 l0_3.length c0_3, .slice A0_4 l0_4.length c0_4] 25 (0, 0)) (by (with_reducible repeat (first | refine blk_drewN ?_ _ | refine blk_drew ?_ | refine blk_alloc ?_ _)); exact BK258.out)) : gb258 ≠ gb272)); have n8_ := Aside0.mk ((by rw [hg]; exact Nat.ne_of_gt (blk_lt (g := gb258) (o := .cells #[.int .i64 a0_0, .int .i64 a0_1, .int .i64 a0_2, .slice A0_3 l0_3.length c0_3, .slice A0_4 l0_4.length c0_4] 25 (0, 0)) (by (with_reducible repeat (first | refine blk_drewN ?_ _ | refine blk_drew ?_ | refine blk_alloc ?_ _)); exact BK258.out)) : gb272 ≠ gb258)); clear HO268; clear HO271; clear BK258; clear HB; have HO268 := n0_; have HO271 := n1_; have BK258 := n2_; have HB := n3_; have BK272 := n4_; have GW272 := n5_; have GE272 := n6_; have NB258_272 := n7_; have NB272_258 := n8_; clear n0_ n1_ n2_ n3_ n4_ n5_ n6_ n7_ n8_; clear hb hbox hg; have hnb62 := NB272_258.out; have hnc62 := NB258_272.out; have hcz63_0 : w61.cell? ⟨gb272, 0, none⟩ = some (.int .i64 0) := (blk_cell BK272.out 0).trans rfl; have hcz63_1 : w61.cell? ⟨gb272, 1, none⟩ = some (.int .i64 0) := (blk_cell BK272.out 1).trans rfl; have hcz63_2 : w61.cell? ⟨gb272, 2, none⟩ = some (.int .i64 0) := (blk_cell BK272.out 2).trans rfl; have hcz63_3 : w61.cell? ⟨gb272, 3, none⟩ = some (.slice none 0 0) := (blk_cell BK272.out 3).trans rfl; have hcz63_4 : w61.cell? ⟨gb272, 4, none⟩ = some (.slice none 0 0) := (blk_cell BK272.out 4).trans rfl; have hfz63_0 := blk_frozen BK272.out 0; have hfz63_1 := blk_frozen BK272.out 1; have hfz63_2 := blk_frozen BK272.out 2; have hfz63_3 := blk_frozen BK272.out 3; have hfz63_4 := blk_frozen BK272.out 4; obtain ⟨Ao64, co64, eo64⟩ := Kd.R_slice HO268.out; subst eo64; obtain ⟨Ao65, co65, eo65⟩ := Kd.R_slice HO271.out; subst eo65))
          have n0_ : Aside0 (Kd.R (Kd.int .u8) 5 (((((w61.setCell ⟨gb272, 0, none⟩ (.int .i64 t263)).setCell ⟨gb272, 1, none⟩ (.int .i64 t264)).setCell ⟨gb272, 2, none⟩ (.int .i64 t265)).setCell ⟨gb272, 3, none⟩ (.slice Ao64 t266.length co64)).setCell ⟨gb272, 4, none⟩ (.slice Ao65 t269.length co65)) w.heap.size (fun _ => True) (.slice Ao64 t266.length co64) t266) := ⟨by (with_reducible repeat (first | apply Kd.R_alloc | apply Kd.R_drewN | apply Kd.R_drew)); exact Kd.R_mono (Kd.R_far (p := ⟨gb272, 4, none⟩) (Kd.R_far (p := ⟨gb272, 3, none⟩) (Kd.R_far (p := ⟨gb272, 2, none⟩) (Kd.R_far (p := ⟨gb272, 1, none⟩) (Kd.R_far (p := ⟨gb272, 0, none⟩) (Kd.R_types HO268.out BK272.out (by decide)) (fun _ hk => hk.2) (.int .i64 t263)) (fun _ hk => hk.2) (.int .i64 t264)) (fun _ hk => hk.2) (.int .i64 t265)) (fun _ hk => hk.2) (.slice Ao64 t266.length co64)) (fun _ hk => hk.2) (.slice Ao65 t269.length co65)) (fun _ hk => trivial)⟩
          have n1_ : Aside0 (Kd.R k25 25 (((((w61.setCell ⟨gb272, 0, none⟩ (.int .i64 t263)).setCell ⟨gb272, 1, none⟩ (.int .i64 t264)).setCell ⟨gb272, 2, none⟩ (.int .i64 t265)).setCell ⟨gb272, 3, none⟩ (.slice Ao64 t266.length co64)).setCell ⟨gb272, 4, none⟩ (.slice Ao65 t269.length co65)) w.heap.size (fun k_ => some k_ ≠ (.slice Ao64 t266.length co64 : Value).ownBlock ∧ k_ ≠ gb258 ∧ k_ ≠ gb272) (.slice Ao65 t269.length co65) t269) := ⟨by (with_reducible repeat (first | apply Kd.R_alloc | apply Kd.R_drewN | apply Kd.R_drew)); exact Kd.R_mono (Kd.R_far (p := ⟨gb272, 4, none⟩) (Kd.R_far (p := ⟨gb272, 3, none⟩) (Kd.R_far (p := ⟨gb272, 2, none⟩) (Kd.R_far (p := ⟨gb272, 1, none⟩) (Kd.R_far (p := ⟨gb272, 0, none⟩) (Kd.R_mono HO271.out (fun k_ hk => (⟨hk, hk.2⟩ : _ ∧ k_ ≠ gb272))) (fun _ hk => hk.2) (.int .i64 t263)) (fun _ hk => hk.2) (.int .i64 t264)) (fun _ hk => hk.2) (.int .i64 t265)) (fun _ hk => hk.2) (.slice Ao64 t266.length co64)) (fun _ hk => hk.2) (.slice Ao65 t269.length co65)) (fun _ hk => ⟨hk.1.1.1, ⟨hk.1.1.2, hk.1.2⟩⟩)⟩
          have n2_ : Aside0 ((((((w61.setCell ⟨gb272, 0, none⟩ (.int .i64 t263)).setCell ⟨gb272, 1, none⟩ (.int .i64 t264)).setCell ⟨gb272, 2, none⟩ (.int .i64 t265)).setCell ⟨gb272, 3, none⟩ (.slice Ao64 t266.length co64)).setCell ⟨gb272, 4, none⟩ (.slice Ao65 t269.length co65)).heap[gb258]? = some (.cells #[.int .i64 a0_0, .int .i64 a0_1, .int .i64 a0_2, .slice A0_3 l0_3.length c0_3, .slice A0_4 l0_4.length c0_4] 25 (0, 0))) := ⟨by (with_reducible repeat (first | refine blk_drewN ?_ _ | refine blk_drew ?_ | refine blk_alloc ?_ _)); refine blk_far ?_ NB258_272.out _; (with_reducible repeat (first | refine blk_drewN ?_ _ | refine blk_drew ?_ | refine blk_alloc ?_ _)); refine blk_far ?_ NB258_272.out _; (with_reducible repeat (first | refine blk_drewN ?_ _ | refine blk_drew ?_ | refine blk_alloc ?_ _)); refine blk_far ?_ NB258_272.out _; (with_reducible repeat (first | refine blk_drewN ?_ _ | refine blk_drew ?_ | refine blk_alloc ?_ _)); refine blk_far ?_ NB258_272.out _; (with_reducible repeat (first | refine blk_drewN ?_ _ | refine blk_drew ?_ | refine blk_alloc ?_ _)); refine blk_far ?_ NB258_272.out _; (with_reducible repeat (first | refine blk_drewN ?_ _ | refine blk_drew ?_ | refine blk_alloc ?_ _)); exact BK258.out⟩
          have n3_ : Aside0 ((((((w61.setCell ⟨gb272, 0, none⟩ (.int .i64 t263)).setCell ⟨gb272, 1, none⟩ (.int .i64 t264)).setCell ⟨gb272, 2, none⟩ (.int .i64 t265)).setCell ⟨gb272, 3, none⟩ (.slice Ao64 t266.length co64)).setCell ⟨gb272, 4, none⟩ (.slice Ao65 t269.length co65)).heap[gb272]? = some (.cells #[.int .i64 t263, .int .i64 t264, .int .i64 t265, .slice Ao64 t266.length co64, .slice Ao65 t269.length co65] 25 (0, 0))) := ⟨by (with_reducible repeat (first | refine blk_drewN ?_ _ | refine blk_drew ?_ | refine blk_alloc ?_ _)); refine blk_put (cs := #[.int .i64 t263, .int .i64 t264, .int .i64 t265, .slice Ao64 t266.length co64, .slice none 0 0]) ?_ 4 _ rfl; (with_reducible repeat (first | refine blk_drewN ?_ _ | refine blk_drew ?_ | refine blk_alloc ?_ _)); refine blk_put (cs := #[.int .i64 t263, .int .i64 t264, .int .i64 t265, .slice none 0 0, .slice none 0 0]) ?_ 3 _ rfl; (with_reducible repeat (first | refine blk_drewN ?_ _ | refine blk_drew ?_ | refine blk_alloc ?_ _)); refine blk_put (cs := #[.int .i64 t263, .int .i64 t264, .int .i64 0, .slice none 0 0, .slice none 0 0]) ?_ 2 _ rfl; (with_reducible repeat (first | refine blk_drewN ?_ _ | refine blk_drew ?_ | refine blk_alloc ?_ _)); refine blk_put (cs := #[.int .i64 t263, .int .i64 0, .int .i64 0, .slice none 0 0, .slice none 0 0]) ?_ 1 _ rfl; (with_reducible repeat (first | refine blk_drewN ?_ _ | refine blk_drew ?_ | refine blk_alloc ?_ _)); refine blk_put (cs := #[.int .i64 0, .int .i64 0, .int .i64 0, .slice none 0 0, .slice none 0 0]) ?_ 0 _ rfl; (with_reducible repeat (first | refine blk_drewN ?_ _ | refine blk_drew ?_ | refine blk_alloc ?_ _)); exact BK272.out⟩
          have n4_ : Aside0 (Below w.heap.size w (((((w61.setCell ⟨gb272, 0, none⟩ (.int .i64 t263)).setCell ⟨gb272, 1, none⟩ (.int .i64 t264)).setCell ⟨gb272, 2, none⟩ (.int .i64 t265)).setCell ⟨gb272, 3, none⟩ (.slice Ao64 t266.length co64)).setCell ⟨gb272, 4, none⟩ (.slice Ao65 t269.length co65))) := ⟨by repeat (first | (with_reducible first | exact HB.out | apply below_alloc | apply pw_below_drewN | apply below_drew1 | refine below_set ?_ GE258.out | refine below_set ?_ GE272.out) | exact HB.out)⟩
          (try clear HO268)
          (try clear HO271)
          (try clear BK258)
          (try clear BK272)
          (try clear HB)
          generalize (((((w61.setCell ⟨gb272, 0, none⟩ (.int .i64 t263)).setCell ⟨gb272, 1, none⟩ (.int .i64 t264)).setCell ⟨gb272, 2, none⟩ (.int .i64 t265)).setCell ⟨gb272, 3, none⟩ (.slice Ao64 t266.length co64)).setCell ⟨gb272, 4, none⟩ (.slice Ao65 t269.length co65)) = w66 at n0_ n1_ n2_ n3_ n4_ ⊢
          have HO268 := n0_
          have HO271 := n1_
          have BK258 := n2_
          have BK272 := n3_
          have HB := n4_
          clear n0_ n1_ n2_ n3_ n4_
          have n0_ := Aside0.mk (Kd.R_drew HO268.out)
          have n1_ := Aside0.mk (Kd.R_drew HO271.out)
          have n2_ := Aside0.mk (blk_drew BK258.out)
          have n3_ := Aside0.mk (blk_drew BK272.out)
          have n4_ := Aside0.mk (below_drew1 HB.out)
          clear HO268
          clear HO271
          clear BK258
          clear BK272
          clear HB
          have HO268 := n0_
          have HO271 := n1_
          have BK258 := n2_
          have BK272 := n3_
          have HB := n4_
          clear n0_ n1_ n2_ n3_ n4_
          refine start_ (n := 37) (S := fun w' => w'.cell? ⟨gb272, 0, none⟩ = some (.int .i64 t263) ∧ w'.cell? ⟨gb272, 1, none⟩ = some (.int .i64 t264) ∧ w'.cell? ⟨gb272, 2, none⟩ = some (.int .i64 t265) ∧ w'.cell? ⟨gb272, 3, none⟩ = some (.slice Ao64 t266.length co64) ∧ w'.cell? ⟨gb272, 4, none⟩ = some (.slice Ao65 t269.length co65) ∧ w'.cell? ⟨gb258, 0, none⟩ = some (.int .i64 a0_0) ∧ w'.cell? ⟨gb258, 1, none⟩ = some (.int .i64 a0_1) ∧ w'.cell? ⟨gb258, 2, none⟩ = some (.int .i64 a0_2) ∧ w'.cell? ⟨gb258, 3, none⟩ = some (.slice A0_3 l0_3.length c0_3) ∧ w'.cell? ⟨gb258, 4, none⟩ = some (.slice A0_4 l0_4.length c0_4)) (ds := []) #[false, false, false, false, false, false, false, false, false, false, false, false, false, false, false, false, false, false, false, false, false, false, false, false, false, false, false, false, false, false, false, false, false, false, false, false, false] (by kernel_rfl) rfl rfl ⟨(blk_cell BK272.out 0).trans rfl, (blk_cell BK272.out 1).trans rfl, (blk_cell BK272.out 2).trans rfl, (blk_cell BK272.out 3).trans rfl, (blk_cell BK272.out 4).trans rfl, (blk_cell BK258.out 0).trans rfl, (blk_cell BK258.out 1).trans rfl, (blk_cell BK258.out 2).trans rfl, (blk_cell BK258.out 3).trans rfl, (blk_cell BK258.out 4).trans rfl⟩ (fun hHeld => ?_); refine with_tabW capnplaw11_TrimIsCanonical.tab4 capnplaw11_TrimIsCanonical.bits4 (fun HT_ HW_ => ?_)
          generalize w66.drew = w67 at HO268 HO271 BK258 BK272 HB hHeld ⊢
          refine take_ (i := 0) (N := some 19) (v := ?_) (a' := ?_) #[true, false, false, false, false, false, false, false, false, false, false, false, false, false, false, false, false, false, false, false, false, false, false, false, false, false, false, false, false, false, false, false, false, false, false, false, false] rfl rfl (take_ofW HT_.out HW_.out (by kernel_rfl)) (fun _ _ _ h => h) (Or.inl ⟨by rfl, ?_⟩) hHeld ?_ ?_
          rotate_left
          ·rintro w' ⟨s0, s1, s2, s3, s4, s5, s6, s7, s8, s9⟩
           go_simp
           with_reducible rfl
          rotate_left
          ·simp only [Act.put, List.setIfInBounds_toArray, List.set_cons_zero, List.set_cons_succ, i64_w, i32_w]
           rfl
          refine take_ (i := 2) (N := some 21) (v := ?_) (a' := ?_) #[true, false, true, false, false, false, false, false, false, false, false, false, false, false, false, false, false, false, false, false, false, false, false, false, false, false, false, false, false, false, false, false, false, false, false, false, false] rfl rfl (take_ofW HT_.out HW_.out (by kernel_rfl)) (fun _ _ _ h => h) (Or.inl ⟨by rfl, ?_⟩) hHeld ?_ ?_
          rotate_left
          ·rintro w' ⟨s0, s1, s2, s3, s4, s5, s6, s7, s8, s9⟩
           go_simp
           with_reducible rfl
          rotate_left
          ·simp only [Act.put, List.setIfInBounds_toArray, List.set_cons_zero, List.set_cons_succ, i64_w, i32_w]
           rfl
          refine one_ (i := 1) (N := some 20) #[true, true, true, false, false, false, false, false, false, false, false, false, false, false, false, false, false, false, false, false, false, false, false, false, false, false, false, false, false, false, false, false, false, false, false, false, false] rfl rfl (one_of HT_.out (by kernel_rfl)) (by decide) (fun K hK => ?_)
          refine goes_ Try.func16 (by kernel_rfl) rfl #[.agg #[.int .i64 t263, .int .i64 t264, .int .i64 t265, .slice Ao64 t266.length co64, .slice Ao65 t269.length co65]] (by rfl) rfl rfl (by (try simp only [List.map_toArray, List.map_cons, List.map_nil]); first | done | rfl | (simp only [List.length_drop, List.length_take]; rfl)) ?_
          with_reducible refine (trim_Trim.calls kj1 t263 t264 t265 (fun k_ => some k_ = (.slice Ao64 t266.length co64 : Value).ownBlock) _ _ t266 (fun k_ => (some k_ ≠ (.slice Ao64 t266.length co64 : Value).ownBlock ∧ (k_ ≠ gb258 ∧ k_ ≠ gb272))) _ _ t269 t273 t274 t275 t276 t279 _ ?side1 ?side2 A22.out).mono ?_
          (case side1 => exact Kd.R_V (Kd.R_tight rfl (Kd.R_types (Kd.R_types (Kd.R_apart' (HO268.out) (Kd.R_typed HO271.out) (by decide)) BK258.out (by decide)) BK272.out (by decide))))
          (case side2 => exact Kd.R_V (HO271.out))
          rintro e w68 ⟨v277, v280, rfl, ho0, ho1, hb⟩
          refine ⟨_, rfl, ?_⟩
          have n0_ := Aside0.mk (Kd.R_elder' (by (with_reducible repeat (first | apply Kd.R_alloc | apply Kd.R_drewN | apply Kd.R_drew)); exact HO268.out) (Kd.R_base ho0) hb)
          have n1_ := Aside0.mk (Kd.R_mono (Kd.R_told (Kd.R_told (Kd.R_old (by (with_reducible repeat (first | apply Kd.R_alloc | apply Kd.R_drewN | apply Kd.R_drew)); exact HO271.out) hb) (Kd.R_base ho0)) (Kd.R_base ho1)) (fun _ h_ => h_.1))
          have n2_ := Aside0.mk (Kd.R_lower (Kd.R_new' (Kd.R_mono (ok' := fun k_ => True) ho0 (fun _ hk_ => trivial)) (Kd.R_lt (by (with_reducible repeat (first | apply Kd.R_alloc | apply Kd.R_drewN | apply Kd.R_drew)); exact HO268.out))) (below_size (by repeat (first | (with_reducible first | exact HB.out | apply below_alloc | apply pw_below_drewN | apply below_drew1 | refine below_set ?_ GE258.out | refine below_set ?_ GE272.out) | exact HB.out))))
          have n3_ := Aside0.mk (Kd.R_lower (Kd.R_newB (Kd.R_newB (Kd.R_new' (Kd.R_new' (Kd.R_mono (ok' := fun k_ => some k_ ≠ (v277 : Value).ownBlock) ho1 (fun _ hk_ => hk_.2)) (Kd.R_lt (by (with_reducible repeat (first | apply Kd.R_alloc | apply Kd.R_drewN | apply Kd.R_drew)); exact HO268.out))) (Kd.R_lt (by (with_reducible repeat (first | apply Kd.R_alloc | apply Kd.R_drewN | apply Kd.R_drew)); exact HO271.out))) (g := gb258) (o := .cells #[.int .i64 a0_0, .int .i64 a0_1, .int .i64 a0_2, .slice A0_3 l0_3.length c0_3, .slice A0_4 l0_4.length c0_4] 25 (0, 0)) (by (with_reducible repeat (first | refine blk_drewN ?_ _ | refine blk_drew ?_ | refine blk_alloc ?_ _)); exact BK258.out)) (g := gb272) (o := .cells #[.int .i64 t263, .int .i64 t264, .int .i64 t265, .slice Ao64 t266.length co64, .slice Ao65 t269.length co65] 25 (0, 0)) (by (with_reducible repeat (first | refine blk_drewN ?_ _ | refine blk_drew ?_ | refine blk_alloc ?_ _)); exact BK272.out)) (below_size (by repeat (first | (with_reducible first | exact HB.out | apply below_alloc | apply pw_below_drewN | apply below_drew1 | refine below_set ?_ GE258.out | refine below_set ?_ GE272.out) | exact HB.out))))
          have n4_ := Aside0.mk (blk_below (g := gb258) (o := .cells #[.int .i64 a0_0, .int .i64 a0_1, .int .i64 a0_2, .slice A0_3 l0_3.length c0_3, .slice A0_4 l0_4.length c0_4] 25 (0, 0)) (by (with_reducible repeat (first | refine blk_drewN ?_ _ | refine blk_drew ?_ | refine blk_alloc ?_ _)); exact BK258.out) hb)
          have n5_ := Aside0.mk (blk_below (g := gb272) (o := .cells #[.int .i64 t263, .int .i64 t264, .int .i64 t265, .slice Ao64 t266.length co64, .slice Ao65 t269.length co65] 25 (0, 0)) (by (with_reducible repeat (first | refine blk_drewN ?_ _ | refine blk_drew ?_ | refine blk_alloc ?_ _)); exact BK272.out) hb)
          have n6_ := Aside0.mk (below_step (by repeat (first | (with_reducible first | exact HB.out | apply below_alloc | apply pw_below_drewN | apply below_drew1 | refine below_set ?_ GE258.out | refine below_set ?_ GE272.out) | exact HB.out)) hb)
          clear HO268
          clear HO271
          clear BK258
          clear BK272
          clear HB
          have HO268 := n0_
          have HO271 := n1_
          have HO278 := n2_
          have HO281 := n3_
          have BK258 := n4_
          have BK272 := n5_
          have HB := n6_
          clear n0_ n1_ n2_ n3_ n4_ n5_ n6_
          (try clear hb)
          (try clear hb2)
          (try clear hk)
          (try clear hi)
          (try clear ho0)
          (try clear ho1)
          obtain ⟨Ao69, co69, eo69⟩ := Kd.R_slice HO278.out
          (first | subst eo69 | (injection eo69 with f1_ f2_ f3_; have f4_ := f1_.symm; have f5_ := f3_.symm; clear f1_ f2_ f3_; subst f4_; subst f5_))
          obtain ⟨Ao70, co70, eo70⟩ := Kd.R_slice HO281.out
          (first | subst eo70 | (injection eo70 with f1_ f2_ f3_; have f4_ := f1_.symm; have f5_ := f3_.symm; clear f1_ f2_ f3_; subst f4_; subst f5_))
          refine hK.out _ _ ⟨(blk_cell BK272.out 0).trans rfl, (blk_cell BK272.out 1).trans rfl, (blk_cell BK272.out 2).trans rfl, (blk_cell BK272.out 3).trans rfl, (blk_cell BK272.out 4).trans rfl, (blk_cell BK258.out 0).trans rfl, (blk_cell BK258.out 1).trans rfl, (blk_cell BK258.out 2).trans rfl, (blk_cell BK258.out 3).trans rfl, (blk_cell BK258.out 4).trans rfl⟩ (fun hHeld => ?_)
          clear hK K
          refine norm_ (a' := ?_) ?_ ?_
          rotate_left
          ·show Act.put _ (some 20) _ = _
           simp only [Act.put, List.setIfInBounds_toArray, List.set_cons_zero, List.set_cons_succ, i64_w, i32_w]
           rfl
          refine one_ (i := 3) (N := some 22) #[true, true, true, true, false, false, false, false, false, false, false, false, false, false, false, false, false, false, false, false, false, false, false, false, false, false, false, false, false, false, false, false, false, false, false, false, false] rfl rfl (one_of HT_.out (by kernel_rfl)) (by decide) (fun K hK => ?_)
          refine goes_ Try.func15 (by kernel_rfl) rfl #[.agg #[.int .i64 t273, .int .i64 t274, .int .i64 t275, .slice Ao69 t276.length co69, .slice Ao70 t279.length co70], .agg #[.int .i64 t263, .int .i64 t264, .int .i64 t265, .slice Ao64 t266.length co64, .slice Ao65 t269.length co65]] (by rfl) rfl rfl (by (try simp only [List.map_toArray, List.map_cons, List.map_nil]); first | done | rfl | (simp only [List.length_drop, List.length_take]; rfl)) ?_
          with_reducible refine (capnpref10_Equal.calls kj1 t273 t274 t275 _ _ t276 _ _ t279 t263 t264 t265 _ _ t266 _ _ t269 true _ ?side1 ?side2 ?side3 ?side4 ?side5 ?side6 ?side7 ?side8 A23.out).mono ?_
          (case side1 => repeat (first | exact (Kd.R_reads' HO278.out).2.2 | (with_reducible refine Kd.C_alloc ?_ _) | (with_reducible refine Kd.C_drewN ?_ _) | (with_reducible refine Kd.C_drew ?_)))
          (case side2 => exact (Kd.R_reads' HO278.out).2.1)
          (case side3 => repeat (first | exact (Kd.R_reads' HO281.out).2.2 | (with_reducible refine Kd.C_alloc ?_ _) | (with_reducible refine Kd.C_drewN ?_ _) | (with_reducible refine Kd.C_drew ?_)))
          (case side4 => exact (Kd.R_reads' HO281.out).2.1)
          (case side5 => repeat (first | exact (Kd.R_reads' HO268.out).2.2 | (with_reducible refine Kd.C_alloc ?_ _) | (with_reducible refine Kd.C_drewN ?_ _) | (with_reducible refine Kd.C_drew ?_)))
          (case side6 => exact (Kd.R_reads' HO268.out).2.1)
          (case side7 => repeat (first | exact (Kd.R_reads' HO271.out).2.2 | (with_reducible refine Kd.C_alloc ?_ _) | (with_reducible refine Kd.C_drewN ?_ _) | (with_reducible refine Kd.C_drew ?_)))
          (case side8 => exact (Kd.R_reads' HO271.out).2.1)
          rintro e w71 ⟨rfl, hb⟩
          refine ⟨_, rfl, ?_⟩
          have n0_ := Aside0.mk (Kd.R_below (by (with_reducible repeat (first | apply Kd.R_alloc | apply Kd.R_drewN | apply Kd.R_drew)); exact HO268.out) hb)
          have n1_ := Aside0.mk (Kd.R_below (by (with_reducible repeat (first | apply Kd.R_alloc | apply Kd.R_drewN | apply Kd.R_drew)); exact HO271.out) hb)
          have n2_ := Aside0.mk (Kd.R_below (by (with_reducible repeat (first | apply Kd.R_alloc | apply Kd.R_drewN | apply Kd.R_drew)); exact HO278.out) hb)
          have n3_ := Aside0.mk (Kd.R_below (by (with_reducible repeat (first | apply Kd.R_alloc | apply Kd.R_drewN | apply Kd.R_drew)); exact HO281.out) hb)
          have n4_ := Aside0.mk (blk_below (g := gb258) (o := .cells #[.int .i64 a0_0, .int .i64 a0_1, .int .i64 a0_2, .slice A0_3 l0_3.length c0_3, .slice A0_4 l0_4.length c0_4] 25 (0, 0)) (by (with_reducible repeat (first | refine blk_drewN ?_ _ | refine blk_drew ?_ | refine blk_alloc ?_ _)); exact BK258.out) hb)
          have n5_ := Aside0.mk (blk_below (g := gb272) (o := .cells #[.int .i64 t263, .int .i64 t264, .int .i64 t265, .slice Ao64 t266.length co64, .slice Ao65 t269.length co65] 25 (0, 0)) (by (with_reducible repeat (first | refine blk_drewN ?_ _ | refine blk_drew ?_ | refine blk_alloc ?_ _)); exact BK272.out) hb)
          have n6_ := Aside0.mk (below_step (by repeat (first | (with_reducible first | exact HB.out | apply below_alloc | apply pw_below_drewN | apply below_drew1 | refine below_set ?_ GE258.out | refine below_set ?_ GE272.out) | exact HB.out)) hb)
          clear HO268
          clear HO271
          clear HO278
          clear HO281
          clear BK258
          clear BK272
          clear HB
          have HO268 := n0_
          have HO271 := n1_
          have HO278 := n2_
          have HO281 := n3_
          have BK258 := n4_
          have BK272 := n5_
          have HB := n6_
          clear n0_ n1_ n2_ n3_ n4_ n5_ n6_
          (try clear hb)
          (try clear hb2)
          (try clear hk)
          (try clear hi)
          refine hK.out _ _ ⟨(blk_cell BK272.out 0).trans rfl, (blk_cell BK272.out 1).trans rfl, (blk_cell BK272.out 2).trans rfl, (blk_cell BK272.out 3).trans rfl, (blk_cell BK272.out 4).trans rfl, (blk_cell BK258.out 0).trans rfl, (blk_cell BK258.out 1).trans rfl, (blk_cell BK258.out 2).trans rfl, (blk_cell BK258.out 3).trans rfl, (blk_cell BK258.out 4).trans rfl⟩ (fun hHeld => ?_)
          clear hK K
          refine norm_ (a' := ?_) ?_ ?_
          rotate_left
          ·show Act.put _ (some 22) _ = _
           simp only [Act.put, List.setIfInBounds_toArray, List.set_cons_zero, List.set_cons_succ, i64_w, i32_w]
           rfl
          refine pure_ (i := 4) (N := some 23) (v := ?_) (a' := ?_) #[true, true, true, true, true, false, false, false, false, false, false, false, false, false, false, false, false, false, false, false, false, false, false, false, false, false, false, false, false, false, false, false, false, false, false, false, false] rfl rfl (any_of HT_.out (by kernel_rfl)) (fun _ _ _ h => h) (Or.inl ⟨by rfl, ?_⟩) ?_ ?_
          rotate_left
          ·intro w'
           go_simp
           with_reducible rfl
          rotate_left
          ·simp only [Act.put, List.setIfInBounds_toArray, List.set_cons_zero, List.set_cons_succ, i64_w, i32_w]
           rfl
          refine take_ (i := 5) (N := some 24) (v := ?_) (a' := ?_) #[true, true, true, true, true, true, false, false, false, false, false, false, false, false, false, false, false, false, false, false, false, false, false, false, false, false, false, false, false, false, false, false, false, false, false, false, false] rfl rfl (take_ofW HT_.out HW_.out (by kernel_rfl)) (fun _ _ _ h => h) (Or.inl ⟨by rfl, ?_⟩) hHeld ?_ ?_
          rotate_left
          ·rintro w' ⟨s0, s1, s2, s3, s4, s5, s6, s7, s8, s9⟩
           go_simp
           with_reducible rfl
          rotate_left
          ·simp only [Act.put, List.setIfInBounds_toArray, List.set_cons_zero, List.set_cons_succ, i64_w, i32_w]
           rfl
          refine one_ (i := 6) (N := some 25) #[true, true, true, true, true, true, true, false, false, false, false, false, false, false, false, false, false, false, false, false, false, false, false, false, false, false, false, false, false, false, false, false, false, false, false, false, false] rfl rfl (one_of HT_.out (by kernel_rfl)) (by decide) (fun K hK => ?_)
          refine goes_ Try.func10 (by kernel_rfl) rfl #[.agg #[.int .i64 t263, .int .i64 t264, .int .i64 t265, .slice Ao64 t266.length co64, .slice Ao65 t269.length co65]] (by rfl) rfl rfl (by (try simp only [List.map_toArray, List.map_cons, List.map_nil]); first | done | rfl | (simp only [List.length_drop, List.length_take]; rfl)) ?_
          with_reducible refine (capnpref10_Valid.calls kj1 t263 t264 t265 _ _ t266 _ _ t269 true _ ?side1 ?side2 ?side3 ?side4 A25.out).mono ?_
          (case side1 => repeat (first | exact (Kd.R_reads' HO268.out).2.2 | (with_reducible refine Kd.C_alloc ?_ _) | (with_reducible refine Kd.C_drewN ?_ _) | (with_reducible refine Kd.C_drew ?_)))
          (case side2 => exact (Kd.R_reads' HO268.out).2.1)
          (case side3 => repeat (first | exact (Kd.R_reads' HO271.out).2.2 | (with_reducible refine Kd.C_alloc ?_ _) | (with_reducible refine Kd.C_drewN ?_ _) | (with_reducible refine Kd.C_drew ?_)))
          (case side4 => exact (Kd.R_reads' HO271.out).2.1)
          rintro e w72 ⟨rfl, hb⟩
          refine ⟨_, rfl, ?_⟩
          have n0_ := Aside0.mk (Kd.R_below (by (with_reducible repeat (first | apply Kd.R_alloc | apply Kd.R_drewN | apply Kd.R_drew)); exact HO268.out) hb)
          have n1_ := Aside0.mk (Kd.R_below (by (with_reducible repeat (first | apply Kd.R_alloc | apply Kd.R_drewN | apply Kd.R_drew)); exact HO271.out) hb)
          have n2_ := Aside0.mk (Kd.R_below (by (with_reducible repeat (first | apply Kd.R_alloc | apply Kd.R_drewN | apply Kd.R_drew)); exact HO278.out) hb)
          have n3_ := Aside0.mk (Kd.R_below (by (with_reducible repeat (first | apply Kd.R_alloc | apply Kd.R_drewN | apply Kd.R_drew)); exact HO281.out) hb)
          have n4_ := Aside0.mk (blk_below (g := gb258) (o := .cells #[.int .i64 a0_0, .int .i64 a0_1, .int .i64 a0_2, .slice A0_3 l0_3.length c0_3, .slice A0_4 l0_4.length c0_4] 25 (0, 0)) (by (with_reducible repeat (first | refine blk_drewN ?_ _ | refine blk_drew ?_ | refine blk_alloc ?_ _)); exact BK258.out) hb)
          have n5_ := Aside0.mk (blk_below (g := gb272) (o := .cells #[.int .i64 t263, .int .i64 t264, .int .i64 t265, .slice Ao64 t266.length co64, .slice Ao65 t269.length co65] 25 (0, 0)) (by (with_reducible repeat (first | refine blk_drewN ?_ _ | refine blk_drew ?_ | refine blk_alloc ?_ _)); exact BK272.out) hb)
          have n6_ := Aside0.mk (below_step (by repeat (first | (with_reducible first | exact HB.out | apply below_alloc | apply pw_below_drewN | apply below_drew1 | refine below_set ?_ GE258.out | refine below_set ?_ GE272.out) | exact HB.out)) hb)
          clear HO268
          clear HO271
          clear HO278
          clear HO281
          clear BK258
          clear BK272
          clear HB
          have HO268 := n0_
          have HO271 := n1_
          have HO278 := n2_
          have HO281 := n3_
          have BK258 := n4_
          have BK272 := n5_
          have HB := n6_
          clear n0_ n1_ n2_ n3_ n4_ n5_ n6_
          (try clear hb)
          (try clear hb2)
          (try clear hk)
          (try clear hi)
          refine hK.out _ _ ⟨(blk_cell BK272.out 0).trans rfl, (blk_cell BK272.out 1).trans rfl, (blk_cell BK272.out 2).trans rfl, (blk_cell BK272.out 3).trans rfl, (blk_cell BK272.out 4).trans rfl, (blk_cell BK258.out 0).trans rfl, (blk_cell BK258.out 1).trans rfl, (blk_cell BK258.out 2).trans rfl, (blk_cell BK258.out 3).trans rfl, (blk_cell BK258.out 4).trans rfl⟩ (fun hHeld => ?_)
          clear hK K
          refine norm_ (a' := ?_) ?_ ?_
          rotate_left
          ·show Act.put _ (some 25) _ = _
           simp only [Act.put, List.setIfInBounds_toArray, List.set_cons_zero, List.set_cons_succ, i64_w, i32_w]
           rfl
          refine pure_ (i := 7) (N := some 26) (v := ?_) (a' := ?_) #[true, true, true, true, true, true, true, true, false, false, false, false, false, false, false, false, false, false, false, false, false, false, false, false, false, false, false, false, false, false, false, false, false, false, false, false, false] rfl rfl (any_of HT_.out (by kernel_rfl)) (fun _ _ _ h => h) (Or.inl ⟨by rfl, ?_⟩) ?_ ?_
          rotate_left
          ·intro w'
           go_simp
           with_reducible rfl
          rotate_left
          ·simp only [Act.put, List.setIfInBounds_toArray, List.set_cons_zero, List.set_cons_succ, i64_w, i32_w]
           rfl
          refine pure_ (i := 8) (N := some 27) (v := ?_) (a' := ?_) #[true, true, true, true, true, true, true, true, true, false, false, false, false, false, false, false, false, false, false, false, false, false, false, false, false, false, false, false, false, false, false, false, false, false, false, false, false] rfl rfl (any_of HT_.out (by kernel_rfl)) (fun _ _ _ h => h) (Or.inl ⟨by rfl, ?_⟩) ?_ ?_
          rotate_left
          ·intro w'
           go_simp
           with_reducible rfl
          rotate_left
          ·simp only [Act.put, List.setIfInBounds_toArray, List.set_cons_zero, List.set_cons_succ, i64_w, i32_w]
           rfl
          refine take_ (i := 9) (N := some 28) (v := ?_) (a' := ?_) #[true, true, true, true, true, true, true, true, true, true, false, false, false, false, false, false, false, false, false, false, false, false, false, false, false, false, false, false, false, false, false, false, false, false, false, false, false] rfl rfl (take_ofW HT_.out HW_.out (by kernel_rfl)) (fun _ _ _ h => h) (Or.inl ⟨by rfl, ?_⟩) hHeld ?_ ?_
          rotate_left
          ·rintro w' ⟨s0, s1, s2, s3, s4, s5, s6, s7, s8, s9⟩
           go_simp
           with_reducible rfl
          rotate_left
          ·simp only [Act.put, List.setIfInBounds_toArray, List.set_cons_zero, List.set_cons_succ, i64_w, i32_w]
           rfl
          refine one_ (i := 10) (N := some 29) #[true, true, true, true, true, true, true, true, true, true, true, false, false, false, false, false, false, false, false, false, false, false, false, false, false, false, false, false, false, false, false, false, false, false, false, false, false] rfl rfl (one_of HT_.out (by kernel_rfl)) (by decide) (fun K hK => ?_)
          refine goes_ Try.func20 (by kernel_rfl) rfl #[.agg #[.int .i64 t263, .int .i64 t264, .int .i64 t265, .slice Ao64 t266.length co64, .slice Ao65 t269.length co65]] (by rfl) rfl rfl (by (try simp only [List.map_toArray, List.map_cons, List.map_nil]); first | done | rfl | (simp only [List.length_drop, List.length_take]; rfl)) ?_
          with_reducible refine (capnpref11_Trimmed.calls kj1 t263 t264 t265 _ _ t266 _ _ t269 true _ ?side1 ?side2 ?side3 ?side4 A27.out).mono ?_
          (case side1 => repeat (first | exact (Kd.R_reads' HO268.out).2.2 | (with_reducible refine Kd.C_alloc ?_ _) | (with_reducible refine Kd.C_drewN ?_ _) | (with_reducible refine Kd.C_drew ?_)))
          (case side2 => exact (Kd.R_reads' HO268.out).2.1)
          (case side3 => repeat (first | exact (Kd.R_reads' HO271.out).2.2 | (with_reducible refine Kd.C_alloc ?_ _) | (with_reducible refine Kd.C_drewN ?_ _) | (with_reducible refine Kd.C_drew ?_)))
          (case side4 => exact (Kd.R_reads' HO271.out).2.1)
          rintro e w73 ⟨rfl, hb⟩
          refine ⟨_, rfl, ?_⟩
          have n0_ := Aside0.mk (Kd.R_below (by (with_reducible repeat (first | apply Kd.R_alloc | apply Kd.R_drewN | apply Kd.R_drew)); exact HO268.out) hb)
          have n1_ := Aside0.mk (Kd.R_below (by (with_reducible repeat (first | apply Kd.R_alloc | apply Kd.R_drewN | apply Kd.R_drew)); exact HO271.out) hb)
          have n2_ := Aside0.mk (Kd.R_below (by (with_reducible repeat (first | apply Kd.R_alloc | apply Kd.R_drewN | apply Kd.R_drew)); exact HO278.out) hb)
          have n3_ := Aside0.mk (Kd.R_below (by (with_reducible repeat (first | apply Kd.R_alloc | apply Kd.R_drewN | apply Kd.R_drew)); exact HO281.out) hb)
          have n4_ := Aside0.mk (blk_below (g := gb258) (o := .cells #[.int .i64 a0_0, .int .i64 a0_1, .int .i64 a0_2, .slice A0_3 l0_3.length c0_3, .slice A0_4 l0_4.length c0_4] 25 (0, 0)) (by (with_reducible repeat (first | refine blk_drewN ?_ _ | refine blk_drew ?_ | refine blk_alloc ?_ _)); exact BK258.out) hb)
          have n5_ := Aside0.mk (blk_below (g := gb272) (o := .cells #[.int .i64 t263, .int .i64 t264, .int .i64 t265, .slice Ao64 t266.length co64, .slice Ao65 t269.length co65] 25 (0, 0)) (by (with_reducible repeat (first | refine blk_drewN ?_ _ | refine blk_drew ?_ | refine blk_alloc ?_ _)); exact BK272.out) hb)
          have n6_ := Aside0.mk (below_step (by repeat (first | (with_reducible first | exact HB.out | apply below_alloc | apply pw_below_drewN | apply below_drew1 | refine below_set ?_ GE258.out | refine below_set ?_ GE272.out) | exact HB.out)) hb)
          clear HO268
          clear HO271
          clear HO278
          clear HO281
          clear BK258
          clear BK272
          clear HB
          have HO268 := n0_
          have HO271 := n1_
          have HO278 := n2_
          have HO281 := n3_
          have BK258 := n4_
          have BK272 := n5_
          have HB := n6_
          clear n0_ n1_ n2_ n3_ n4_ n5_ n6_
          (try clear hb)
          (try clear hb2)
          (try clear hk)
          (try clear hi)
          refine hK.out _ _ ⟨(blk_cell BK272.out 0).trans rfl, (blk_cell BK272.out 1).trans rfl, (blk_cell BK272.out 2).trans rfl, (blk_cell BK272.out 3).trans rfl, (blk_cell BK272.out 4).trans rfl, (blk_cell BK258.out 0).trans rfl, (blk_cell BK258.out 1).trans rfl, (blk_cell BK258.out 2).trans rfl, (blk_cell BK258.out 3).trans rfl, (blk_cell BK258.out 4).trans rfl⟩ (fun hHeld => ?_)
          clear hK K
          refine norm_ (a' := ?_) ?_ ?_
          rotate_left
          ·show Act.put _ (some 29) _ = _
           simp only [Act.put, List.setIfInBounds_toArray, List.set_cons_zero, List.set_cons_succ, i64_w, i32_w]
           rfl
          refine pure_ (i := 11) (N := some 30) (v := ?_) (a' := ?_) #[true, true, true, true, true, true, true, true, true, true, true, true, false, false, false, false, false, false, false, false, false, false, false, false, false, false, false, false, false, false, false, false, false, false, false, false, false] rfl rfl (any_of HT_.out (by kernel_rfl)) (fun _ _ _ h => h) (Or.inl ⟨by rfl, ?_⟩) ?_ ?_
          rotate_left
          ·intro w'
           go_simp
           with_reducible rfl
          rotate_left
          ·simp only [Act.put, List.setIfInBounds_toArray, List.set_cons_zero, List.set_cons_succ, i64_w, i32_w]
           rfl
          refine pure_ (i := 12) (N := some 31) (v := ?_) (a' := ?_) #[true, true, true, true, true, true, true, true, true, true, true, true, true, false, false, false, false, false, false, false, false, false, false, false, false, false, false, false, false, false, false, false, false, false, false, false, false] rfl rfl (any_of HT_.out (by kernel_rfl)) (fun _ _ _ h => h) (Or.inl ⟨by rfl, ?_⟩) ?_ ?_
          rotate_left
          ·intro w'
           go_simp
           with_reducible rfl
          rotate_left
          ·simp only [Act.put, List.setIfInBounds_toArray, List.set_cons_zero, List.set_cons_succ, i64_w, i32_w]
           rfl
          refine take_ (i := 13) (N := some 32) (v := ?_) (a' := ?_) #[true, true, true, true, true, true, true, true, true, true, true, true, true, true, false, false, false, false, false, false, false, false, false, false, false, false, false, false, false, false, false, false, false, false, false, false, false] rfl rfl (take_ofW HT_.out HW_.out (by kernel_rfl)) (fun _ _ _ h => h) (Or.inl ⟨by rfl, ?_⟩) hHeld ?_ ?_
          rotate_left
          ·rintro w' ⟨s0, s1, s2, s3, s4, s5, s6, s7, s8, s9⟩
           go_simp
           with_reducible rfl
          rotate_left
          ·simp only [Act.put, List.setIfInBounds_toArray, List.set_cons_zero, List.set_cons_succ, i64_w, i32_w]
           rfl
          refine take_ (i := 15) (N := some 34) (v := ?_) (a' := ?_) #[true, true, true, true, true, true, true, true, true, true, true, true, true, true, false, true, false, false, false, false, false, false, false, false, false, false, false, false, false, false, false, false, false, false, false, false, false] rfl rfl (take_ofW HT_.out HW_.out (by kernel_rfl)) (fun _ _ _ h => h) (Or.inl ⟨by rfl, ?_⟩) hHeld ?_ ?_
          rotate_left
          ·rintro w' ⟨s0, s1, s2, s3, s4, s5, s6, s7, s8, s9⟩
           go_simp
           with_reducible rfl
          rotate_left
          ·simp only [Act.put, List.setIfInBounds_toArray, List.set_cons_zero, List.set_cons_succ, i64_w, i32_w]
           rfl
          refine one_ (i := 14) (N := some 33) #[true, true, true, true, true, true, true, true, true, true, true, true, true, true, true, true, false, false, false, false, false, false, false, false, false, false, false, false, false, false, false, false, false, false, false, false, false] rfl rfl (one_of HT_.out (by kernel_rfl)) (by decide) (fun K hK => ?_)
          refine goes_ Try.func21 (by kernel_rfl) rfl #[.agg #[.int .i64 t263, .int .i64 t264, .int .i64 t265, .slice Ao64 t266.length co64, .slice Ao65 t269.length co65]] (by rfl) rfl rfl (by (try simp only [List.map_toArray, List.map_cons, List.map_nil]); first | done | rfl | (simp only [List.length_drop, List.length_take]; rfl)) ?_
          with_reducible refine (capnpref10_Depth.calls kj1 t263 t264 t265 _ _ t266 _ _ t269 t285 _ ?side1 ?side2 ?side3 ?side4 A29.out).mono ?_
          (case side1 => repeat (first | exact (Kd.R_reads' HO268.out).2.2 | (with_reducible refine Kd.C_alloc ?_ _) | (with_reducible refine Kd.C_drewN ?_ _) | (with_reducible refine Kd.C_drew ?_)))
          (case side2 => exact (Kd.R_reads' HO268.out).2.1)
          (case side3 => repeat (first | exact (Kd.R_reads' HO271.out).2.2 | (with_reducible refine Kd.C_alloc ?_ _) | (with_reducible refine Kd.C_drewN ?_ _) | (with_reducible refine Kd.C_drew ?_)))
          (case side4 => exact (Kd.R_reads' HO271.out).2.1)
          rintro e w74 ⟨rfl, hb⟩
          refine ⟨_, rfl, ?_⟩
          have n0_ := Aside0.mk (Kd.R_below (by (with_reducible repeat (first | apply Kd.R_alloc | apply Kd.R_drewN | apply Kd.R_drew)); exact HO268.out) hb)
          have n1_ := Aside0.mk (Kd.R_below (by (with_reducible repeat (first | apply Kd.R_alloc | apply Kd.R_drewN | apply Kd.R_drew)); exact HO271.out) hb)
          have n2_ := Aside0.mk (Kd.R_below (by (with_reducible repeat (first | apply Kd.R_alloc | apply Kd.R_drewN | apply Kd.R_drew)); exact HO278.out) hb)
          have n3_ := Aside0.mk (Kd.R_below (by (with_reducible repeat (first | apply Kd.R_alloc | apply Kd.R_drewN | apply Kd.R_drew)); exact HO281.out) hb)
          have n4_ := Aside0.mk (blk_below (g := gb258) (o := .cells #[.int .i64 a0_0, .int .i64 a0_1, .int .i64 a0_2, .slice A0_3 l0_3.length c0_3, .slice A0_4 l0_4.length c0_4] 25 (0, 0)) (by (with_reducible repeat (first | refine blk_drewN ?_ _ | refine blk_drew ?_ | refine blk_alloc ?_ _)); exact BK258.out) hb)
          have n5_ := Aside0.mk (blk_below (g := gb272) (o := .cells #[.int .i64 t263, .int .i64 t264, .int .i64 t265, .slice Ao64 t266.length co64, .slice Ao65 t269.length co65] 25 (0, 0)) (by (with_reducible repeat (first | refine blk_drewN ?_ _ | refine blk_drew ?_ | refine blk_alloc ?_ _)); exact BK272.out) hb)
          have n6_ := Aside0.mk (below_step (by repeat (first | (with_reducible first | exact HB.out | apply below_alloc | apply pw_below_drewN | apply below_drew1 | refine below_set ?_ GE258.out | refine below_set ?_ GE272.out) | exact HB.out)) hb)
          clear HO268
          clear HO271
          clear HO278
          clear HO281
          clear BK258
          clear BK272
          clear HB
          have HO268 := n0_
          have HO271 := n1_
          have HO278 := n2_
          have HO281 := n3_
          have BK258 := n4_
          have BK272 := n5_
          have HB := n6_
          clear n0_ n1_ n2_ n3_ n4_ n5_ n6_
          (try clear hb)
          (try clear hb2)
          (try clear hk)
          (try clear hi)
          refine hK.out _ _ ⟨(blk_cell BK272.out 0).trans rfl, (blk_cell BK272.out 1).trans rfl, (blk_cell BK272.out 2).trans rfl, (blk_cell BK272.out 3).trans rfl, (blk_cell BK272.out 4).trans rfl, (blk_cell BK258.out 0).trans rfl, (blk_cell BK258.out 1).trans rfl, (blk_cell BK258.out 2).trans rfl, (blk_cell BK258.out 3).trans rfl, (blk_cell BK258.out 4).trans rfl⟩ (fun hHeld => ?_)
          clear hK K
          refine norm_ (a' := ?_) ?_ ?_
          rotate_left
          ·show Act.put _ (some 33) _ = _
           simp only [Act.put, List.setIfInBounds_toArray, List.set_cons_zero, List.set_cons_succ, i64_w, i32_w]
           rfl
          refine one_ (i := 16) (N := some 35) #[true, true, true, true, true, true, true, true, true, true, true, true, true, true, true, true, true, false, false, false, false, false, false, false, false, false, false, false, false, false, false, false, false, false, false, false, false] rfl rfl (one_of HT_.out (by kernel_rfl)) (by decide) (fun K hK => ?_)
          refine goes_ Try.func21 (by kernel_rfl) rfl #[.agg #[.int .i64 a0_0, .int .i64 a0_1, .int .i64 a0_2, .slice A0_3 l0_3.length c0_3, .slice A0_4 l0_4.length c0_4]] (by rfl) rfl rfl (by (try simp only [List.map_toArray, List.map_cons, List.map_nil]); first | done | rfl | (simp only [List.length_drop, List.length_take]; rfl)) ?_
          with_reducible refine (capnpref10_Depth.calls kj1 a0_0 a0_1 a0_2 _ _ l0_3 _ _ l0_4 t286 _ ?side1 ?side2 ?side3 ?side4 A30.out).mono ?_
          (case side1 => repeat (first | exact (Kd.C_below HR0_3.out HB.out) | (with_reducible refine Kd.C_alloc ?_ _) | (with_reducible refine Kd.C_drewN ?_ _) | (with_reducible refine Kd.C_drew ?_)))
          (case side2 => exact HC0_3.out)
          (case side3 => repeat (first | exact (Kd.C_below HR0_4.out HB.out) | (with_reducible refine Kd.C_alloc ?_ _) | (with_reducible refine Kd.C_drewN ?_ _) | (with_reducible refine Kd.C_drew ?_)))
          (case side4 => exact HC0_4.out)
          rintro e w75 ⟨rfl, hb⟩
          refine ⟨_, rfl, ?_⟩
          have n0_ := Aside0.mk (Kd.R_below (by (with_reducible repeat (first | apply Kd.R_alloc | apply Kd.R_drewN | apply Kd.R_drew)); exact HO268.out) hb)
          have n1_ := Aside0.mk (Kd.R_below (by (with_reducible repeat (first | apply Kd.R_alloc | apply Kd.R_drewN | apply Kd.R_drew)); exact HO271.out) hb)
          have n2_ := Aside0.mk (Kd.R_below (by (with_reducible repeat (first | apply Kd.R_alloc | apply Kd.R_drewN | apply Kd.R_drew)); exact HO278.out) hb)
          have n3_ := Aside0.mk (Kd.R_below (by (with_reducible repeat (first | apply Kd.R_alloc | apply Kd.R_drewN | apply Kd.R_drew)); exact HO281.out) hb)
          have n4_ := Aside0.mk (blk_below (g := gb258) (o := .cells #[.int .i64 a0_0, .int .i64 a0_1, .int .i64 a0_2, .slice A0_3 l0_3.length c0_3, .slice A0_4 l0_4.length c0_4] 25 (0, 0)) (by (with_reducible repeat (first | refine blk_drewN ?_ _ | refine blk_drew ?_ | refine blk_alloc ?_ _)); exact BK258.out) hb)
          have n5_ := Aside0.mk (blk_below (g := gb272) (o := .cells #[.int .i64 t263, .int .i64 t264, .int .i64 t265, .slice Ao64 t266.length co64, .slice Ao65 t269.length co65] 25 (0, 0)) (by (with_reducible repeat (first | refine blk_drewN ?_ _ | refine blk_drew ?_ | refine blk_alloc ?_ _)); exact BK272.out) hb)
          have n6_ := Aside0.mk (below_step (by repeat (first | (with_reducible first | exact HB.out | apply below_alloc | apply pw_below_drewN | apply below_drew1 | refine below_set ?_ GE258.out | refine below_set ?_ GE272.out) | exact HB.out)) hb)
          clear HO268
          clear HO271
          clear HO278
          clear HO281
          clear BK258
          clear BK272
          clear HB
          have HO268 := n0_
          have HO271 := n1_
          have HO278 := n2_
          have HO281 := n3_
          have BK258 := n4_
          have BK272 := n5_
          have HB := n6_
          clear n0_ n1_ n2_ n3_ n4_ n5_ n6_
          (try clear hb)
          (try clear hb2)
          (try clear hk)
          (try clear hi)
          refine hK.out _ _ ⟨(blk_cell BK272.out 0).trans rfl, (blk_cell BK272.out 1).trans rfl, (blk_cell BK272.out 2).trans rfl, (blk_cell BK272.out 3).trans rfl, (blk_cell BK272.out 4).trans rfl, (blk_cell BK258.out 0).trans rfl, (blk_cell BK258.out 1).trans rfl, (blk_cell BK258.out 2).trans rfl, (blk_cell BK258.out 3).trans rfl, (blk_cell BK258.out 4).trans rfl⟩ (fun hHeld => ?_)
          clear hK K
          refine norm_ (a' := ?_) ?_ ?_
          rotate_left
          ·show Act.put _ (some 35) _ = _
           simp only [Act.put, List.setIfInBounds_toArray, List.set_cons_zero, List.set_cons_succ, i64_w, i32_w]
           rfl
          refine pure_ (i := 17) (N := some 36) (v := ?_) (a' := ?_) #[true, true, true, true, true, true, true, true, true, true, true, true, true, true, true, true, true, true, false, false, false, false, false, false, false, false, false, false, false, false, false, false, false, false, false, false, false] rfl rfl (any_of HT_.out (by kernel_rfl)) (fun _ _ _ h => h) (Or.inl ⟨by rfl, ?_⟩) ?_ ?_
          rotate_left
          ·intro w'
           go_simp
           with_reducible rfl
          rotate_left
          ·simp only [Act.put, List.setIfInBounds_toArray, List.set_cons_zero, List.set_cons_succ, i64_w, i32_w]
           rfl
          refine pure_ (i := 18) (N := some 37) (v := ?_) (a' := ?_) #[true, true, true, true, true, true, true, true, true, true, true, true, true, true, true, true, true, true, true, false, false, false, false, false, false, false, false, false, false, false, false, false, false, false, false, false, false] rfl rfl (any_of HT_.out (by kernel_rfl)) (fun _ _ _ h => h) (Or.inl ⟨by rfl, ?_⟩) ?_ ?_
          rotate_left
          ·intro w'
           go_simp
           with_reducible rfl
          rotate_left
          ·simp only [Act.put, List.setIfInBounds_toArray, List.set_cons_zero, List.set_cons_succ, i64_w, i32_w]
           rfl
          refine pure_ (i := 19) (N := some 38) (v := ?_) (a' := ?_) #[true, true, true, true, true, true, true, true, true, true, true, true, true, true, true, true, true, true, true, true, false, false, false, false, false, false, false, false, false, false, false, false, false, false, false, false, false] rfl rfl (any_of HT_.out (by kernel_rfl)) (fun _ _ _ h => h) (Or.inl ⟨by rfl, ?_⟩) ?_ ?_
          rotate_left
          ·intro w'
           go_simp
           with_reducible rfl
          rotate_left
          ·simp only [Act.put, List.setIfInBounds_toArray, List.set_cons_zero, List.set_cons_succ, i64_w, i32_w]
           rfl
          refine take_ (i := 20) (N := some 39) (v := ?_) (a' := ?_) #[true, true, true, true, true, true, true, true, true, true, true, true, true, true, true, true, true, true, true, true, true, false, false, false, false, false, false, false, false, false, false, false, false, false, false, false, false] rfl rfl (take_ofW HT_.out HW_.out (by kernel_rfl)) (fun _ _ _ h => h) (Or.inl ⟨by rfl, ?_⟩) hHeld ?_ ?_
          rotate_left
          ·rintro w' ⟨s0, s1, s2, s3, s4, s5, s6, s7, s8, s9⟩
           go_simp
           with_reducible rfl
          rotate_left
          ·simp only [Act.put, List.setIfInBounds_toArray, List.set_cons_zero, List.set_cons_succ, i64_w, i32_w]
           rfl
          refine take_ (i := 22) (N := some 41) (v := ?_) (a' := ?_) #[true, true, true, true, true, true, true, true, true, true, true, true, true, true, true, true, true, true, true, true, true, false, true, false, false, false, false, false, false, false, false, false, false, false, false, false, false] rfl rfl (take_ofW HT_.out HW_.out (by kernel_rfl)) (fun _ _ _ h => h) (Or.inl ⟨by rfl, ?_⟩) hHeld ?_ ?_
          rotate_left
          ·rintro w' ⟨s0, s1, s2, s3, s4, s5, s6, s7, s8, s9⟩
           go_simp
           with_reducible rfl
          rotate_left
          ·simp only [Act.put, List.setIfInBounds_toArray, List.set_cons_zero, List.set_cons_succ, i64_w, i32_w]
           rfl
          refine one_ (i := 21) (N := some 40) #[true, true, true, true, true, true, true, true, true, true, true, true, true, true, true, true, true, true, true, true, true, true, true, false, false, false, false, false, false, false, false, false, false, false, false, false, false] rfl rfl (one_of HT_.out (by kernel_rfl)) (by decide) (fun K hK => ?_)
          refine goes_ Try.func22 (by kernel_rfl) rfl #[.agg #[.int .i64 t263, .int .i64 t264, .int .i64 t265, .slice Ao64 t266.length co64, .slice Ao65 t269.length co65]] (by rfl) rfl rfl (by (try simp only [List.map_toArray, List.map_cons, List.map_nil]); first | done | rfl | (simp only [List.length_drop, List.length_take]; rfl)) ?_
          with_reducible refine (capnpref10_Objects.calls kj1 t263 t264 t265 _ _ t266 _ _ t269 t287 _ ?side1 ?side2 ?side3 ?side4 A32.out).mono ?_
          (case side1 => repeat (first | exact (Kd.R_reads' HO268.out).2.2 | (with_reducible refine Kd.C_alloc ?_ _) | (with_reducible refine Kd.C_drewN ?_ _) | (with_reducible refine Kd.C_drew ?_)))
          (case side2 => exact (Kd.R_reads' HO268.out).2.1)
          (case side3 => repeat (first | exact (Kd.R_reads' HO271.out).2.2 | (with_reducible refine Kd.C_alloc ?_ _) | (with_reducible refine Kd.C_drewN ?_ _) | (with_reducible refine Kd.C_drew ?_)))
          (case side4 => exact (Kd.R_reads' HO271.out).2.1)
          rintro e w76 ⟨rfl, hb⟩
          refine ⟨_, rfl, ?_⟩
          have n0_ := Aside0.mk (Kd.R_below (by (with_reducible repeat (first | apply Kd.R_alloc | apply Kd.R_drewN | apply Kd.R_drew)); exact HO268.out) hb)
          have n1_ := Aside0.mk (Kd.R_below (by (with_reducible repeat (first | apply Kd.R_alloc | apply Kd.R_drewN | apply Kd.R_drew)); exact HO271.out) hb)
          have n2_ := Aside0.mk (Kd.R_below (by (with_reducible repeat (first | apply Kd.R_alloc | apply Kd.R_drewN | apply Kd.R_drew)); exact HO278.out) hb)
          have n3_ := Aside0.mk (Kd.R_below (by (with_reducible repeat (first | apply Kd.R_alloc | apply Kd.R_drewN | apply Kd.R_drew)); exact HO281.out) hb)
          have n4_ := Aside0.mk (blk_below (g := gb258) (o := .cells #[.int .i64 a0_0, .int .i64 a0_1, .int .i64 a0_2, .slice A0_3 l0_3.length c0_3, .slice A0_4 l0_4.length c0_4] 25 (0, 0)) (by (with_reducible repeat (first | refine blk_drewN ?_ _ | refine blk_drew ?_ | refine blk_alloc ?_ _)); exact BK258.out) hb)
          have n5_ := Aside0.mk (blk_below (g := gb272) (o := .cells #[.int .i64 t263, .int .i64 t264, .int .i64 t265, .slice Ao64 t266.length co64, .slice Ao65 t269.length co65] 25 (0, 0)) (by (with_reducible repeat (first | refine blk_drewN ?_ _ | refine blk_drew ?_ | refine blk_alloc ?_ _)); exact BK272.out) hb)
          have n6_ := Aside0.mk (below_step (by repeat (first | (with_reducible first | exact HB.out | apply below_alloc | apply pw_below_drewN | apply below_drew1 | refine below_set ?_ GE258.out | refine below_set ?_ GE272.out) | exact HB.out)) hb)
          clear HO268
          clear HO271
          clear HO278
          clear HO281
          clear BK258
          clear BK272
          clear HB
          have HO268 := n0_
          have HO271 := n1_
          have HO278 := n2_
          have HO281 := n3_
          have BK258 := n4_
          have BK272 := n5_
          have HB := n6_
          clear n0_ n1_ n2_ n3_ n4_ n5_ n6_
          (try clear hb)
          (try clear hb2)
          (try clear hk)
          (try clear hi)
          refine hK.out _ _ ⟨(blk_cell BK272.out 0).trans rfl, (blk_cell BK272.out 1).trans rfl, (blk_cell BK272.out 2).trans rfl, (blk_cell BK272.out 3).trans rfl, (blk_cell BK272.out 4).trans rfl, (blk_cell BK258.out 0).trans rfl, (blk_cell BK258.out 1).trans rfl, (blk_cell BK258.out 2).trans rfl, (blk_cell BK258.out 3).trans rfl, (blk_cell BK258.out 4).trans rfl⟩ (fun hHeld => ?_)
          clear hK K
          refine norm_ (a' := ?_) ?_ ?_
          rotate_left
          ·show Act.put _ (some 40) _ = _
           simp only [Act.put, List.setIfInBounds_toArray, List.set_cons_zero, List.set_cons_succ, i64_w, i32_w]
           rfl
          refine one_ (i := 23) (N := some 42) #[true, true, true, true, true, true, true, true, true, true, true, true, true, true, true, true, true, true, true, true, true, true, true, true, false, false, false, false, false, false, false, false, false, false, false, false, false] rfl rfl (one_of HT_.out (by kernel_rfl)) (by decide) (fun K hK => ?_)
          refine goes_ Try.func22 (by kernel_rfl) rfl #[.agg #[.int .i64 a0_0, .int .i64 a0_1, .int .i64 a0_2, .slice A0_3 l0_3.length c0_3, .slice A0_4 l0_4.length c0_4]] (by rfl) rfl rfl (by (try simp only [List.map_toArray, List.map_cons, List.map_nil]); first | done | rfl | (simp only [List.length_drop, List.length_take]; rfl)) ?_
          with_reducible refine (capnpref10_Objects.calls kj1 a0_0 a0_1 a0_2 _ _ l0_3 _ _ l0_4 t288 _ ?side1 ?side2 ?side3 ?side4 A33.out).mono ?_
          (case side1 => repeat (first | exact (Kd.C_below HR0_3.out HB.out) | (with_reducible refine Kd.C_alloc ?_ _) | (with_reducible refine Kd.C_drewN ?_ _) | (with_reducible refine Kd.C_drew ?_)))
          (case side2 => exact HC0_3.out)
          (case side3 => repeat (first | exact (Kd.C_below HR0_4.out HB.out) | (with_reducible refine Kd.C_alloc ?_ _) | (with_reducible refine Kd.C_drewN ?_ _) | (with_reducible refine Kd.C_drew ?_)))
          (case side4 => exact HC0_4.out)
          rintro e w77 ⟨rfl, hb⟩
          refine ⟨_, rfl, ?_⟩
          have n0_ := Aside0.mk (Kd.R_below (by (with_reducible repeat (first | apply Kd.R_alloc | apply Kd.R_drewN | apply Kd.R_drew)); exact HO268.out) hb)
          have n1_ := Aside0.mk (Kd.R_below (by (with_reducible repeat (first | apply Kd.R_alloc | apply Kd.R_drewN | apply Kd.R_drew)); exact HO271.out) hb)
          have n2_ := Aside0.mk (Kd.R_below (by (with_reducible repeat (first | apply Kd.R_alloc | apply Kd.R_drewN | apply Kd.R_drew)); exact HO278.out) hb)
          have n3_ := Aside0.mk (Kd.R_below (by (with_reducible repeat (first | apply Kd.R_alloc | apply Kd.R_drewN | apply Kd.R_drew)); exact HO281.out) hb)
          have n4_ := Aside0.mk (blk_below (g := gb258) (o := .cells #[.int .i64 a0_0, .int .i64 a0_1, .int .i64 a0_2, .slice A0_3 l0_3.length c0_3, .slice A0_4 l0_4.length c0_4] 25 (0, 0)) (by (with_reducible repeat (first | refine blk_drewN ?_ _ | refine blk_drew ?_ | refine blk_alloc ?_ _)); exact BK258.out) hb)
          have n5_ := Aside0.mk (blk_below (g := gb272) (o := .cells #[.int .i64 t263, .int .i64 t264, .int .i64 t265, .slice Ao64 t266.length co64, .slice Ao65 t269.length co65] 25 (0, 0)) (by (with_reducible repeat (first | refine blk_drewN ?_ _ | refine blk_drew ?_ | refine blk_alloc ?_ _)); exact BK272.out) hb)
          have n6_ := Aside0.mk (below_step (by repeat (first | (with_reducible first | exact HB.out | apply below_alloc | apply pw_below_drewN | apply below_drew1 | refine below_set ?_ GE258.out | refine below_set ?_ GE272.out) | exact HB.out)) hb)
          clear HO268
          clear HO271
          clear HO278
          clear HO281
          clear BK258
          clear BK272
          clear HB
          have HO268 := n0_
          have HO271 := n1_
          have HO278 := n2_
          have HO281 := n3_
          have BK258 := n4_
          have BK272 := n5_
          have HB := n6_
          clear n0_ n1_ n2_ n3_ n4_ n5_ n6_
          (try clear hb)
          (try clear hb2)
          (try clear hk)
          (try clear hi)
          refine hK.out _ _ ⟨(blk_cell BK272.out 0).trans rfl, (blk_cell BK272.out 1).trans rfl, (blk_cell BK272.out 2).trans rfl, (blk_cell BK272.out 3).trans rfl, (blk_cell BK272.out 4).trans rfl, (blk_cell BK258.out 0).trans rfl, (blk_cell BK258.out 1).trans rfl, (blk_cell BK258.out 2).trans rfl, (blk_cell BK258.out 3).trans rfl, (blk_cell BK258.out 4).trans rfl⟩ (fun hHeld => ?_)
          clear hK K
          refine norm_ (a' := ?_) ?_ ?_
          rotate_left
          ·show Act.put _ (some 42) _ = _
           simp only [Act.put, List.setIfInBounds_toArray, List.set_cons_zero, List.set_cons_succ, i64_w, i32_w]
           rfl
          refine pure_ (i := 24) (N := some 43) (v := ?_) (a' := ?_) #[true, true, true, true, true, true, true, true, true, true, true, true, true, true, true, true, true, true, true, true, true, true, true, true, true, false, false, false, false, false, false, false, false, false, false, false, false] rfl rfl (any_of HT_.out (by kernel_rfl)) (fun _ _ _ h => h) (Or.inl ⟨by rfl, ?_⟩) ?_ ?_
          rotate_left
          ·intro w'
           go_simp
           with_reducible rfl
          rotate_left
          ·simp only [Act.put, List.setIfInBounds_toArray, List.set_cons_zero, List.set_cons_succ, i64_w, i32_w]
           rfl
          refine pure_ (i := 25) (N := some 44) (v := ?_) (a' := ?_) #[true, true, true, true, true, true, true, true, true, true, true, true, true, true, true, true, true, true, true, true, true, true, true, true, true, true, false, false, false, false, false, false, false, false, false, false, false] rfl rfl (any_of HT_.out (by kernel_rfl)) (fun _ _ _ h => h) (Or.inl ⟨by rfl, ?_⟩) ?_ ?_
          rotate_left
          ·intro w'
           go_simp
           with_reducible rfl
          rotate_left
          ·simp only [Act.put, List.setIfInBounds_toArray, List.set_cons_zero, List.set_cons_succ, i64_w, i32_w]
           rfl
          refine pure_ (i := 26) (N := some 45) (v := ?_) (a' := ?_) #[true, true, true, true, true, true, true, true, true, true, true, true, true, true, true, true, true, true, true, true, true, true, true, true, true, true, true, false, false, false, false, false, false, false, false, false, false] rfl rfl (any_of HT_.out (by kernel_rfl)) (fun _ _ _ h => h) (Or.inl ⟨by rfl, ?_⟩) ?_ ?_
          rotate_left
          ·intro w'
           go_simp
           with_reducible rfl
          rotate_left
          ·simp only [Act.put, List.setIfInBounds_toArray, List.set_cons_zero, List.set_cons_succ, i64_w, i32_w]
           rfl
          refine take_ (i := 27) (N := some 46) (v := ?_) (a' := ?_) #[true, true, true, true, true, true, true, true, true, true, true, true, true, true, true, true, true, true, true, true, true, true, true, true, true, true, true, true, false, false, false, false, false, false, false, false, false] rfl rfl (take_ofW HT_.out HW_.out (by kernel_rfl)) (fun _ _ _ h => h) (Or.inl ⟨by rfl, ?_⟩) hHeld ?_ ?_
          rotate_left
          ·rintro w' ⟨s0, s1, s2, s3, s4, s5, s6, s7, s8, s9⟩
           go_simp
           with_reducible rfl
          rotate_left
          ·simp only [Act.put, List.setIfInBounds_toArray, List.set_cons_zero, List.set_cons_succ, i64_w, i32_w]
           rfl
          refine one_ (i := 28) (N := some 47) #[true, true, true, true, true, true, true, true, true, true, true, true, true, true, true, true, true, true, true, true, true, true, true, true, true, true, true, true, true, false, false, false, false, false, false, false, false] rfl rfl (one_of HT_.out (by kernel_rfl)) (by decide) (fun K hK => ?_)
          refine goes_ Try.func20 (by kernel_rfl) rfl #[.agg #[.int .i64 a0_0, .int .i64 a0_1, .int .i64 a0_2, .slice A0_3 l0_3.length c0_3, .slice A0_4 l0_4.length c0_4]] (by rfl) rfl rfl (by (try simp only [List.map_toArray, List.map_cons, List.map_nil]); first | done | rfl | (simp only [List.length_drop, List.length_take]; rfl)) ?_
          with_reducible refine (capnpref11_Trimmed.calls kj1 a0_0 a0_1 a0_2 _ _ l0_3 _ _ l0_4 false _ ?side1 ?side2 ?side3 ?side4 A35.out).mono ?_
          (case side1 => repeat (first | exact (Kd.C_below HR0_3.out HB.out) | (with_reducible refine Kd.C_alloc ?_ _) | (with_reducible refine Kd.C_drewN ?_ _) | (with_reducible refine Kd.C_drew ?_)))
          (case side2 => exact HC0_3.out)
          (case side3 => repeat (first | exact (Kd.C_below HR0_4.out HB.out) | (with_reducible refine Kd.C_alloc ?_ _) | (with_reducible refine Kd.C_drewN ?_ _) | (with_reducible refine Kd.C_drew ?_)))
          (case side4 => exact HC0_4.out)
          rintro e w78 ⟨rfl, hb⟩
          refine ⟨_, rfl, ?_⟩
          have n0_ := Aside0.mk (Kd.R_below (by (with_reducible repeat (first | apply Kd.R_alloc | apply Kd.R_drewN | apply Kd.R_drew)); exact HO268.out) hb)
          have n1_ := Aside0.mk (Kd.R_below (by (with_reducible repeat (first | apply Kd.R_alloc | apply Kd.R_drewN | apply Kd.R_drew)); exact HO271.out) hb)
          have n2_ := Aside0.mk (Kd.R_below (by (with_reducible repeat (first | apply Kd.R_alloc | apply Kd.R_drewN | apply Kd.R_drew)); exact HO278.out) hb)
          have n3_ := Aside0.mk (Kd.R_below (by (with_reducible repeat (first | apply Kd.R_alloc | apply Kd.R_drewN | apply Kd.R_drew)); exact HO281.out) hb)
          have n4_ := Aside0.mk (blk_below (g := gb258) (o := .cells #[.int .i64 a0_0, .int .i64 a0_1, .int .i64 a0_2, .slice A0_3 l0_3.length c0_3, .slice A0_4 l0_4.length c0_4] 25 (0, 0)) (by (with_reducible repeat (first | refine blk_drewN ?_ _ | refine blk_drew ?_ | refine blk_alloc ?_ _)); exact BK258.out) hb)
          have n5_ := Aside0.mk (blk_below (g := gb272) (o := .cells #[.int .i64 t263, .int .i64 t264, .int .i64 t265, .slice Ao64 t266.length co64, .slice Ao65 t269.length co65] 25 (0, 0)) (by (with_reducible repeat (first | refine blk_drewN ?_ _ | refine blk_drew ?_ | refine blk_alloc ?_ _)); exact BK272.out) hb)
          have n6_ := Aside0.mk (below_step (by repeat (first | (with_reducible first | exact HB.out | apply below_alloc | apply pw_below_drewN | apply below_drew1 | refine below_set ?_ GE258.out | refine below_set ?_ GE272.out) | exact HB.out)) hb)
          clear HO268
          clear HO271
          clear HO278
          clear HO281
          clear BK258
          clear BK272
          clear HB
          have HO268 := n0_
          have HO271 := n1_
          have HO278 := n2_
          have HO281 := n3_
          have BK258 := n4_
          have BK272 := n5_
          have HB := n6_
          clear n0_ n1_ n2_ n3_ n4_ n5_ n6_
          (try clear hb)
          (try clear hb2)
          (try clear hk)
          (try clear hi)
          refine hK.out _ _ ⟨(blk_cell BK272.out 0).trans rfl, (blk_cell BK272.out 1).trans rfl, (blk_cell BK272.out 2).trans rfl, (blk_cell BK272.out 3).trans rfl, (blk_cell BK272.out 4).trans rfl, (blk_cell BK258.out 0).trans rfl, (blk_cell BK258.out 1).trans rfl, (blk_cell BK258.out 2).trans rfl, (blk_cell BK258.out 3).trans rfl, (blk_cell BK258.out 4).trans rfl⟩ (fun hHeld => ?_)
          clear hK K
          refine norm_ (a' := ?_) ?_ ?_
          rotate_left
          ·show Act.put _ (some 47) _ = _
           simp only [Act.put, List.setIfInBounds_toArray, List.set_cons_zero, List.set_cons_succ, i64_w, i32_w]
           rfl
          refine pure_ (i := 29) (N := some 48) (v := ?_) (a' := ?_) #[true, true, true, true, true, true, true, true, true, true, true, true, true, true, true, true, true, true, true, true, true, true, true, true, true, true, true, true, true, true, false, false, false, false, false, false, false] rfl rfl (any_of HT_.out (by kernel_rfl)) (fun _ _ _ h => h) (Or.inl ⟨by rfl, ?_⟩) ?_ ?_
          rotate_left
          ·intro w'
           go_simp
           with_reducible rfl
          rotate_left
          ·simp only [Act.put, List.setIfInBounds_toArray, List.set_cons_zero, List.set_cons_succ, i64_w, i32_w]
           rfl
          refine pure_ (i := 30) (N := some 49) (v := ?_) (a' := ?_) #[true, true, true, true, true, true, true, true, true, true, true, true, true, true, true, true, true, true, true, true, true, true, true, true, true, true, true, true, true, true, true, false, false, false, false, false, false] rfl rfl (any_of HT_.out (by kernel_rfl)) (fun _ _ _ h => h) (Or.inl ⟨by rfl, ?_⟩) ?_ ?_
          rotate_left
          ·intro w'
           go_simp
           with_reducible rfl
          rotate_left
          ·simp only [Act.put, List.setIfInBounds_toArray, List.set_cons_zero, List.set_cons_succ, i64_w, i32_w]
           rfl
          refine pure_ (i := 31) (N := some 50) (v := undef) (a' := ?_) #[true, true, true, true, true, true, true, true, true, true, true, true, true, true, true, true, true, true, true, true, true, true, true, true, true, true, true, true, true, true, true, true, false, false, false, false, false] rfl rfl (any_of HT_.out (by kernel_rfl)) (fun _ _ _ h => h) (Or.inr ⟨by rfl, rfl⟩) ?_ ?_
          rotate_left
          ·simp only [Act.put, List.setIfInBounds_toArray, List.set_cons_zero, List.set_cons_succ, i64_w, i32_w]
           rfl
          refine pure_ (i := 32) (N := some 51) (v := undef) (a' := ?_) #[true, true, true, true, true, true, true, true, true, true, true, true, true, true, true, true, true, true, true, true, true, true, true, true, true, true, true, true, true, true, true, true, true, false, false, false, false] rfl rfl (any_of HT_.out (by kernel_rfl)) (fun _ _ _ h => h) (Or.inr ⟨by rfl, rfl⟩) ?_ ?_
          rotate_left
          ·simp only [Act.put, List.setIfInBounds_toArray, List.set_cons_zero, List.set_cons_succ, i64_w, i32_w]
           rfl
          refine pure_ (i := 33) (N := some 52) (v := undef) (a' := ?_) #[true, true, true, true, true, true, true, true, true, true, true, true, true, true, true, true, true, true, true, true, true, true, true, true, true, true, true, true, true, true, true, true, true, true, false, false, false] rfl rfl (any_of HT_.out (by kernel_rfl)) (fun _ _ _ h => h) (Or.inr ⟨by rfl, rfl⟩) ?_ ?_
          rotate_left
          ·simp only [Act.put, List.setIfInBounds_toArray, List.set_cons_zero, List.set_cons_succ, i64_w, i32_w]
           rfl
          refine pure_ (i := 34) (N := some 53) (v := ?_) (a' := ?_) #[true, true, true, true, true, true, true, true, true, true, true, true, true, true, true, true, true, true, true, true, true, true, true, true, true, true, true, true, true, true, true, true, true, true, true, false, false] rfl rfl (any_of HT_.out (by kernel_rfl)) (fun _ _ _ h => h) (Or.inl ⟨by rfl, ?_⟩) ?_ ?_
          rotate_left
          ·intro w'
           go_simp
           with_reducible rfl
          rotate_left
          ·simp only [Act.put, List.setIfInBounds_toArray, List.set_cons_zero, List.set_cons_succ, i64_w, i32_w]
           rfl
          refine pure_ (i := 35) (N := some 54) (v := ?_) (a' := ?_) #[true, true, true, true, true, true, true, true, true, true, true, true, true, true, true, true, true, true, true, true, true, true, true, true, true, true, true, true, true, true, true, true, true, true, true, true, false] rfl rfl (any_of HT_.out (by kernel_rfl)) (fun _ _ _ h => h) (Or.inl ⟨by rfl, ?_⟩) ?_ ?_
          rotate_left
          ·intro w'
           go_simp
           with_reducible rfl
          rotate_left
          ·simp only [Act.put, List.setIfInBounds_toArray, List.set_cons_zero, List.set_cons_succ, i64_w, i32_w]
           rfl
          refine pure_ (i := 36) (N := some 2) (v := ?_) (a' := ?_) #[true, true, true, true, true, true, true, true, true, true, true, true, true, true, true, true, true, true, true, true, true, true, true, true, true, true, true, true, true, true, true, true, true, true, true, true, true] rfl rfl (any_of HT_.out (by kernel_rfl)) (fun _ _ _ h => h) (Or.inl ⟨by rfl, ?_⟩) ?_ ?_
          rotate_left
          ·intro w'
           go_simp
           with_reducible rfl
          rotate_left
          ·simp only [Act.put, List.setIfInBounds_toArray, List.set_cons_zero, List.set_cons_succ, i64_w, i32_w]
           rfl
          refine done_ (done_of HT_.out (by kernel_rfl)) ?_
          try go_wp2
          go_ret
          exact ⟨by first | rfl | (simp [errW_none, errW_some] <;> rfl) | (simp [*, errW_none, errW_some] <;> rfl), by repeat (first | (with_reducible first | exact HB.out | apply below_alloc | apply pw_below_drewN | apply below_drew1 | refine below_set ?_ GE258.out | refine below_set ?_ GE272.out) | exact HB.out)⟩
        ·rw [if_neg c34] at H
         exact absurd H (by simp)
       ·rw [if_neg c31] at H
        exact absurd H (by simp)
      ·replace c28 := Bool.eq_false_iff.mpr c28
       subst c28
       have H1 : (none) = some r := by rw [if_neg (show ¬ (false = true) by decide)] at H; exact H
       clear H
       have H := H1
       clear H1
       exact absurd H (by simp)
     ·replace c26 := Bool.eq_false_iff.mpr c26
      subst c26
      have H1 : (none) = some r := by rw [if_neg (show ¬ (false = true) by decide)] at H; exact H
      clear H
      have H := H1
      clear H1
      exact absurd H (by simp)
    ·replace c24 := Bool.eq_false_iff.mpr c24
     subst c24
     have H1 : (none) = some r := by rw [if_neg (show ¬ (false = true) by decide)] at H; exact H
     clear H
     have H := H1
     clear H1
     exact absurd H (by simp)
end Go.Proofs.Ytmbockhcmhghlaa.Pr
end
section
namespace Go.Proofs.Ytmbockhcmhghlaa.Pr
open Go.RowKit Go.Proofs.YtmbockhcmhghlaaW.PrintWords Go.Proofs.YtmbockhcmhghlaaW.PrintLast Go.Proofs.YtmbockhcmhghlaaW.PrintMore
set_option linter.unusedVariables false
set_option linter.unusedSimpArgs false
theorem w64 {x : Int} (h0 : -9223372036854775808 ≤ x) (h1 : x ≤ 9223372036854775807) : wrap64 x = x := IntWalk.wrap64_in _ ⟨h0, h1⟩
theorem rd_at (l : List Int) (j : Nat) (h : j < l.length) : rd l (j : Int) = l[j] := by
  unfold rd; simp [List.getD_eq_getElem?_getD, List.getElem?_eq_getElem h]
theorem rdT_at (l : List S25) (j : Nat) (h : j < l.length) : rd_T25 l (j : Int) = l[j] := by
  unfold rd_T25; simp [List.getD_eq_getElem?_getD, List.getElem?_eq_getElem h]
theorem S25.ind {P : S25 → Prop} (h : ∀ a : S25, (∀ x ∈ a.f4, P x) → P a) (a : S25) : P a :=
  S25.rec (motive_1 := P) (motive_2 := fun l => ∀ x ∈ l, P x) (fun k e n d l ih => h ⟨k, e, n, d, l⟩ ih) (fun _ hx => by cases hx) (fun y l hy hl x hx => by
    rcases List.mem_cons.1 hx with rfl | hx
    · exact hy
    · exact hl x hx) a
theorem S25.eta (x : S25) : (⟨x.f0, x.f1, x.f2, x.f3, x.f4⟩ : S25) = x := by cases x; rfl
theorem take_one {α : Type} (l : List α) (j : Nat) (h : j < l.length) : l.take (j + 1) = l.take j ++ [l[j]] := List.take_succ_eq_append_getElem h
theorem S25.same {a b : S25} (h0 : a.f0 = b.f0) (h1 : a.f1 = b.f1) (h2 : a.f2 = b.f2) (h3 : a.f3 = b.f3) (h4 : a.f4 = b.f4) : a = b := by
  cases a; cases b; simp at h0 h1 h2 h3 h4; simp [h0, h1, h2, h3, h4]
inductive AllT (p : S25 → Prop) : S25 → Prop
  | mk {a : S25} (h : p a) (hk : ∀ x ∈ a.f4, AllT p x) : AllT p a
theorem AllT.here {p : S25 → Prop} {a : S25} (h : AllT p a) : p a := by cases h; assumption
theorem AllT.kids {p : S25 → Prop} {a : S25} (h : AllT p a) : ∀ x ∈ a.f4, AllT p x := by cases h; assumption
def okT : S25 → Prop := AllT fun a => ∀ x ∈ a.f3, 0 ≤ x ∧ x ≤ 255
mutual
def tsize : S25 → Nat
  | ⟨_, _, _, d, l⟩ => 1 + d.length + tsizes l
def tsizes : List S25 → Nat
  | [] => 0
  | k :: l => tsize k + tsizes l
end
mutual
def tnest : S25 → Nat
  | ⟨_, _, _, _, l⟩ => tnests l + 1
def tnests : List S25 → Nat
  | [] => 0
  | k :: l => max (tnest k) (tnests l)
end
theorem tsize_eq (a : S25) : tsize a = 1 + a.f3.length + tsizes a.f4 := by cases a; rfl
theorem tnest_eq (a : S25) : tnest a = tnests a.f4 + 1 := by cases a; rfl
theorem tsizes_append : ∀ (l m : List S25), tsizes (l ++ m) = tsizes l + tsizes m
  | [], m => by simp [tsizes]
  | k :: l, m => by simp [tsizes, tsizes_append l m]; omega
theorem tnests_append : ∀ (l m : List S25), tnests (l ++ m) = max (tnests l) (tnests m)
  | [], m => by simp [tnests]
  | k :: l, m => by simp [tnests, tnests_append l m, Nat.max_assoc]
theorem tsizes_take (l : List S25) (j : Nat) (h : j < l.length) : tsizes (l.take (j + 1)) = tsizes (l.take j) + tsize l[j] := by
  rw [take_one l j h, tsizes_append]; simp [tsizes]
theorem tnests_take (l : List S25) (j : Nat) (h : j < l.length) : tnests (l.take (j + 1)) = max (tnests (l.take j)) (tnest l[j]) := by
  rw [take_one l j h, tnests_append]; simp [tnests]
theorem tsizes_le (l : List S25) (j : Nat) : tsizes (l.take j) ≤ tsizes l := by
  have := tsizes_append (l.take j) (l.drop j)
  rw [List.take_append_drop] at this
  omega
theorem length_tsizes : ∀ l : List S25, l.length ≤ tsizes l
  | [] => by simp
  | k :: l => by
    have := length_tsizes l
    have := tsize_eq k
    simp [tsizes]; omega
theorem tsize_mem {l : List S25} {x : S25} (h : x ∈ l) : tsize x ≤ tsizes l := by
  induction l with
  | nil => cases h
  | cons k l ih =>
    simp only [tsizes]
    rcases List.mem_cons.1 h with rfl | h
    · omega
    · have := ih h; omega
theorem tsize_kid {a x : S25} (h : x ∈ a.f4) : tsize x < tsize a := by
  have := tsize_mem h
  have := tsize_eq a
  omega
theorem tnests_bound {l : List S25} {B : Nat} (h : ∀ x ∈ l, tnest x ≤ B) : tnests l ≤ B := by
  induction l with
  | nil => simp [tnests]
  | cons k l ih =>
    simp only [tnests]
    have := h k List.mem_cons_self
    have := ih (fun x hx => h x (List.mem_cons_of_mem _ hx))
    omega
theorem tnest_le (a : S25) : tnest a ≤ tsize a := by
  refine S25.ind (P := fun a => tnest a ≤ tsize a) (fun a ih => ?_) a
  have h1 := tnest_eq a
  have h2 := tsize_eq a
  have h3 : tnests a.f4 ≤ tsizes a.f4 := tnests_bound fun x hx => Nat.le_trans (ih x hx) (tsize_mem hx)
  omega
theorem size_ev (a : S25) : tsize a ≤ 4611686018427387904 → Ev (fun k => capnpref10_Size.f k a.f0 a.f1 a.f2 a.f3 a.f4) (tsize a : Int) := by
  refine S25.ind (P := fun a => tsize a ≤ 4611686018427387904 → Ev (fun k => capnpref10_Size.f k a.f0 a.f1 a.f2 a.f3 a.f4) (tsize a : Int)) (fun a ih hs => ?_) a
  have he := tsize_eq a
  have hl := length_tsizes a.f4
  have loop : ∀ d j : Nat, a.f4.length - j = d → j ≤ a.f4.length → Ev (fun k => capnpref10_Size.l0 k ((1 + a.f3.length + tsizes (a.f4.take j) : Nat) : Int) (j : Int) a.f0 a.f1 a.f2 a.f3 a.f4) (tsize a : Int) := by
    intro d
    induction d with
    | zero =>
      intro j hd hj
      refine Ev.step (f := fun _ => some (tsize a : Int)) (fun k => ?_) (Ev.now _)
      simp only [capnpref10_Size.l0]
      rw [if_neg (by omega), List.take_of_length_le (by omega), he]
    | succ d ihd =>
      intro j hd hj
      have hlt : j < a.f4.length := by omega
      have ht := tsizes_take a.f4 j hlt
      have ht2 := tsizes_le a.f4 (j + 1)
      refine Ev.step (f := fun k => (capnpref10_Size.f k a.f4[j].f0 a.f4[j].f1 a.f4[j].f2 a.f4[j].f3 a.f4[j].f4).bind fun t => capnpref10_Size.l0 k (wrap64 (((1 + a.f3.length + tsizes (a.f4.take j) : Nat) : Int) + t)) (wrap64 ((j : Int) + 1)) a.f0 a.f1 a.f2 a.f3 a.f4) (fun k => ?_) ?_
      · simp only [capnpref10_Size.l0]
        rw [if_pos (by omega), if_pos (by omega), rdT_at _ _ hlt]
      · have hk := tsize_kid (List.getElem_mem hlt : a.f4[j] ∈ a.f4)
        refine Ev.bind (ih _ (List.getElem_mem hlt) (by omega)) ?_
        rw [w64 (by omega) (by omega), w64 (by omega) (by omega)]
        have := ihd (j + 1) (by omega) (by omega)
        rw [ht] at this
        have e1 : ((1 + a.f3.length + (tsizes (a.f4.take j) + tsize a.f4[j]) : Nat) : Int) = ((1 + a.f3.length + tsizes (a.f4.take j) : Nat) : Int) + (tsize a.f4[j] : Int) := by omega
        have e2 : ((j + 1 : Nat) : Int) = (j : Int) + 1 := by omega
        rw [e1, e2] at this
        exact this
  refine Ev.step (f := fun k => capnpref10_Size.l0 k (wrap64 (1 + (a.f3.length : Int))) 0 a.f0 a.f1 a.f2 a.f3 a.f4) (fun k => by simp only [capnpref10_Size.f]) ?_
  rw [w64 (by omega) (by omega)]
  have := loop a.f4.length 0 (by omega) (by omega)
  have e1 : ((1 + a.f3.length + tsizes (a.f4.take 0) : Nat) : Int) = 1 + (a.f3.length : Int) := by simp [tsizes]
  rw [e1] at this
  exact this
theorem mx_max (a b : Int) : mx a b = max a b := by unfold mx; omega
theorem nest_ev (a : S25) : tsize a ≤ 4611686018427387904 → Ev (fun k => capnpref10_Nesting.f k a.f0 a.f1 a.f2 a.f3 a.f4) (tnest a : Int) := by
  refine S25.ind (P := fun a => tsize a ≤ 4611686018427387904 → Ev (fun k => capnpref10_Nesting.f k a.f0 a.f1 a.f2 a.f3 a.f4) (tnest a : Int)) (fun a ih hs => ?_) a
  have he := tsize_eq a
  have hn := tnest_eq a
  have hnl := tnest_le a
  have hl := length_tsizes a.f4
  have loop : ∀ d j : Nat, a.f4.length - j = d → j ≤ a.f4.length → Ev (fun k => capnpref10_Nesting.l0 k (tnests (a.f4.take j) : Int) (j : Int) a.f0 a.f1 a.f2 a.f3 a.f4) (tnest a : Int) := by
    intro d
    induction d with
    | zero =>
      intro j hd hj
      refine Ev.step (f := fun _ => some (tnest a : Int)) (fun k => ?_) (Ev.now _)
      simp only [capnpref10_Nesting.l0]
      rw [if_neg (by omega), List.take_of_length_le (by omega), w64 (by omega) (by omega), hn]
      congr 1
    | succ d ihd =>
      intro j hd hj
      have hlt : j < a.f4.length := by omega
      have ht := tnests_take a.f4 j hlt
      refine Ev.step (f := fun k => (capnpref10_Nesting.f k a.f4[j].f0 a.f4[j].f1 a.f4[j].f2 a.f4[j].f3 a.f4[j].f4).bind fun t => capnpref10_Nesting.l0 k (mx (tnests (a.f4.take j) : Int) t) (wrap64 ((j : Int) + 1)) a.f0 a.f1 a.f2 a.f3 a.f4) (fun k => ?_) ?_
      · simp only [capnpref10_Nesting.l0]
        rw [if_pos (by omega), if_pos (by omega), rdT_at _ _ hlt]
      · have hk := tsize_kid (List.getElem_mem hlt : a.f4[j] ∈ a.f4)
        refine Ev.bind (ih _ (List.getElem_mem hlt) (by omega)) ?_
        rw [mx_max, w64 (by omega) (by omega)]
        have := ihd (j + 1) (by omega) (by omega)
        rw [ht] at this
        have e1 : ((max (tnests (a.f4.take j)) (tnest a.f4[j]) : Nat) : Int) = max (tnests (a.f4.take j) : Int) (tnest a.f4[j] : Int) := by omega
        have e2 : ((j + 1 : Nat) : Int) = (j : Int) + 1 := by omega
        rw [e1, e2] at this
        exact this
  refine Ev.step (f := fun k => capnpref10_Nesting.l0 k 0 0 a.f0 a.f1 a.f2 a.f3 a.f4) (fun k => by simp only [capnpref10_Nesting.f]) ?_
  have := loop a.f4.length 0 (by omega) (by omega)
  have e1 : ((tnests (a.f4.take 0) : Nat) : Int) = 0 := by simp [tnests]
  rw [e1] at this
  exact this
def tfew (a : S25) : Bool := decide (tsize a ≤ 3000) && decide (tnest a ≤ 40)
theorem few_ev (a : S25) (h : tsize a ≤ 4611686018427387904) : Ev (fun k => capnpref10_Few.f k a.f0 a.f1 a.f2 a.f3 a.f4) (tfew a) := by
  unfold capnpref10_Few.f
  refine Ev.bind (size_ev a h) ?_
  unfold tfew
  by_cases h1 : tsize a ≤ 3000
  · refine Ev.congr (f := fun k => (capnpref10_Nesting.f k a.f0 a.f1 a.f2 a.f3 a.f4).bind fun t => some (decide (t ≤ 40))) (fun k => by rw [if_pos (by omega)]) ?_
    refine Ev.bind (nest_ev a h) ?_
    have e : (decide (tsize a ≤ 3000) && decide (tnest a ≤ 40)) = decide ((tnest a : Int) ≤ 40) := by
      rw [decide_eq_true h1, Bool.true_and]; exact decide_eq_decide.2 (by omega)
    rw [e]
    exact Ev.now _
  · refine Ev.congr (f := fun k => some false) (fun k => by rw [if_neg (by omega)]) ?_
    rw [decide_eq_false h1, Bool.false_and]
    exact Ev.now _
theorem take_next {α : Type} {l m : List α} {j : Nat} (hl : j < l.length) (hm : j < m.length) (h : l.take j = m.take j) (e : l[j] = m[j]) : l.take (j + 1) = m.take (j + 1) := by
  rw [take_one l j hl, take_one m j hm, h, e]
theorem same_ev (xs ys : List Int) (h : xs.length ≤ 4611686018427387904) : Ev (fun k => capnpref01_Same.f k xs ys) (decide (xs = ys)) := by
  unfold capnpref01_Same.f
  by_cases hl : xs.length = ys.length
  · refine Ev.congr (f := fun k => capnpref01_Same.l0 k xs ys 0) (fun k => by rw [if_pos (by omega)]) ?_
    have loop : ∀ d j : Nat, xs.length - j = d → j ≤ xs.length → xs.take j = ys.take j → Ev (fun k => capnpref01_Same.l0 k xs ys (j : Int)) (decide (xs = ys)) := by
      intro d
      induction d with
      | zero =>
        intro j hd hj ht
        refine Ev.step (f := fun _ => some (decide (xs = ys))) (fun k => ?_) (Ev.now _)
        simp only [capnpref01_Same.l0]
        rw [if_neg (by omega)]
        rw [List.take_of_length_le (by omega), List.take_of_length_le (by omega)] at ht
        simp [ht]
      | succ d ihd =>
        intro j hd hj ht
        have hlt : j < xs.length := by omega
        by_cases e : xs[j] = ys[j]'(by omega)
        · refine Ev.step (f := fun k => capnpref01_Same.l0 k xs ys (wrap64 ((j : Int) + 1))) (fun k => ?_) ?_
          · simp only [capnpref01_Same.l0]
            rw [if_pos (by omega), if_pos (by omega), if_pos (by omega), rd_at _ _ hlt, rd_at _ _ (by omega), if_pos e]
          · rw [w64 (by omega) (by omega)]
            exact ihd (j + 1) (by omega) (by omega) (take_next hlt (by omega) ht e)
        · have hne : ¬ xs = ys := fun h => e (by subst h; rfl)
          refine Ev.step (f := fun _ => some (decide (xs = ys))) (fun k => ?_) (Ev.now _)
          simp only [capnpref01_Same.l0]
          rw [if_pos (by omega), if_pos (by omega), if_pos (by omega), rd_at _ _ hlt, rd_at _ _ (by omega), if_neg e, decide_eq_false hne]
    exact loop xs.length 0 (by omega) (by omega) rfl
  · have hne : ¬ xs = ys := fun h => hl (by rw [h])
    refine Ev.congr (f := fun _ => some false) (fun k => by rw [if_neg (by omega)]) ?_
    rw [decide_eq_false hne]
    exact Ev.now _
noncomputable def eqT (a b : S25) : Bool := @decide (a = b) (Classical.propDecidable _)
theorem eqT_true {a b : S25} (h : a = b) : eqT a b = true := by unfold eqT; simp [h]
theorem eqT_false {a b : S25} (h : ¬ a = b) : eqT a b = false := by unfold eqT; simp [h]
theorem equal_ev (a : S25) : ∀ b : S25, tsize a ≤ 4611686018427387904 → Ev (fun k => capnpref10_Equal.f k a.f0 a.f1 a.f2 a.f3 a.f4 b.f0 b.f1 b.f2 b.f3 b.f4) (eqT a b) := by
  refine S25.ind (P := fun a => ∀ b : S25, tsize a ≤ 4611686018427387904 → Ev (fun k => capnpref10_Equal.f k a.f0 a.f1 a.f2 a.f3 a.f4 b.f0 b.f1 b.f2 b.f3 b.f4) (eqT a b)) (fun a ih b hs => ?_) a
  have he := tsize_eq a
  have hl := length_tsizes a.f4
  have bad : (¬ a = b) → Ev (fun k => capnpref10_Equal.j0 k true a.f0 a.f1 a.f2 a.f3 a.f4 b.f0 b.f1 b.f2 b.f3 b.f4) (eqT a b) := fun hne => by
    rw [eqT_false hne]
    refine Ev.step (f := fun _ => some false) (fun k => ?_) (Ev.now _)
    simp only [capnpref10_Equal.j0]
    rw [if_pos trivial]
  by_cases h0 : a.f0 = b.f0
  · by_cases h1 : a.f1 = b.f1
    · by_cases h2 : a.f2 = b.f2
      · refine Ev.step (f := fun k => (capnpref01_Same.f k a.f3 b.f3).bind fun t => if t = true then capnpref10_Equal.j0 k ((a.f4.length : Int) != (b.f4.length : Int)) a.f0 a.f1 a.f2 a.f3 a.f4 b.f0 b.f1 b.f2 b.f3 b.f4 else capnpref10_Equal.j0 k true a.f0 a.f1 a.f2 a.f3 a.f4 b.f0 b.f1 b.f2 b.f3 b.f4) (fun k => by simp only [capnpref10_Equal.f]; rw [if_pos h0, if_pos h1, if_pos h2]) ?_
        refine Ev.bind (same_ev a.f3 b.f3 (by omega)) ?_
        by_cases h3 : a.f3 = b.f3
        · refine Ev.congr (f := fun k => capnpref10_Equal.j0 k ((a.f4.length : Int) != (b.f4.length : Int)) a.f0 a.f1 a.f2 a.f3 a.f4 b.f0 b.f1 b.f2 b.f3 b.f4) (fun k => by rw [if_pos (by simp [h3])]) ?_
          by_cases h4 : a.f4.length = b.f4.length
          · have e4 : ((a.f4.length : Int) != (b.f4.length : Int)) = false := by simp [h4]
            rw [e4]
            refine Ev.step (f := fun k => capnpref10_Equal.l0 k 0 a.f0 a.f1 a.f2 a.f3 a.f4 b.f0 b.f1 b.f2 b.f3 b.f4) (fun k => by simp only [capnpref10_Equal.j0]; rw [if_neg (by simp)]) ?_
            have loop : ∀ d j : Nat, a.f4.length - j = d → j ≤ a.f4.length → a.f4.take j = b.f4.take j → Ev (fun k => capnpref10_Equal.l0 k (j : Int) a.f0 a.f1 a.f2 a.f3 a.f4 b.f0 b.f1 b.f2 b.f3 b.f4) (eqT a b) := by
              intro d
              induction d with
              | zero =>
                intro j hd hj ht
                rw [List.take_of_length_le (by omega), List.take_of_length_le (by omega)] at ht
                rw [eqT_true (S25.same h0 h1 h2 h3 ht)]
                refine Ev.step (f := fun _ => some true) (fun k => ?_) (Ev.now _)
                simp only [capnpref10_Equal.l0]
                rw [if_neg (by omega)]
              | succ d ihd =>
                intro j hd hj ht
                have hlt : j < a.f4.length := by omega
                have hlt2 : j < b.f4.length := by omega
                refine Ev.step (f := fun k => (capnpref10_Equal.f k a.f4[j].f0 a.f4[j].f1 a.f4[j].f2 a.f4[j].f3 a.f4[j].f4 b.f4[j].f0 b.f4[j].f1 b.f4[j].f2 b.f4[j].f3 b.f4[j].f4).bind fun t => if t = true then capnpref10_Equal.l0 k (wrap64 ((j : Int) + 1)) a.f0 a.f1 a.f2 a.f3 a.f4 b.f0 b.f1 b.f2 b.f3 b.f4 else some false) (fun k => ?_) ?_
                · simp only [capnpref10_Equal.l0]
                  rw [if_pos (by omega), if_pos (by omega), if_pos (by omega), rdT_at _ _ hlt, rdT_at _ _ hlt2]
                · have hk := tsize_kid (List.getElem_mem hlt : a.f4[j] ∈ a.f4)
                  refine Ev.bind (ih _ (List.getElem_mem hlt) b.f4[j] (by omega)) ?_
                  by_cases e : a.f4[j] = b.f4[j]
                  · rw [w64 (by omega) (by omega)]
                    refine Ev.congr (f := fun k => capnpref10_Equal.l0 k ((j + 1 : Nat) : Int) a.f0 a.f1 a.f2 a.f3 a.f4 b.f0 b.f1 b.f2 b.f3 b.f4) (fun k => by rw [if_pos (eqT_true e)]; rfl) ?_
                    exact ihd (j + 1) (by omega) (by omega) (take_next hlt hlt2 ht e)
                  · have hne : ¬ a = b := fun h => e (by subst h; rfl)
                    rw [eqT_false hne]
                    refine Ev.congr (f := fun k => some false) (fun k => by rw [if_neg (by rw [eqT_false e]; simp)]) (Ev.now _)
            exact loop a.f4.length 0 (by omega) (by omega) rfl
          · have e4 : ((a.f4.length : Int) != (b.f4.length : Int)) = true := by simp; omega
            rw [e4]
            exact bad fun h => h4 (by rw [h])
        · exact Ev.congr (fun k => by rw [if_neg (by simp [h3])]) (bad fun h => h3 (by rw [h]))
      · exact Ev.step (fun k => by simp only [capnpref10_Equal.f]; rw [if_pos h0, if_pos h1, if_neg h2]) (bad fun h => h2 (by rw [h]))
    · exact Ev.step (fun k => by simp only [capnpref10_Equal.f]; rw [if_pos h0, if_neg h1]) (bad fun h => h1 (by rw [h]))
  · exact Ev.step (fun k => by simp only [capnpref10_Equal.f]; rw [if_neg h0]) (bad fun h => h0 (by rw [h]))
end Go.Proofs.Ytmbockhcmhghlaa.Pr
end
section
namespace Go.Proofs.Ytmbockhcmhghlaa.Pr
open Go.RowKit Go.Proofs.YtmbockhcmhghlaaW.PrintWords Go.Proofs.YtmbockhcmhghlaaW.PrintLast Go.Proofs.YtmbockhcmhghlaaW.PrintMore
set_option linter.unusedVariables false
set_option linter.unusedSimpArgs false
def bitsOf (e : Int) : Int := if e = 1 then 1 else if e = 2 then 8 else if e = 3 then 16 else if e = 4 then 32 else if e = 5 then 64 else if e = 6 then 64 else 0
theorem bitsOf_range (e : Int) : 0 ≤ bitsOf e ∧ bitsOf e ≤ 64 := by unfold bitsOf; repeat' split <;> omega
theorem bits_f (e : Int) : capnpref06_Bits.f e = some (bitsOf e) := by
  unfold capnpref06_Bits.f bitsOf
  repeat' split
  all_goals rfl
def bytesOf (e c : Int) : Int := (bitsOf e * c + 7) / 8
theorem bitsOf_mul (e c : Int) (h0 : 0 ≤ c) (h1 : c ≤ 4294967296) : 0 ≤ bitsOf e * c ∧ bitsOf e * c ≤ 274877906944 := by
  obtain ⟨a, b⟩ := bitsOf_range e
  refine ⟨Int.mul_nonneg a h0, ?_⟩
  have := Int.mul_le_mul b h1 h0 (by omega : (0:Int) ≤ 64)
  omega
theorem bytes_f (e c : Int) (h0 : 0 ≤ c) (h1 : c ≤ 4294967296) : capnpref06_Bytes.f e c = some (bytesOf e c) := by
  obtain ⟨a, b⟩ := bitsOf_mul e c h0 h1
  unfold capnpref06_Bytes.f
  rw [bits_f]
  simp only [Option.bind_some]
  unfold bytesOf
  generalize bitsOf e * c = x at *
  rw [w64 (x := x) (by omega) (by omega), Int.tdiv_eq_ediv_of_nonneg a, w64 (x := x / 8) (by omega) (by omega), w64 (x := x / 8 * 8) (by omega) (by omega), w64 (x := x / 8 + 1) (by omega) (by omega)]
  split
  · congr 1; omega
  · congr 1; omega
theorem bytesOf_le (e c : Int) (h0 : 0 ≤ c) (h1 : c ≤ 4294967296) : bytesOf e c ≤ 34359738368 := by
  have := bitsOf_mul e c h0 h1
  unfold bytesOf; omega
def rT (e c : Int) (xs : List Int) (j : Nat) : Int := if e = 1 ∧ c < 8 * j + 8 then xs.getD j 0 % 2 ^ (c - 8 * j).toNat else xs.getD j 0
def rL (e c : Int) (xs : List Int) (k : Nat) : List Int := (List.range k).map (rT e c xs)
theorem rL_succ (e c : Int) (xs : List Int) (k : Nat) : rL e c xs (k + 1) = rL e c xs k ++ [rT e c xs k] := by simp [rL, List.range_succ]
theorem rL_length (e c : Int) (xs : List Int) (k : Nat) : (rL e c xs k).length = k := by simp [rL]
theorem getD_at (xs : List Int) (j : Nat) (h : j < xs.length) : xs.getD j 0 = xs[j] := by simp [List.getD_eq_getElem?_getD, List.getElem?_eq_getElem h]
theorem trim_ev (e c : Int) (h0 : 0 ≤ c) (h1 : c ≤ 4294967296) (xs : List Int) (hx : ∀ x ∈ xs, 0 ≤ x ∧ x ≤ 255) (m : Nat) (hm : (m : Int) = bytesOf e c) (hmx : m ≤ xs.length) :
    Ev (fun k => capnpref06_Trim.f k e c xs) (rL e c xs m) := by
  unfold capnpref06_Trim.f
  have hb := bytesOf_le e c h0 h1
  have hbits := bitsOf_mul e c h0 h1
  have loop : ∀ d j : Nat, m - j = d → j ≤ m → Ev (fun k => capnpref06_Trim.l0 k e c xs (rL e c xs j) (j : Int)) (rL e c xs m) := by
    intro d
    induction d with
    | zero =>
      intro j hd hj
      obtain rfl : j = m := by omega
      refine Ev.step (f := fun _ => some (rL e c xs j)) (fun k => ?_) (Ev.now _)
      simp only [capnpref06_Trim.l0]
      rw [bytes_f e c h0 h1, Option.bind_some, if_neg (by omega)]
    | succ d ihd =>
      intro j hd hj
      have hlt : j < xs.length := by omega
      have hnext := ihd (j + 1) (by omega) (by omega)
      have e2 : ((j + 1 : Nat) : Int) = (j : Int) + 1 := by omega
      rw [rL_succ, e2] at hnext
      have hxr := hx _ (List.getElem_mem hlt)
      have plain : rT e c xs j = xs[j] → Ev (fun k => capnpref06_Trim.j1 k e c xs (rL e c xs j) (j : Int) (xs[j]) false) (rL e c xs m) := fun hp => by
        refine Ev.step (f := fun k => capnpref06_Trim.l0 k e c xs (rL e c xs j ++ [xs[j]]) (wrap64 ((j : Int) + 1))) (fun k => ?_) ?_
        · simp only [capnpref06_Trim.j1]
          rw [if_neg (by simp), if_pos (by rw [rL_length]; omega)]
        · rw [w64 (by omega) (by omega), ← hp]
          exact hnext
      by_cases he : e = 1
      · subst he
        refine Ev.step (f := fun k => capnpref06_Trim.j1 k 1 c xs (rL 1 c xs j) (j : Int) xs[j] (decide (wrap64 (wrap64 (8 * (j : Int)) + 8) > c))) (fun k => ?_) ?_
        · simp only [capnpref06_Trim.l0]
          rw [bytes_f 1 c h0 h1, Option.bind_some, if_pos (by omega), if_pos (by omega), if_pos (by omega), if_pos trivial, rd_at _ _ hlt]
        · rw [w64 (x := 8 * (j : Int)) (by omega) (by omega), w64 (by omega) (by omega)]
          have hcm : 8 * (j : Int) < c := by
            have : bytesOf 1 c = (c + 7) / 8 := by unfold bytesOf; rw [show bitsOf 1 = 1 from rfl, Int.one_mul]
            omega
          by_cases hc : c < 8 * (j : Int) + 8
          · rw [decide_eq_true hc]
            obtain ⟨q, hq⟩ : ∃ q : Nat, c - 8 * (j : Int) = q := ⟨(c - 8 * (j : Int)).toNat, by omega⟩
            have hp : rT 1 c xs j = xs[j] % 2 ^ q := by
              unfold rT
              rw [if_pos ⟨rfl, hc⟩, getD_at _ _ hlt, hq]
              rfl
            rw [hp] at hnext
            refine Ev.step (f := fun k => capnpref06_Trim.l1 k 1 c xs (rL 1 c xs j) (j : Int) xs[j] (wrap64 (c - wrap64 (8 * (j : Int)))) 1 0) (fun k => ?_) ?_
            · simp only [capnpref06_Trim.j1]
              rw [if_pos trivial]
            · rw [w64 (x := 8 * (j : Int)) (by omega) (by omega), w64 (by omega) (by omega), hq]
              have hq7 : q ≤ 7 := by omega
              have pow7 : ∀ i : Nat, i ≤ 7 → (1 : Int) ≤ 2 ^ i ∧ (2 : Int) ^ i ≤ 128 := fun i hi => by
                rcases (by omega : i = 0 ∨ i = 1 ∨ i = 2 ∨ i = 3 ∨ i = 4 ∨ i = 5 ∨ i = 6 ∨ i = 7) with rfl | rfl | rfl | rfl | rfl | rfl | rfl | rfl <;> decide
              have pows : ∀ d i : Nat, q - i = d → i ≤ q → Ev (fun k => capnpref06_Trim.l1 k 1 c xs (rL 1 c xs j) (j : Int) xs[j] (q : Int) (2 ^ i) (i : Int)) (rL 1 c xs m) := by
                intro d
                induction d with
                | zero =>
                  intro i hd hi
                  obtain rfl : i = q := by omega
                  have hp2 := pow7 i hq7
                  refine Ev.step (f := fun k => capnpref06_Trim.l0 k 1 c xs (rL 1 c xs j ++ [Int.tmod (wrap64 xs[j]) (2 ^ i) % 256]) (wrap64 ((j : Int) + 1))) (fun k => ?_) ?_
                  · simp only [capnpref06_Trim.l1]
                    rw [if_neg (by omega), if_neg (by omega), if_pos (by rw [rL_length]; omega)]
                  · rw [w64 (x := xs[j]) (by omega) (by omega), w64 (by omega) (by omega), Int.tmod_eq_emod_of_nonneg hxr.1]
                    have r1 : 0 ≤ xs[j] % 2 ^ i := Int.emod_nonneg _ (by omega)
                    have r2 : xs[j] % 2 ^ i < 2 ^ i := Int.emod_lt_of_pos _ (by omega)
                    rw [Int.emod_eq_of_lt (a := xs[j] % 2 ^ i) (b := 256) r1 (by omega)]
                    exact hnext
                | succ d ihp =>
                  intro i hd hi
                  have hp2 := pow7 i (by omega)
                  refine Ev.step (f := fun k => capnpref06_Trim.l1 k 1 c xs (rL 1 c xs j) (j : Int) xs[j] (q : Int) (wrap64 (2 ^ i * 2)) (wrap64 ((i : Int) + 1))) (fun k => ?_) ?_
                  · simp only [capnpref06_Trim.l1]
                    rw [if_pos (by omega)]
                  · rw [w64 (x := 2 ^ i * 2) (by omega) (by omega), w64 (by omega) (by omega)]
                    have := ihp (i + 1) (by omega) (by omega)
                    rw [Int.pow_succ] at this
                    exact this
              exact pows q 0 (by omega) (by omega)
          · rw [decide_eq_false (by omega)]
            refine plain ?_
            unfold rT
            rw [if_neg (by rintro ⟨_, h⟩; omega), getD_at _ _ hlt]
      · refine Ev.step (f := fun k => capnpref06_Trim.j1 k e c xs (rL e c xs j) (j : Int) xs[j] false) (fun k => ?_) (plain ?_)
        · simp only [capnpref06_Trim.l0]
          rw [bytes_f e c h0 h1, Option.bind_some, if_pos (by omega), if_pos (by omega), if_pos (by omega), if_neg he, rd_at _ _ hlt]
        · unfold rT
          rw [if_neg (by rintro ⟨h, _⟩; exact he h), getD_at _ _ hlt]
  exact loop m 0 (by omega) (by omega)
def topV (k e n : Int) (d : List Int) (m : Nat) : Bool :=
  if k = 0 then (e == 0) && ((n == 0) && (((d.length : Int) == 0) && ((m : Int) == 0)))
  else if k = 1 then (e == 0) && ((n == 0) && (((d.length : Int) % 8 == 0) && (decide ((d.length : Int) ≤ 524280) && decide ((m : Int) ≤ 65535))))
  else if k = 2 then
    if n < 0 ∨ 536870911 < n ∨ e < 0 ∨ 7 < e then false
    else if 6 ≤ e then ((d.length : Int) == 0) && ((m : Int) == n)
    else if ¬ m = 0 ∨ ¬ (d.length : Int) = bytesOf e n then false else decide (rL e n d d.length = d)
  else false
mutual
def tvalid : S25 → Bool
  | ⟨k, e, n, d, l⟩ => tvalids (k == 2 && e == 7) l && topV k e n d l.length
def tvalids (c : Bool) : List S25 → Bool
  | [] => true
  | x :: l => (tvalid x && !(c && x.f0 != 1)) && tvalids c l
end
theorem tvalid_eq (a : S25) : tvalid a = (tvalids (a.f0 == 2 && a.f1 == 7) a.f4 && topV a.f0 a.f1 a.f2 a.f3 a.f4.length) := by cases a; rfl
theorem tvalids_append (c : Bool) : ∀ (l m : List S25), tvalids c (l ++ m) = (tvalids c l && tvalids c m)
  | [], m => by simp [tvalids]
  | k :: l, m => by simp [tvalids, tvalids_append c l m, Bool.and_assoc]
theorem tvalids_take (c : Bool) (l : List S25) (j : Nat) (h : j < l.length) : tvalids c (l.take (j + 1)) = (tvalids c (l.take j) && (tvalid l[j] && !(c && l[j].f0 != 1))) := by
  rw [take_one l j h, tvalids_append]
  simp [tvalids]
theorem tvalids_bad (c : Bool) (l : List S25) (j : Nat) (h : j < l.length) (hb : (tvalid l[j] && !(c && l[j].f0 != 1)) = false) : tvalids c l = false := by
  have h1 := tvalids_append c (l.take (j + 1)) (l.drop (j + 1))
  rw [List.take_append_drop, tvalids_take c l j h, hb] at h1
  simpa using h1
theorem tvalids_all (c : Bool) (l : List S25) : tvalids c l = true ↔ ∀ x ∈ l, tvalid x = true ∧ (c = true → x.f0 = 1) := by
  induction l with
  | nil => simp [tvalids]
  | cons k l ih =>
    simp only [tvalids, Bool.and_eq_true, ih, List.mem_cons, forall_eq_or_imp]
    constructor
    · rintro ⟨⟨a, b⟩, h⟩
      refine ⟨⟨a, fun hc => ?_⟩, h⟩
      subst hc
      simpa using b
    · rintro ⟨⟨a, b⟩, h⟩
      refine ⟨⟨a, ?_⟩, h⟩
      cases c with
      | false => rfl
      | true => simp [b rfl]
theorem valid_ev (a : S25) : okT a → tsize a ≤ 4611686018427387904 → Ev (fun k => capnpref10_Valid.f k a.f0 a.f1 a.f2 a.f3 a.f4) (tvalid a) := by
  refine S25.ind (P := fun a => okT a → tsize a ≤ 4611686018427387904 → Ev (fun k => capnpref10_Valid.f k a.f0 a.f1 a.f2 a.f3 a.f4) (tvalid a)) (fun a ih hok hs => ?_) a
  have he := tsize_eq a
  have hl := length_tsizes a.f4
  have hx := AllT.here hok
  obtain ⟨C, hC⟩ : ∃ C : Bool, (a.f0 == 2 && a.f1 == 7) = C := ⟨_, rfl⟩
  have HV : tvalid a = (tvalids C a.f4 && topV a.f0 a.f1 a.f2 a.f3 a.f4.length) := by rw [tvalid_eq, hC]
  have yes : ∀ k, capnpref10_Valid.j1 (k + 1) true a.f0 a.f1 a.f2 a.f3 a.f4 = some false := fun k => by
    simp only [capnpref10_Valid.j1]; rw [if_pos trivial]
  have top : Ev (fun k => capnpref10_Valid.l0 k (a.f4.length : Int) a.f0 a.f1 a.f2 a.f3 a.f4) (topV a.f0 a.f1 a.f2 a.f3 a.f4.length) := by
    by_cases k0 : a.f0 = 0
    · refine Ev.step (f := fun _ => some (topV a.f0 a.f1 a.f2 a.f3 a.f4.length)) (fun k => ?_) (Ev.now _)
      simp only [capnpref10_Valid.l0]
      rw [if_neg (by omega), if_pos k0]
      unfold topV
      rw [if_pos k0]
      by_cases a1 : a.f1 = 0
      · by_cases a2 : a.f2 = 0
        · by_cases a3 : (a.f3.length : Int) = 0
          · rw [if_pos a1, if_pos a2, if_pos a3, a1, a2, a3]; rfl
          · rw [if_pos a1, if_pos a2, if_neg a3, a1, a2]
            have : ((a.f3.length : Int) == 0) = false := by simpa using a3
            rw [this]; rfl
        · rw [if_pos a1, if_neg a2, a1]
          have : (a.f2 == 0) = false := by simpa using a2
          rw [this]; rfl
      · rw [if_neg a1]
        have : (a.f1 == 0) = false := by simpa using a1
        rw [this]; rfl
    by_cases k1 : a.f0 = 1
    · refine Ev.step (f := fun _ => some (topV a.f0 a.f1 a.f2 a.f3 a.f4.length)) (fun k => ?_) (Ev.now _)
      simp only [capnpref10_Valid.l0]
      rw [if_neg (by omega), if_neg k0, if_pos k1]
      unfold topV
      rw [if_neg k0, if_pos k1]
      by_cases a1 : a.f1 = 0
      · by_cases a2 : a.f2 = 0
        · by_cases a3 : (a.f3.length : Int) % 8 = 0
          · by_cases a4 : (a.f3.length : Int) ≤ 524280
            · rw [if_pos a1, if_pos a2, if_pos a3, if_pos a4, a1, a2, a3, decide_eq_true a4]; rfl
            · rw [if_pos a1, if_pos a2, if_pos a3, if_neg a4, a1, a2, a3, decide_eq_false a4]; rfl
          · rw [if_pos a1, if_pos a2, if_neg a3, a1, a2]
            have : ((a.f3.length : Int) % 8 == 0) = false := by simpa using a3
            rw [this]; rfl
        · rw [if_pos a1, if_neg a2, a1]
          have : (a.f2 == 0) = false := by simpa using a2
          rw [this]; rfl
      · rw [if_neg a1]
        have : (a.f1 == 0) = false := by simpa using a1
        rw [this]; rfl
    by_cases k2 : a.f0 = 2
    · have bad : (a.f2 < 0 ∨ 536870911 < a.f2 ∨ a.f1 < 0 ∨ 7 < a.f1) → topV a.f0 a.f1 a.f2 a.f3 a.f4.length = false := fun h => by
        unfold topV; rw [if_neg k0, if_neg k1, if_pos k2, if_pos h]
      have go : ∀ b : Bool, (b = true → topV a.f0 a.f1 a.f2 a.f3 a.f4.length = false) → (b = false → Ev (fun k => capnpref10_Valid.j1 k false a.f0 a.f1 a.f2 a.f3 a.f4) (topV a.f0 a.f1 a.f2 a.f3 a.f4.length)) → Ev (fun k => capnpref10_Valid.j1 k b a.f0 a.f1 a.f2 a.f3 a.f4) (topV a.f0 a.f1 a.f2 a.f3 a.f4.length) := fun b h1 h2 => by
        cases b with
        | true => rw [h1 rfl]; exact Ev.step yes (Ev.now _)
        | false => exact h2 rfl
      by_cases a1 : a.f2 < 0
      · refine Ev.step (f := fun k => capnpref10_Valid.j1 k true a.f0 a.f1 a.f2 a.f3 a.f4) (fun k => ?_) (go true (fun _ => bad (.inl a1)) (fun h => by cases h))
        simp only [capnpref10_Valid.l0]
        rw [if_neg (by omega), if_neg k0, if_neg k1, if_pos k2, if_pos a1]
      by_cases a2 : 536870911 < a.f2
      · refine Ev.step (f := fun k => capnpref10_Valid.j1 k true a.f0 a.f1 a.f2 a.f3 a.f4) (fun k => ?_) (go true (fun _ => bad (.inr (.inl a2))) (fun h => by cases h))
        simp only [capnpref10_Valid.l0]
        rw [if_neg (by omega), if_neg k0, if_neg k1, if_pos k2, if_neg a1, if_pos a2]
      by_cases a3 : a.f1 < 0
      · refine Ev.step (f := fun k => capnpref10_Valid.j1 k true a.f0 a.f1 a.f2 a.f3 a.f4) (fun k => ?_) (go true (fun _ => bad (.inr (.inr (.inl a3)))) (fun h => by cases h))
        simp only [capnpref10_Valid.l0]
        rw [if_neg (by omega), if_neg k0, if_neg k1, if_pos k2, if_neg a1, if_neg (by omega), if_pos a3]
      refine Ev.step (f := fun k => capnpref10_Valid.j1 k (decide (a.f1 > 7)) a.f0 a.f1 a.f2 a.f3 a.f4) (fun k => ?_) (go _ (fun h => bad (.inr (.inr (.inr (of_decide_eq_true h))))) (fun h => ?_))
      · simp only [capnpref10_Valid.l0]
        rw [if_neg (by omega), if_neg k0, if_neg k1, if_pos k2, if_neg a1, if_neg (by omega), if_neg a3]
      have a4 : a.f1 ≤ 7 := by have := of_decide_eq_false h; omega
      have hT : topV a.f0 a.f1 a.f2 a.f3 a.f4.length = if 6 ≤ a.f1 then ((a.f3.length : Int) == 0) && ((a.f4.length : Int) == a.f2)
          else if ¬ a.f4.length = 0 ∨ ¬ (a.f3.length : Int) = bytesOf a.f1 a.f2 then false else decide (rL a.f1 a.f2 a.f3 a.f3.length = a.f3) := by
        unfold topV; rw [if_neg k0, if_neg k1, if_pos k2, if_neg (by omega)]
      rw [hT]
      by_cases a5 : 6 ≤ a.f1
      · rw [if_pos a5]
        refine Ev.step (f := fun _ => some (((a.f3.length : Int) == 0) && ((a.f4.length : Int) == a.f2))) (fun k => ?_) (Ev.now _)
        simp only [capnpref10_Valid.j1]
        rw [if_neg (by simp), if_pos (by omega)]
        by_cases a6 : (a.f3.length : Int) = 0
        · rw [if_pos a6, a6]; rfl
        · rw [if_neg a6]
          have : ((a.f3.length : Int) == 0) = false := by simpa using a6
          rw [this]; rfl
      · rw [if_neg a5]
        have no2 : (¬ a.f4.length = 0 ∨ ¬ (a.f3.length : Int) = bytesOf a.f1 a.f2) → Ev (fun k => capnpref10_Valid.j2 k true a.f0 a.f1 a.f2 a.f3 a.f4) (if ¬ a.f4.length = 0 ∨ ¬ (a.f3.length : Int) = bytesOf a.f1 a.f2 then false else decide (rL a.f1 a.f2 a.f3 a.f3.length = a.f3)) := fun h => by
          rw [if_pos h]
          refine Ev.step (fun k => ?_) (Ev.now _)
          simp only [capnpref10_Valid.j2]
          rw [if_pos trivial]
        by_cases a6 : a.f4.length = 0
        · refine Ev.step (f := fun k => capnpref10_Valid.j2 k ((a.f3.length : Int) != bytesOf a.f1 a.f2) a.f0 a.f1 a.f2 a.f3 a.f4) (fun k => ?_) ?_
          · simp only [capnpref10_Valid.j1]
            rw [if_neg (by simp), if_neg (by omega), if_pos (by omega), bytes_f _ _ (by omega) (by omega)]
            rfl
          · by_cases a7 : (a.f3.length : Int) = bytesOf a.f1 a.f2
            · have e7 : ((a.f3.length : Int) != bytesOf a.f1 a.f2) = false := by rw [a7]; simp
              rw [e7, if_neg (by rintro (h | h); exact h a6; exact h a7)]
              refine Ev.step (f := fun k => (capnpref06_Trim.f k a.f1 a.f2 a.f3).bind fun t => (capnpref01_Same.f k t a.f3).bind fun u => some u) (fun k => ?_) ?_
              · simp only [capnpref10_Valid.j2]
                rw [if_neg (by simp)]
              · refine Ev.bind (trim_ev a.f1 a.f2 (by omega) (by omega) a.f3 hx a.f3.length a7 (Nat.le_refl _)) ?_
                exact Ev.bind (same_ev _ _ (by rw [rL_length]; omega)) (Ev.now _)
            · have e7 : ((a.f3.length : Int) != bytesOf a.f1 a.f2) = true := by simpa using a7
              rw [e7]
              exact no2 (.inr a7)
        · refine Ev.step (f := fun k => capnpref10_Valid.j2 k true a.f0 a.f1 a.f2 a.f3 a.f4) (fun k => ?_) (no2 (.inl a6))
          simp only [capnpref10_Valid.j1]
          rw [if_neg (by simp), if_neg (by omega), if_neg (by omega)]
    · refine Ev.step (f := fun _ => some (topV a.f0 a.f1 a.f2 a.f3 a.f4.length)) (fun k => ?_) (Ev.now _)
      simp only [capnpref10_Valid.l0]
      rw [if_neg (by omega), if_neg k0, if_neg k1, if_neg k2]
      unfold topV
      rw [if_neg k0, if_neg k1, if_neg k2]
  have loop : ∀ d j : Nat, a.f4.length - j = d → j ≤ a.f4.length → tvalids C (a.f4.take j) = true → Ev (fun k => capnpref10_Valid.l0 k (j : Int) a.f0 a.f1 a.f2 a.f3 a.f4) (tvalid a) := by
    intro d
    induction d with
    | zero =>
      intro j hd hj ht
      obtain rfl : j = a.f4.length := by omega
      rw [List.take_length] at ht
      rw [HV, ht, Bool.true_and]
      exact top
    | succ d ihd =>
      intro j hd hj ht
      have hlt : j < a.f4.length := by omega
      have hmem : a.f4[j] ∈ a.f4 := List.getElem_mem hlt
      have hk := tsize_kid hmem
      have ha := ih _ hmem (AllT.kids hok _ hmem) (by omega)
      have hst := tvalids_take C a.f4 j hlt
      have hbad := tvalids_bad C a.f4 j hlt
      have e2 : wrap64 ((j : Int) + 1) = ((j + 1 : Nat) : Int) := by rw [w64 (by omega) (by omega)]; omega
      refine Ev.step (f := fun k => (capnpref10_Valid.f k a.f4[j].f0 a.f4[j].f1 a.f4[j].f2 a.f4[j].f3 a.f4[j].f4).bind fun t => if t = true then (if a.f0 = 2 then (if a.f1 = 7 then (if a.f4[j].f0 = 1 then capnpref10_Valid.l0 k (wrap64 ((j : Int) + 1)) a.f0 a.f1 a.f2 a.f3 a.f4 else some false) else capnpref10_Valid.l0 k (wrap64 ((j : Int) + 1)) a.f0 a.f1 a.f2 a.f3 a.f4) else capnpref10_Valid.l0 k (wrap64 ((j : Int) + 1)) a.f0 a.f1 a.f2 a.f3 a.f4) else some false) (fun k => ?_) ?_
      · simp only [capnpref10_Valid.l0]
        rw [if_pos (by omega), if_pos (by omega), rdT_at _ _ hlt]
      refine Ev.bind ha ?_
      cases hv : tvalid a.f4[j] with
      | false =>
        rw [HV, hbad (by rw [hv]; rfl), Bool.false_and]
        exact Ev.now _
      | true =>
        have cont : (!(C && a.f4[j].f0 != 1)) = true → Ev (fun k => capnpref10_Valid.l0 k (wrap64 ((j : Int) + 1)) a.f0 a.f1 a.f2 a.f3 a.f4) (tvalid a) := fun hc => by
          rw [e2]
          exact ihd (j + 1) (by omega) (by omega) (by rw [hst, ht, hv, hc]; rfl)
        by_cases b0 : a.f0 = 2
        · by_cases b1 : a.f1 = 7
          · have hCt : C = true := by rw [← hC, b0, b1]; rfl
            by_cases b2 : a.f4[j].f0 = 1
            · exact Ev.congr (fun k => by rw [if_pos rfl, if_pos b0, if_pos b1, if_pos b2]) (cont (by rw [b2]; simp))
            · have hf : tvalid a = false := by
                rw [HV, hbad (by rw [hv, hCt]; simpa using b2), Bool.false_and]
              rw [hf]
              exact Ev.congr (fun k => by rw [if_pos rfl, if_pos b0, if_pos b1, if_neg b2]) (Ev.now _)
          · have hCf : C = false := by rw [← hC, show (a.f1 == 7) = false by simpa using b1, Bool.and_false]
            exact Ev.congr (fun k => by rw [if_pos rfl, if_pos b0, if_neg b1]) (cont (by rw [hCf]; rfl))
        · have hCf : C = false := by rw [← hC, show (a.f0 == 2) = false by simpa using b0, Bool.false_and]
          exact Ev.congr (fun k => by rw [if_pos rfl, if_neg b0]) (cont (by rw [hCf]; rfl))
  refine Ev.step (f := fun k => capnpref10_Valid.l0 k 0 a.f0 a.f1 a.f2 a.f3 a.f4) (fun k => by simp only [capnpref10_Valid.f]) ?_
  exact loop a.f4.length 0 (by omega) (by omega) (by simp [tvalids])
end Go.Proofs.Ytmbockhcmhghlaa.Pr
end
section
namespace Go.Proofs.Ytmbockhcmhghlaa.Pr
open Go.RowKit Go.Proofs.YtmbockhcmhghlaaW.PrintWords Go.Proofs.YtmbockhcmhghlaaW.PrintLast Go.Proofs.YtmbockhcmhghlaaW.PrintMore
set_option linter.unusedVariables false
set_option linter.unusedSimpArgs false
def tkids : List S25 → List S25
  | [] => []
  | x :: l => x.f4 ++ tkids l
def ttargets (a : S25) : List S25 := if a.f0 = 2 ∧ a.f1 = 7 then tkids a.f4 else a.f4
theorem tkids_append : ∀ l m : List S25, tkids (l ++ m) = tkids l ++ tkids m
  | [], m => rfl
  | x :: l, m => by simp [tkids, tkids_append l m]
theorem tkids_take (l : List S25) (j : Nat) (h : j < l.length) : tkids (l.take (j + 1)) = tkids (l.take j) ++ l[j].f4 := by
  rw [take_one l j h, tkids_append]; simp [tkids]
theorem tkids_sizes : ∀ l : List S25, tsizes (tkids l) ≤ tsizes l
  | [] => by simp [tkids]
  | x :: l => by
    have := tkids_sizes l
    have := tsize_eq x
    simp only [tkids, tsizes, tsizes_append]; omega
theorem tkids_le (l : List S25) (j : Nat) : (tkids (l.take j)).length ≤ tsizes l :=
  Nat.le_trans (length_tsizes _) (Nat.le_trans (tkids_sizes _) (tsizes_le l j))
theorem ttargets_sizes (a : S25) : tsizes (ttargets a) ≤ tsizes a.f4 := by
  unfold ttargets
  split
  · exact tkids_sizes _
  · exact Nat.le_refl _
theorem ttargets_size {a x : S25} (h : x ∈ ttargets a) : tsize x < tsize a := by
  have h1 := tsize_mem h
  have h2 := ttargets_sizes a
  have h3 := tsize_eq a
  omega
theorem targets_ev (a : S25) (hs : tsize a ≤ 1000000000000) : Ev (fun k => capnpref10_Targets.f k a.f0 a.f1 a.f2 a.f3 a.f4) (ttargets a) := by
  have he := tsize_eq a
  have hl := length_tsizes a.f4
  unfold capnpref10_Targets.f
  have plain : ¬ (a.f0 = 2 ∧ a.f1 = 7) → Ev (fun k => capnpref10_Targets.j0 k true a.f0 a.f1 a.f2 a.f3 a.f4) (ttargets a) := fun h => by
    unfold ttargets
    rw [if_neg h]
    refine Ev.step (f := fun _ => some a.f4) (fun k => ?_) (Ev.now _)
    simp only [capnpref10_Targets.j0]
    rw [if_pos trivial]
  by_cases h0 : a.f0 = 2
  · refine Ev.congr (f := fun k => capnpref10_Targets.j0 k (a.f1 != 7) a.f0 a.f1 a.f2 a.f3 a.f4) (fun k => by rw [if_pos h0]) ?_
    by_cases h1 : a.f1 = 7
    · have e1 : (a.f1 != 7) = false := by simp [h1]
      rw [e1]
      have hT : ttargets a = tkids a.f4 := by unfold ttargets; rw [if_pos ⟨h0, h1⟩]
      rw [hT]
      have loop : ∀ d j : Nat, a.f4.length - j = d → j ≤ a.f4.length → Ev (fun k => capnpref10_Targets.l0 k (tkids (a.f4.take j)) (j : Int) a.f0 a.f1 a.f2 a.f3 a.f4) (tkids a.f4) := by
        intro d
        induction d with
        | zero =>
          intro j hd hj
          refine Ev.step (f := fun _ => some (tkids a.f4)) (fun k => ?_) (Ev.now _)
          simp only [capnpref10_Targets.l0]
          rw [if_neg (by omega), List.take_of_length_le (by omega)]
        | succ d ihd =>
          intro j hd hj
          have hlt : j < a.f4.length := by omega
          have ht := tkids_take a.f4 j hlt
          have hle := tkids_le a.f4 (j + 1)
          rw [ht, List.length_append] at hle
          refine Ev.step (f := fun k => capnpref10_Targets.l0 k (tkids (a.f4.take j) ++ a.f4[j].f4) (wrap64 ((j : Int) + 1)) a.f0 a.f1 a.f2 a.f3 a.f4) (fun k => ?_) ?_
          · simp only [capnpref10_Targets.l0]
            rw [if_pos (by omega), if_pos (by omega), rdT_at _ _ hlt, if_pos (by omega)]
          · rw [w64 (by omega) (by omega), ← ht]
            exact ihd (j + 1) (by omega) (by omega)
      refine Ev.step (f := fun k => capnpref10_Targets.l0 k [] 0 a.f0 a.f1 a.f2 a.f3 a.f4) (fun k => ?_) (loop a.f4.length 0 (by omega) (by omega))
      simp only [capnpref10_Targets.j0]
      rw [if_neg (by simp)]
    · have e1 : (a.f1 != 7) = true := by simp [h1]
      rw [e1]
      exact plain fun h => h1 h.2
  · exact Ev.congr (fun k => by rw [if_neg h0]) (plain fun h => h0 h.1)
mutual
def tdepth : S25 → Nat
  | ⟨k, e, _, _, l⟩ => if k = 0 then 0 else 1 + (if k = 2 ∧ e = 7 then tdeep2 l else tdeeps l)
def tdeeps : List S25 → Nat
  | [] => 0
  | x :: l => max (tdepth x) (tdeeps l)
def tdeep2 : List S25 → Nat
  | [] => 0
  | ⟨_, _, _, _, m⟩ :: l => max (tdeeps m) (tdeep2 l)
end
mutual
def tobjs : S25 → Nat
  | ⟨k, e, _, _, l⟩ => if k = 0 then 0 else 1 + (if k = 2 ∧ e = 7 then tobj2 l else tobjss l)
def tobjss : List S25 → Nat
  | [] => 0
  | x :: l => tobjs x + tobjss l
def tobj2 : List S25 → Nat
  | [] => 0
  | ⟨_, _, _, _, m⟩ :: l => tobjss m + tobj2 l
end
theorem tdeeps_append : ∀ l m : List S25, tdeeps (l ++ m) = max (tdeeps l) (tdeeps m)
  | [], m => by simp [tdeeps]
  | x :: l, m => by simp [tdeeps, tdeeps_append l m, Nat.max_assoc]
theorem tobjss_append : ∀ l m : List S25, tobjss (l ++ m) = tobjss l + tobjss m
  | [], m => by simp [tobjss]
  | x :: l, m => by simp [tobjss, tobjss_append l m, Nat.add_assoc]
theorem tdeep2_eq : ∀ l : List S25, tdeep2 l = tdeeps (tkids l)
  | [] => by simp [tdeep2, tdeeps, tkids]
  | ⟨_, _, _, _, m⟩ :: l => by simp [tdeep2, tkids, tdeeps_append, tdeep2_eq l]
theorem tobj2_eq : ∀ l : List S25, tobj2 l = tobjss (tkids l)
  | [] => by simp [tobj2, tobjss, tkids]
  | ⟨_, _, _, _, m⟩ :: l => by simp [tobj2, tkids, tobjss_append, tobj2_eq l]
theorem tdepth_eq (a : S25) : tdepth a = if a.f0 = 0 then 0 else 1 + tdeeps (ttargets a) := by
  cases a with
  | mk k e n d l =>
    simp only [tdepth, ttargets]
    split
    · rfl
    · split
      · rw [tdeep2_eq]
      · rfl
theorem tobjs_eq (a : S25) : tobjs a = if a.f0 = 0 then 0 else 1 + tobjss (ttargets a) := by
  cases a with
  | mk k e n d l =>
    simp only [tobjs, ttargets]
    split
    · rfl
    · split
      · rw [tobj2_eq]
      · rfl
theorem tdeeps_take (l : List S25) (j : Nat) (h : j < l.length) : tdeeps (l.take (j + 1)) = max (tdeeps (l.take j)) (tdepth l[j]) := by
  rw [take_one l j h, tdeeps_append]; simp [tdeeps]
theorem tobjss_take (l : List S25) (j : Nat) (h : j < l.length) : tobjss (l.take (j + 1)) = tobjss (l.take j) + tobjs l[j] := by
  rw [take_one l j h, tobjss_append]; simp [tobjss]
theorem tobjss_le (l : List S25) (j : Nat) : tobjss (l.take j) ≤ tobjss l := by
  have := tobjss_append (l.take j) (l.drop j)
  rw [List.take_append_drop] at this
  omega
theorem tobjss_bound {l : List S25} (h : ∀ x ∈ l, tobjs x ≤ tsize x) : tobjss l ≤ tsizes l := by
  induction l with
  | nil => simp [tobjss]
  | cons k l ih =>
    simp only [tobjss, tsizes]
    have := h k List.mem_cons_self
    have := ih (fun x hx => h x (List.mem_cons_of_mem _ hx))
    omega
theorem tobjs_le : ∀ (n : Nat) (a : S25), tsize a ≤ n → tobjs a ≤ tsize a
  | 0, a, h => by have := tsize_eq a; omega
  | n + 1, a, h => by
    rw [tobjs_eq]
    split
    · omega
    · have h1 : tobjss (ttargets a) ≤ tsizes (ttargets a) := tobjss_bound fun x hx => tobjs_le n x (by have := ttargets_size hx; omega)
      have h2 := ttargets_sizes a
      have h3 := tsize_eq a
      omega
theorem tdepth_le_objs : ∀ (n : Nat) (a : S25), tsize a ≤ n → tdepth a ≤ tobjs a
  | 0, a, h => by have := tsize_eq a; omega
  | n + 1, a, h => by
    rw [tdepth_eq, tobjs_eq]
    split
    · omega
    · have : ∀ l : List S25, (∀ x ∈ l, tdepth x ≤ tobjs x) → tdeeps l ≤ tobjss l := fun l => by
        induction l with
        | nil => intro _; simp [tdeeps]
        | cons k l ih =>
          intro hl
          simp only [tdeeps, tobjss]
          have := hl k List.mem_cons_self
          have := ih (fun x hx => hl x (List.mem_cons_of_mem _ hx))
          omega
      have := this (ttargets a) fun x hx => tdepth_le_objs n x (by have := ttargets_size hx; omega)
      omega
theorem tobjs_size (a : S25) : tobjs a ≤ tsize a := tobjs_le _ a (Nat.le_refl _)
theorem tdepth_objs (a : S25) : tdepth a ≤ tobjs a := tdepth_le_objs _ a (Nat.le_refl _)
theorem depth_ev : ∀ (n : Nat) (a : S25), tsize a ≤ n → tsize a ≤ 1000000000000 → Ev (fun k => capnpref10_Depth.f k a.f0 a.f1 a.f2 a.f3 a.f4) (tdepth a : Int)
  | 0, a, h, _ => by have := tsize_eq a; omega
  | n + 1, a, h, hs => by
    have he := tsize_eq a
    have hd0 := tdepth_objs a
    have ho := tobjs_size a
    by_cases h0 : a.f0 = 0
    · refine Ev.step (f := fun _ => some (tdepth a : Int)) (fun k => ?_) (Ev.now _)
      simp only [capnpref10_Depth.f]
      rw [if_pos h0, tdepth_eq, if_pos h0]; rfl
    · refine Ev.step (f := fun k => (capnpref10_Targets.f k a.f0 a.f1 a.f2 a.f3 a.f4).bind fun t => capnpref10_Depth.l0 k t 0 0) (fun k => by simp only [capnpref10_Depth.f]; rw [if_neg h0]) ?_
      refine Ev.bind (targets_ev a hs) ?_
      have hT := ttargets_sizes a
      have hlT := length_tsizes (ttargets a)
      have hde : tdepth a = 1 + tdeeps (ttargets a) := by rw [tdepth_eq, if_neg h0]
      have hmem : ∀ x ∈ ttargets a, Ev (fun k => capnpref10_Depth.f k x.f0 x.f1 x.f2 x.f3 x.f4) (tdepth x : Int) := fun x hx => depth_ev n x (by have := ttargets_size hx; omega) (by have := ttargets_size hx; omega)
      generalize ttargets a = L at *
      have loop : ∀ d j : Nat, L.length - j = d → j ≤ L.length → Ev (fun k => capnpref10_Depth.l0 k L (tdeeps (L.take j) : Int) (j : Int)) (tdepth a : Int) := by
        intro d
        induction d with
        | zero =>
          intro j hd hj
          refine Ev.step (f := fun _ => some (tdepth a : Int)) (fun k => ?_) (Ev.now _)
          simp only [capnpref10_Depth.l0]
          rw [if_neg (by omega), List.take_of_length_le (by omega), w64 (by omega) (by omega), hde]
          congr 1
        | succ d ihd =>
          intro j hd hj
          have hlt : j < L.length := by omega
          have ht := tdeeps_take L j hlt
          have hn := ihd (j + 1) (by omega) (by omega)
          rw [ht] at hn
          refine Ev.step (f := fun k => (capnpref10_Depth.f k L[j].f0 L[j].f1 L[j].f2 L[j].f3 L[j].f4).bind fun t => if t > (tdeeps (L.take j) : Int) then capnpref10_Depth.l0 k L t (wrap64 ((j : Int) + 1)) else capnpref10_Depth.l0 k L (tdeeps (L.take j) : Int) (wrap64 ((j : Int) + 1))) (fun k => ?_) ?_
          · simp only [capnpref10_Depth.l0]
            rw [if_pos (by omega), if_pos (by omega), rdT_at _ _ hlt]
          · refine Ev.bind (hmem _ (List.getElem_mem hlt)) ?_
            rw [w64 (by omega) (by omega)]
            have e2 : ((j + 1 : Nat) : Int) = (j : Int) + 1 := by omega
            rw [e2] at hn
            by_cases hc : tdeeps (L.take j) < tdepth L[j]
            · rw [Nat.max_eq_right (by omega)] at hn
              exact Ev.congr (fun k => by rw [if_pos (by omega)]) hn
            · rw [Nat.max_eq_left (by omega)] at hn
              exact Ev.congr (fun k => by rw [if_neg (by omega)]) hn
      exact loop L.length 0 (by omega) (by omega)
theorem objs_ev : ∀ (n : Nat) (a : S25), tsize a ≤ n → tsize a ≤ 1000000000000 → Ev (fun k => capnpref10_Objects.f k a.f0 a.f1 a.f2 a.f3 a.f4) (tobjs a : Int)
  | 0, a, h, _ => by have := tsize_eq a; omega
  | n + 1, a, h, hs => by
    have he := tsize_eq a
    have ho := tobjs_size a
    by_cases h0 : a.f0 = 0
    · refine Ev.step (f := fun _ => some (tobjs a : Int)) (fun k => ?_) (Ev.now _)
      simp only [capnpref10_Objects.f]
      rw [if_pos h0, tobjs_eq, if_pos h0]; rfl
    · refine Ev.step (f := fun k => (capnpref10_Targets.f k a.f0 a.f1 a.f2 a.f3 a.f4).bind fun t => capnpref10_Objects.l0 k t 1 0) (fun k => by simp only [capnpref10_Objects.f]; rw [if_neg h0]) ?_
      refine Ev.bind (targets_ev a hs) ?_
      have hT := ttargets_sizes a
      have hlT := length_tsizes (ttargets a)
      have hde : tobjs a = 1 + tobjss (ttargets a) := by rw [tobjs_eq, if_neg h0]
      have hmem : ∀ x ∈ ttargets a, Ev (fun k => capnpref10_Objects.f k x.f0 x.f1 x.f2 x.f3 x.f4) (tobjs x : Int) := fun x hx => objs_ev n x (by have := ttargets_size hx; omega) (by have := ttargets_size hx; omega)
      generalize ttargets a = L at *
      have loop : ∀ d j : Nat, L.length - j = d → j ≤ L.length → Ev (fun k => capnpref10_Objects.l0 k L ((1 + tobjss (L.take j) : Nat) : Int) (j : Int)) (tobjs a : Int) := by
        intro d
        induction d with
        | zero =>
          intro j hd hj
          refine Ev.step (f := fun _ => some (tobjs a : Int)) (fun k => ?_) (Ev.now _)
          simp only [capnpref10_Objects.l0]
          rw [if_neg (by omega), List.take_of_length_le (by omega), hde]
        | succ d ihd =>
          intro j hd hj
          have hlt : j < L.length := by omega
          have ht := tobjss_take L j hlt
          have hle := tobjss_le L (j + 1)
          have hn := ihd (j + 1) (by omega) (by omega)
          refine Ev.step (f := fun k => (capnpref10_Objects.f k L[j].f0 L[j].f1 L[j].f2 L[j].f3 L[j].f4).bind fun t => capnpref10_Objects.l0 k L (wrap64 (((1 + tobjss (L.take j) : Nat) : Int) + t)) (wrap64 ((j : Int) + 1))) (fun k => ?_) ?_
          · simp only [capnpref10_Objects.l0]
            rw [if_pos (by omega), if_pos (by omega), rdT_at _ _ hlt]
          · refine Ev.bind (hmem _ (List.getElem_mem hlt)) ?_
            rw [w64 (by omega) (by omega), w64 (by omega) (by omega)]
            have e1 : ((1 + tobjss (L.take (j + 1)) : Nat) : Int) = ((1 + tobjss (L.take j) : Nat) : Int) + (tobjs L[j] : Int) := by omega
            have e2 : ((j + 1 : Nat) : Int) = (j : Int) + 1 := by omega
            rw [e1, e2] at hn
            exact hn
      exact loop L.length 0 (by omega) (by omega)
end Go.Proofs.Ytmbockhcmhghlaa.Pr
end
section
namespace Go.Proofs.Ytmbockhcmhghlaa.Pr
open Go.RowKit Go.Proofs.YtmbockhcmhghlaaW.PrintWords Go.Proofs.YtmbockhcmhghlaaW.PrintLast Go.Proofs.YtmbockhcmhghlaaW.PrintMore
set_option linter.unusedVariables false
set_option linter.unusedSimpArgs false
theorem keptN_parts {α : Type} (p : α → Bool) (l : List α) : ∃ m, l = l.take (keptN p l) ++ m ∧ (∀ x ∈ m, p x = true) ∧ (l.take (keptN p l)).length = keptN p l := by
  have h := List.takeWhile_append_dropWhile (p := p) (l := l.reverse)
  have h2 : l = (l.reverse.dropWhile p).reverse ++ (l.reverse.takeWhile p).reverse := by
    rw [← List.reverse_append, h, List.reverse_reverse]
  have hl : (l.reverse.dropWhile p).reverse.length = keptN p l := by rw [List.length_reverse]; rfl
  have ht : l.take (keptN p l) = (l.reverse.dropWhile p).reverse := by
    have key : ∀ A B : List α, (A ++ B).take A.length = A := fun A B => by simp
    rw [← hl]
    exact (congrArg (List.take (l.reverse.dropWhile p).reverse.length) h2).trans (key _ _)
  refine ⟨(l.reverse.takeWhile p).reverse, by rw [ht]; exact h2, fun x hx => ?_, by rw [ht, hl]⟩
  have := List.mem_reverse.1 hx
  exact List.all_eq_true.1 List.all_takeWhile x this
theorem keptN_all {α : Type} (p : α → Bool) (l m : List α) (h : ∀ x ∈ m, p x = true) : keptN p (l ++ m) = keptN p l := by
  unfold keptN
  rw [List.reverse_append, List.dropWhile_append_of_pos (fun x hx => h x (List.mem_reverse.1 hx))]
theorem keptN_cut {α : Type} (p : α → Bool) (l : List α) (m : Nat) (h : keptN p l ≤ m) : keptN p (l.take m) = keptN p l := by
  obtain ⟨r, hr, hp, hlen⟩ := keptN_parts p l
  have hd : ∀ x ∈ l.drop m, p x = true := fun x hx => by
    rw [hr, List.drop_append, List.drop_eq_nil_of_le (by omega), List.nil_append] at hx
    exact hp x (List.mem_of_mem_drop hx)
  conv => rhs; rw [← List.take_append_drop m l]
  rw [keptN_all p _ _ hd]
theorem keptN_map {α β : Type} (p : β → Bool) (q : α → Bool) (f : α → β) (l : List α) (h : ∀ x ∈ l, p (f x) = q x) : keptN p (l.map f) = keptN q l := by
  obtain ⟨n, hn⟩ : ∃ n, l.length = n := ⟨_, rfl⟩
  induction n generalizing l with
  | zero => obtain rfl := List.eq_nil_of_length_eq_zero hn; rfl
  | succ n ih =>
    have hl : l = l.take n ++ [l[n]'(by omega)] := by rw [← take_one l n (by omega), List.take_of_length_le (by omega)]
    rw [hl, List.map_append]
    simp only [List.map_cons, List.map_nil]
    rw [keptN_snoc, keptN_snoc, h _ (List.getElem_mem (by omega)), ih (l.take n) (fun x hx => h x (List.mem_of_mem_take hx)) (by simp; omega)]
    simp
def twords (d : List Int) : Nat := (keptN zeroB d + 7) / 8
def cutD (a : S25) : List Int := if a.f0 = 1 then a.f3.take (8 * twords a.f3) else a.f3
def cutK (a : S25) : List S25 := if a.f0 = 1 then a.f4.take (keptN nullN a.f4) else a.f4
mutual
def ttrim : S25 → S25
  | ⟨k, e, n, d, l⟩ => ⟨k, e, n, if k = 1 then d.take (8 * twords d) else d, if k = 1 then (ttrims l).take (keptN nullN l) else ttrims l⟩
def ttrims : List S25 → List S25
  | [] => []
  | x :: l => ttrim x :: ttrims l
end
theorem ttrims_eq : ∀ l : List S25, ttrims l = l.map ttrim
  | [] => rfl
  | x :: l => by simp [ttrims, ttrims_eq l]
theorem ttrim_eq (a : S25) : ttrim a = ⟨a.f0, a.f1, a.f2, cutD a, (cutK a).map ttrim⟩ := by
  cases a with
  | mk k e n d l =>
    simp only [ttrim, cutD, cutK, ttrims_eq]
    split <;> simp [List.map_take]
theorem ttrim_f0 (a : S25) : (ttrim a).f0 = a.f0 := by rw [ttrim_eq]
theorem ttrim_f1 (a : S25) : (ttrim a).f1 = a.f1 := by rw [ttrim_eq]
theorem ttrim_f2 (a : S25) : (ttrim a).f2 = a.f2 := by rw [ttrim_eq]
theorem ttrim_f3 (a : S25) : (ttrim a).f3 = cutD a := by rw [ttrim_eq]
theorem ttrim_f4 (a : S25) : (ttrim a).f4 = (cutK a).map ttrim := by rw [ttrim_eq]
theorem nullN_trim (x : S25) : nullN (ttrim x) = nullN x := by unfold nullN; rw [ttrim_f0]
theorem cutK_sub {a x : S25} (h : x ∈ cutK a) : x ∈ a.f4 := by
  unfold cutK at h
  split at h
  · exact List.mem_of_mem_take h
  · exact h
theorem cutK_len (a : S25) : (cutK a).length ≤ a.f4.length := by
  unfold cutK
  split
  · simp; omega
  · omega
theorem cutD_len (a : S25) : (cutD a).length ≤ a.f3.length := by
  unfold cutD
  split
  · simp; omega
  · omega
def wordsT : S25 → Prop := AllT fun a => a.f0 = 1 → a.f3.length % 8 = 0
theorem valid_words (a : S25) : tvalid a = true → wordsT a := by
  refine S25.ind (P := fun a => tvalid a = true → wordsT a) (fun a ih h => ?_) a
  rw [tvalid_eq, Bool.and_eq_true] at h
  refine .mk (fun h1 => ?_) (fun x hx => ih x hx ((tvalids_all _ _).1 h.1 x hx).1)
  have h2 := h.2
  unfold topV at h2
  rw [if_neg (by omega), if_pos h1] at h2
  simp only [Bool.and_eq_true, beq_iff_eq] at h2
  omega
theorem twords_le (d : List Int) (h : d.length % 8 = 0) : 8 * twords d ≤ d.length := by
  have := keptN_le zeroB d
  unfold twords; omega
theorem twords_ge (d : List Int) : keptN zeroB d ≤ 8 * twords d := by unfold twords; omega
theorem twords_cut (d : List Int) : twords (d.take (8 * twords d)) = twords d := by
  show (keptN zeroB (d.take (8 * twords d)) + 7) / 8 = (keptN zeroB d + 7) / 8
  rw [keptN_cut zeroB d _ (twords_ge d)]
theorem rwords_ev (d : List Int) (h : d.length ≤ 1000000000000) : Ev (fun k => capnpref11_Words.f k d) (twords d : Int) := by
  unfold capnpref11_Words.f
  have loop : ∀ n j : Nat, d.length - j = n → j ≤ d.length → Ev (fun k => capnpref11_Words.l0 k d (twords (d.take j) : Int) (j : Int)) (twords d : Int) := by
    intro n
    induction n with
    | zero =>
      intro j hd hj
      refine Ev.step (f := fun _ => some (twords d : Int)) (fun k => ?_) (Ev.now _)
      simp only [capnpref11_Words.l0]
      rw [if_neg (by omega), List.take_of_length_le (by omega)]
    | succ n ih =>
      intro j hd hj
      have hlt : j < d.length := by omega
      have hn := ih (j + 1) (by omega) (by omega)
      have e2 : ((j + 1 : Nat) : Int) = (j : Int) + 1 := by omega
      rw [e2] at hn
      have hk := keptN_snoc zeroB (d.take j) d[j]
      rw [← take_one d j hlt] at hk
      have hjl : (d.take j).length = j := by simp; omega
      by_cases h0 : d[j] = 0
      · rw [if_pos (by simp [zeroB, h0])] at hk
        have : twords (d.take (j + 1)) = twords (d.take j) := by unfold twords; rw [hk]
        rw [this] at hn
        refine Ev.step (f := fun k => capnpref11_Words.l0 k d (twords (d.take j) : Int) (wrap64 ((j : Int) + 1))) (fun k => ?_) (by rw [w64 (by omega) (by omega)]; exact hn)
        simp only [capnpref11_Words.l0]
        rw [if_pos (by omega), if_pos (by omega), rd_at _ _ hlt, if_pos h0]
      · rw [if_neg (by simp [zeroB, h0]), hjl] at hk
        have : (twords (d.take (j + 1)) : Int) = (j : Int) / 8 + 1 := by unfold twords; rw [hk]; omega
        rw [this] at hn
        refine Ev.step (f := fun k => capnpref11_Words.l0 k d (wrap64 (wrap64 (Int.tdiv (j : Int) 8) + 1)) (wrap64 ((j : Int) + 1))) (fun k => ?_) ?_
        · simp only [capnpref11_Words.l0]
          rw [if_pos (by omega), if_pos (by omega), rd_at _ _ hlt, if_neg h0]
        · rw [Int.tdiv_eq_ediv_of_nonneg (by omega), w64 (x := (j : Int) / 8) (by omega) (by omega), w64 (x := (j : Int) / 8 + 1) (by omega) (by omega), w64 (x := (j : Int) + 1) (by omega) (by omega)]
          exact hn
  have h0 := loop d.length 0 (by omega) (by omega)
  rw [show (twords (d.take 0) : Int) = 0 by rw [List.take_zero]; rfl] at h0
  exact h0
theorem rptrs_ev (l : List S25) (h : l.length ≤ 1000000000000) : Ev (fun k => capnpref11_Pointers.f k l) (keptN nullN l : Int) := by
  unfold capnpref11_Pointers.f
  have loop : ∀ n j : Nat, l.length - j = n → j ≤ l.length → Ev (fun k => capnpref11_Pointers.l0 k l (keptN nullN (l.take j) : Int) (j : Int)) (keptN nullN l : Int) := by
    intro n
    induction n with
    | zero =>
      intro j hd hj
      refine Ev.step (f := fun _ => some (keptN nullN l : Int)) (fun k => ?_) (Ev.now _)
      simp only [capnpref11_Pointers.l0]
      rw [if_neg (by omega), List.take_of_length_le (by omega)]
    | succ n ih =>
      intro j hd hj
      have hlt : j < l.length := by omega
      have hn := ih (j + 1) (by omega) (by omega)
      have e2 : ((j + 1 : Nat) : Int) = (j : Int) + 1 := by omega
      have hk := keptN_snoc nullN (l.take j) l[j]
      rw [← take_one l j hlt] at hk
      have hjl : (l.take j).length = j := by simp; omega
      by_cases h0 : l[j].f0 = 0
      · rw [if_pos (by simp [nullN, h0])] at hk
        rw [hk, e2] at hn
        refine Ev.step (f := fun k => capnpref11_Pointers.l0 k l (keptN nullN (l.take j) : Int) (wrap64 ((j : Int) + 1))) (fun k => ?_) (by rw [w64 (by omega) (by omega)]; exact hn)
        simp only [capnpref11_Pointers.l0]
        rw [if_pos (by omega), if_pos (by omega), rdT_at _ _ hlt, if_pos h0]
      · rw [if_neg (by simp [nullN, h0]), hjl] at hk
        rw [hk, e2] at hn
        refine Ev.step (f := fun k => capnpref11_Pointers.l0 k l (wrap64 ((j : Int) + 1)) (wrap64 ((j : Int) + 1))) (fun k => ?_) (by rw [w64 (by omega) (by omega)]; exact hn)
        simp only [capnpref11_Pointers.l0]
        rw [if_pos (by omega), if_pos (by omega), rdT_at _ _ hlt, if_neg h0]
  have h0 := loop l.length 0 (by omega) (by omega)
  rw [show (keptN nullN (l.take 0) : Int) = 0 by rw [List.take_zero]; rfl] at h0
  exact h0
theorem twords_f (d : List Int) (h : d.length ≤ 1000000000000) : trim_Words.f d = some (twords d : Int) := by
  unfold trim_Words.f twords
  rw [if_pos (by omega)]
  congr 1
  omega
theorem tptrs_f (l : List S25) : trim_Pointers.f l = some (keptN nullN l : Int) := rfl
def cellsT (a : S25) : Int × Int × Int × List Int × (List S25) := (a.f0, a.f1, a.f2, a.f3, a.f4)
theorem mkT (a : S25) : (⟨(cellsT a).1, (cellsT a).2.1, (cellsT a).2.2.1, (cellsT a).2.2.2.1, (cellsT a).2.2.2.2⟩ : S25) = a := by cases a; rfl
theorem take_map {α β : Type} (f : α → β) (l : List α) (j : Nat) (h : j < l.length) : (l.take j).map f ++ [f l[j]] = (l.take (j + 1)).map f := by
  rw [take_one l j h, List.map_append]; rfl
theorem trim_loop (L : List S25) (hL : L.length ≤ 1000000000000) (hm : ∀ x ∈ L, Ev (fun k => trim_Trim.f k x.f0 x.f1 x.f2 x.f3 x.f4) (cellsT (ttrim x))) (e n : Int) (kd : Int) (D : List Int) :
    Ev (fun k => trim_Trim.l0 k L (L.length : Int) 0 kd e n D []) (kd, e, n, D, L.map ttrim) := by
  have loop : ∀ d j : Nat, L.length - j = d → j ≤ L.length → Ev (fun k => trim_Trim.l0 k L (L.length : Int) (j : Int) kd e n D ((L.take j).map ttrim)) (kd, e, n, D, L.map ttrim) := by
    intro d
    induction d with
    | zero =>
      intro j hd hj
      refine Ev.step (f := fun _ => some (kd, e, n, D, L.map ttrim)) (fun k => ?_) (Ev.now _)
      simp only [trim_Trim.l0]
      rw [if_neg (by omega), List.take_of_length_le (by omega)]
    | succ d ih =>
      intro j hd hj
      have hlt : j < L.length := by omega
      have hn := ih (j + 1) (by omega) (by omega)
      rw [← take_map _ _ _ hlt, show ((j + 1 : Nat) : Int) = (j : Int) + 1 by omega] at hn
      refine Ev.step (f := fun k => (trim_Trim.f k L[j].f0 L[j].f1 L[j].f2 L[j].f3 L[j].f4).bind fun bt => if ((L.take j).map ttrim).length < 1954687338268 then trim_Trim.l0 k L (L.length : Int) (wrap64 ((j : Int) + 1)) kd e n D ((L.take j).map ttrim ++ [(⟨bt.1, bt.2.1, bt.2.2.1, bt.2.2.2.1, bt.2.2.2.2⟩ : S25)]) else none) (fun k => ?_) ?_
      · simp only [trim_Trim.l0]
        rw [if_pos (by omega), if_pos (by omega), if_pos (by omega), rdT_at _ _ hlt]
      · refine Ev.bind (hm _ (List.getElem_mem hlt)) ?_
        rw [w64 (by omega) (by omega)]
        exact Ev.congr (fun k => by rw [if_pos (by simp; omega), mkT]) hn
  exact loop L.length 0 (by omega) (by omega)
theorem ttrim_ev (a : S25) : wordsT a → tsize a ≤ 1000000000000 → Ev (fun k => trim_Trim.f k a.f0 a.f1 a.f2 a.f3 a.f4) (cellsT (ttrim a)) := by
  refine S25.ind (P := fun a => wordsT a → tsize a ≤ 1000000000000 → Ev (fun k => trim_Trim.f k a.f0 a.f1 a.f2 a.f3 a.f4) (cellsT (ttrim a))) (fun a ih hw hs => ?_) a
  have he := tsize_eq a
  have hl := length_tsizes a.f4
  have hm : ∀ x ∈ a.f4, Ev (fun k => trim_Trim.f k x.f0 x.f1 x.f2 x.f3 x.f4) (cellsT (ttrim x)) := fun x hx => ih x hx (AllT.kids hw x hx) (by have := tsize_kid hx; omega)
  have hc : cellsT (ttrim a) = (a.f0, a.f1, a.f2, cutD a, (cutK a).map ttrim) := by unfold cellsT; rw [ttrim_eq]
  have hj : Ev (fun k => trim_Trim.j0 k (cutD a) (cutK a) a.f0 a.f1 a.f2) (cellsT (ttrim a)) := by
    rw [hc]
    have hcl := cutD_len a
    have hck := cutK_len a
    refine Ev.step (f := fun k => trim_Trim.l0 k (cutK a) ((cutK a).length : Int) 0 a.f0 a.f1 a.f2 (cutD a) []) (fun k => ?_) (trim_loop (cutK a) (by omega) (fun x hx => hm x (cutK_sub hx)) _ _ _ _)
    simp only [trim_Trim.j0]
    rw [if_pos (by simp; omega), List.nil_append]
  by_cases h0 : a.f0 = 1
  · have hlen := AllT.here hw h0
    have hwl := twords_le a.f3 hlen
    have hkl := keptN_le nullN a.f4
    refine Ev.step (f := fun k => trim_Trim.j0 k (cutD a) (cutK a) a.f0 a.f1 a.f2) (fun k => ?_) hj
    simp only [trim_Trim.f]
    rw [if_pos h0, twords_f _ (by omega), Option.bind_some, w64 (by omega) (by omega), if_pos (by omega), if_pos (by omega), tptrs_f, Option.bind_some, if_pos (by omega), if_pos (by omega)]
    unfold cutD cutK
    rw [if_pos h0, if_pos h0]
    have e1 : (8 * (twords a.f3 : Int)).toNat = 8 * twords a.f3 := by omega
    rw [e1, Int.toNat_natCast]
  · refine Ev.step (f := fun k => trim_Trim.j0 k (cutD a) (cutK a) a.f0 a.f1 a.f2) (fun k => ?_) hj
    simp only [trim_Trim.f]
    unfold cutD cutK
    rw [if_neg h0, if_neg h0, if_neg h0]
mutual
def ttrimmed : S25 → Bool
  | ⟨k, _, _, d, l⟩ => !(k == 1 && ((8 * (twords d : Int) != (d.length : Int)) || ((keptN nullN l : Int) != (l.length : Int)))) && ttrimmeds l
def ttrimmeds : List S25 → Bool
  | [] => true
  | x :: l => ttrimmed x && ttrimmeds l
end
def topTr (a : S25) : Bool := !(a.f0 == 1 && ((8 * (twords a.f3 : Int) != (a.f3.length : Int)) || ((keptN nullN a.f4 : Int) != (a.f4.length : Int))))
theorem ttrimmed_eq (a : S25) : ttrimmed a = (topTr a && ttrimmeds a.f4) := by cases a; rfl
theorem ttrimmeds_all (l : List S25) : ttrimmeds l = true ↔ ∀ x ∈ l, ttrimmed x = true := by
  induction l with
  | nil => simp [ttrimmeds]
  | cons x l ih => simp [ttrimmeds, ih]
theorem trimmed_ev (a : S25) : tsize a ≤ 1000000000000 → Ev (fun k => capnpref11_Trimmed.f k a.f0 a.f1 a.f2 a.f3 a.f4) (ttrimmed a) := by
  refine S25.ind (P := fun a => tsize a ≤ 1000000000000 → Ev (fun k => capnpref11_Trimmed.f k a.f0 a.f1 a.f2 a.f3 a.f4) (ttrimmed a)) (fun a ih hs => ?_) a
  have he := tsize_eq a
  have hl := length_tsizes a.f4
  have hm : ∀ x ∈ a.f4, Ev (fun k => capnpref11_Trimmed.f k x.f0 x.f1 x.f2 x.f3 x.f4) (ttrimmed x) := fun x hx => ih x hx (by have := tsize_kid hx; omega)
  have loop : topTr a = true → ∀ d j : Nat, a.f4.length - j = d → j ≤ a.f4.length → (∀ x ∈ a.f4.take j, ttrimmed x = true) → Ev (fun k => capnpref11_Trimmed.l0 k (j : Int) a.f0 a.f1 a.f2 a.f3 a.f4) (ttrimmed a) := by
    intro htop d
    induction d with
    | zero =>
      intro j hd hj hall
      rw [List.take_of_length_le (by omega)] at hall
      rw [ttrimmed_eq, htop, (ttrimmeds_all _).2 hall]
      refine Ev.step (f := fun _ => some true) (fun k => ?_) (Ev.now _)
      simp only [capnpref11_Trimmed.l0]
      rw [if_neg (by omega)]
    | succ d ihd =>
      intro j hd hj hall
      have hlt : j < a.f4.length := by omega
      have hmem : a.f4[j] ∈ a.f4 := List.getElem_mem hlt
      refine Ev.step (f := fun k => (capnpref11_Trimmed.f k a.f4[j].f0 a.f4[j].f1 a.f4[j].f2 a.f4[j].f3 a.f4[j].f4).bind fun t => if t = true then capnpref11_Trimmed.l0 k (wrap64 ((j : Int) + 1)) a.f0 a.f1 a.f2 a.f3 a.f4 else some false) (fun k => ?_) ?_
      · simp only [capnpref11_Trimmed.l0]
        rw [if_pos (by omega), if_pos (by omega), rdT_at _ _ hlt]
      · refine Ev.bind (hm _ hmem) ?_
        cases ht : ttrimmed a.f4[j] with
        | true =>
          rw [w64 (by omega) (by omega)]
          refine Ev.congr (f := fun k => capnpref11_Trimmed.l0 k ((j + 1 : Nat) : Int) a.f0 a.f1 a.f2 a.f3 a.f4) (fun k => by rw [if_pos rfl]; rfl) (ihd (j + 1) (by omega) (by omega) ?_)
          intro x hx
          rw [take_one _ _ hlt] at hx
          rcases List.mem_append.1 hx with hx | hx
          · exact hall x hx
          · rw [List.mem_singleton.1 hx]; exact ht
        | false =>
          have : ttrimmed a = false := by
            cases h : ttrimmed a with
            | false => rfl
            | true =>
              rw [ttrimmed_eq, Bool.and_eq_true] at h
              have := (ttrimmeds_all _).1 h.2 _ hmem
              rw [ht] at this
              cases this
          rw [this]
          exact Ev.congr (fun k => by rw [if_neg (by simp)]) (Ev.now _)
  have jt : topTr a = false → Ev (fun k => capnpref11_Trimmed.j0 k true a.f0 a.f1 a.f2 a.f3 a.f4) (ttrimmed a) := fun h => by
    rw [ttrimmed_eq, h, Bool.false_and]
    refine Ev.step (f := fun _ => some false) (fun k => ?_) (Ev.now _)
    simp only [capnpref11_Trimmed.j0]
    rw [if_pos trivial]
  have jf : topTr a = true → Ev (fun k => capnpref11_Trimmed.j0 k false a.f0 a.f1 a.f2 a.f3 a.f4) (ttrimmed a) := fun h => by
    refine Ev.step (f := fun k => capnpref11_Trimmed.l0 k 0 a.f0 a.f1 a.f2 a.f3 a.f4) (fun k => ?_) (loop h a.f4.length 0 (by omega) (by omega) (by simp))
    simp only [capnpref11_Trimmed.j0]
    rw [if_neg (by simp)]
  by_cases h0 : a.f0 = 1
  · refine Ev.step (f := fun k => (capnpref11_Words.f k a.f3).bind fun t => if wrap64 (8 * t) = (a.f3.length : Int) then ((capnpref11_Pointers.f k a.f4).bind fun u => capnpref11_Trimmed.j0 k (u != (a.f4.length : Int)) a.f0 a.f1 a.f2 a.f3 a.f4) else capnpref11_Trimmed.j0 k true a.f0 a.f1 a.f2 a.f3 a.f4) (fun k => by simp only [capnpref11_Trimmed.f]; rw [if_pos h0]) ?_
    have hkw := keptN_le zeroB a.f3
    have hw : twords a.f3 ≤ a.f3.length + 7 := by unfold twords; omega
    refine Ev.bind (rwords_ev _ (by omega)) ?_
    rw [w64 (by omega) (by omega)]
    by_cases h1 : 8 * (twords a.f3 : Int) = (a.f3.length : Int)
    · have n1 : (8 * (twords a.f3 : Int) != (a.f3.length : Int)) = false := by simpa using h1
      refine Ev.congr (f := fun k => (capnpref11_Pointers.f k a.f4).bind fun u => capnpref11_Trimmed.j0 k (u != (a.f4.length : Int)) a.f0 a.f1 a.f2 a.f3 a.f4) (fun k => by rw [if_pos h1]) ?_
      refine Ev.bind (rptrs_ev _ (by omega)) ?_
      have ht : topTr a = !((keptN nullN a.f4 : Int) != (a.f4.length : Int)) := by
        unfold topTr; rw [h0, n1]; rfl
      cases hb : ((keptN nullN a.f4 : Int) != (a.f4.length : Int)) with
      | true => exact jt (by rw [ht, hb]; rfl)
      | false => exact jf (by rw [ht, hb]; rfl)
    · have n1 : (8 * (twords a.f3 : Int) != (a.f3.length : Int)) = true := by simpa using h1
      exact Ev.congr (fun k => by rw [if_neg h1]) (jt (by unfold topTr; rw [h0, n1]; rfl))
  · refine Ev.step (f := fun k => capnpref11_Trimmed.j0 k false a.f0 a.f1 a.f2 a.f3 a.f4) (fun k => by simp only [capnpref11_Trimmed.f]; rw [if_neg h0]) (jf ?_)
    have n0 : (a.f0 == 1) = false := by simpa using h0
    unfold topTr; rw [n0]; rfl
end Go.Proofs.Ytmbockhcmhghlaa.Pr
end
section
namespace Go.Proofs.Ytmbockhcmhghlaa.Pr
open Go.RowKit Go.Proofs.YtmbockhcmhghlaaW.PrintWords Go.Proofs.YtmbockhcmhghlaaW.PrintLast Go.Proofs.YtmbockhcmhghlaaW.PrintMore
set_option linter.unusedVariables false
set_option linter.unusedSimpArgs false
theorem cutD_words (a : S25) (h : a.f0 = 1) (hl : a.f3.length % 8 = 0) : (cutD a).length = 8 * twords a.f3 := by
  have := twords_le a.f3 hl
  unfold cutD; rw [if_pos h]; simp; omega
theorem cutK_kept (a : S25) (h : a.f0 = 1) : (cutK a).length = keptN nullN a.f4 := by
  have := keptN_le nullN a.f4
  unfold cutK; rw [if_pos h]; simp; omega
theorem keptN_trim (l : List S25) : keptN nullN (l.map ttrim) = keptN nullN l := keptN_map nullN nullN ttrim l (fun x _ => nullN_trim x)
theorem kept_cutK (a : S25) (h : a.f0 = 1) : keptN nullN ((cutK a).map ttrim) = ((cutK a).map ttrim).length := by
  rw [keptN_trim, List.length_map, cutK_kept a h]
  unfold cutK; rw [if_pos h, keptN_cut nullN a.f4 _ (Nat.le_refl _)]
theorem twords_cutD (a : S25) (h : a.f0 = 1) : twords (cutD a) = twords a.f3 := by
  unfold cutD; rw [if_pos h, twords_cut]
theorem words_trim (a : S25) : wordsT a → wordsT (ttrim a) := by
  refine S25.ind (P := fun a => wordsT a → wordsT (ttrim a)) (fun a ih h => ?_) a
  refine .mk (fun h1 => ?_) (fun x hx => ?_)
  · rw [ttrim_f0] at h1
    rw [ttrim_f3, cutD_words a h1 (AllT.here h h1)]
    omega
  · rw [ttrim_f4] at hx
    obtain ⟨y, hy, rfl⟩ := List.mem_map.1 hx
    exact ih y (cutK_sub hy) (AllT.kids h y (cutK_sub hy))
theorem ok_trim (a : S25) : okT a → okT (ttrim a) := by
  refine S25.ind (P := fun a => okT a → okT (ttrim a)) (fun a ih h => ?_) a
  refine .mk (fun x hx => ?_) (fun x hx => ?_)
  · rw [ttrim_f3] at hx
    have := AllT.here h
    unfold cutD at hx
    split at hx
    · exact this x (List.mem_of_mem_take hx)
    · exact this x hx
  · rw [ttrim_f4] at hx
    obtain ⟨y, hy, rfl⟩ := List.mem_map.1 hx
    exact ih y (cutK_sub hy) (AllT.kids h y (cutK_sub hy))
theorem sizes_map_le (l : List S25) (h : ∀ x ∈ l, tsize (ttrim x) ≤ tsize x) : tsizes (l.map ttrim) ≤ tsizes l := by
  induction l with
  | nil => simp [tsizes]
  | cons k l ih =>
    have := h k List.mem_cons_self
    have := ih (fun x hx => h x (List.mem_cons_of_mem _ hx))
    simp only [List.map_cons, tsizes]; omega
theorem cutK_sizes (a : S25) : tsizes (cutK a) ≤ tsizes a.f4 := by
  unfold cutK
  split
  · exact tsizes_le _ _
  · exact Nat.le_refl _
theorem size_trim (a : S25) : tsize (ttrim a) ≤ tsize a := by
  refine S25.ind (P := fun a => tsize (ttrim a) ≤ tsize a) (fun a ih => ?_) a
  rw [tsize_eq, tsize_eq a, ttrim_f3, ttrim_f4]
  have h1 := cutD_len a
  have h2 := sizes_map_le (cutK a) (fun x hx => ih x (cutK_sub hx))
  have h3 := cutK_sizes a
  omega
theorem trim_idem (a : S25) : wordsT a → ttrim (ttrim a) = ttrim a := by
  refine S25.ind (P := fun a => wordsT a → ttrim (ttrim a) = ttrim a) (fun a ih h => ?_) a
  have hk : ((cutK a).map ttrim).map ttrim = (cutK a).map ttrim := by
    rw [List.map_map]
    exact List.map_congr_left fun x hx => ih x (cutK_sub hx) (AllT.kids h x (cutK_sub hx))
  by_cases h1 : a.f0 = 1
  · have hl := AllT.here h h1
    have e1 : cutD (ttrim a) = cutD a := by
      conv => lhs; unfold cutD
      rw [ttrim_f0, if_pos h1, ttrim_f3, twords_cutD a h1, List.take_of_length_le (by rw [cutD_words a h1 hl]; exact Nat.le_refl _)]
    have e2 : cutK (ttrim a) = (cutK a).map ttrim := by
      conv => lhs; unfold cutK
      rw [ttrim_f0, if_pos h1, ttrim_f4, kept_cutK a h1, List.take_length]
    rw [ttrim_eq (ttrim a), e1, e2, hk, ttrim_f0, ttrim_f1, ttrim_f2, ← ttrim_eq]
  · have e1 : cutD (ttrim a) = cutD a := by
      conv => lhs; unfold cutD
      rw [ttrim_f0, if_neg h1, ttrim_f3]
    have e2 : cutK (ttrim a) = (cutK a).map ttrim := by
      conv => lhs; unfold cutK
      rw [ttrim_f0, if_neg h1, ttrim_f4]
    rw [ttrim_eq (ttrim a), e1, e2, hk, ttrim_f0, ttrim_f1, ttrim_f2, ← ttrim_eq]
theorem valid_trim (a : S25) : tvalid a = true → tvalid (ttrim a) = true := by
  refine S25.ind (P := fun a => tvalid a = true → tvalid (ttrim a) = true) (fun a ih h => ?_) a
  have hw := AllT.here (valid_words a h)
  rw [tvalid_eq, Bool.and_eq_true] at h ⊢
  obtain ⟨hk, ht⟩ := h
  have hk' := (tvalids_all _ _).1 hk
  constructor
  · rw [ttrim_f0, ttrim_f1, ttrim_f4]
    refine (tvalids_all _ _).2 fun x hx => ?_
    obtain ⟨y, hy, rfl⟩ := List.mem_map.1 hx
    refine ⟨ih y (cutK_sub hy) (hk' y (cutK_sub hy)).1, fun hc => ?_⟩
    rw [ttrim_f0]
    exact (hk' y (cutK_sub hy)).2 hc
  · rw [ttrim_f0, ttrim_f1, ttrim_f2, ttrim_f3, ttrim_f4]
    by_cases h1 : a.f0 = 1
    · have e1 := cutD_words a h1 (hw h1)
      have e2 := cutD_len a
      have e3 := cutK_len a
      unfold topV at ht ⊢
      rw [if_neg (by omega), if_pos h1] at ht ⊢
      simp only [Bool.and_eq_true, beq_iff_eq, decide_eq_true_eq, List.length_map] at ht ⊢
      omega
    · have e1 : cutD a = a.f3 := by unfold cutD; rw [if_neg h1]
      have e2 : cutK a = a.f4 := by unfold cutK; rw [if_neg h1]
      rw [e1, e2, List.length_map]
      exact ht
theorem trimmed_trim (a : S25) : wordsT a → ttrimmed (ttrim a) = true := by
  refine S25.ind (P := fun a => wordsT a → ttrimmed (ttrim a) = true) (fun a ih h => ?_) a
  rw [ttrimmed_eq, Bool.and_eq_true]
  constructor
  · by_cases h1 : a.f0 = 1
    · have e1 := cutD_words a h1 (AllT.here h h1)
      have e2 := twords_cutD a h1
      have e3 := kept_cutK a h1
      unfold topTr
      rw [ttrim_f0, ttrim_f3, ttrim_f4, e2, e3, e1]
      simp
    · unfold topTr
      rw [ttrim_f0]
      have : (a.f0 == 1) = false := by simpa using h1
      rw [this]; rfl
  · refine (ttrimmeds_all _).2 fun x hx => ?_
    rw [ttrim_f4] at hx
    obtain ⟨y, hy, rfl⟩ := List.mem_map.1 hx
    exact ih y (cutK_sub hy) (AllT.kids h y (cutK_sub hy))
theorem trim_same (a : S25) : ttrimmed a = true → ttrim a = a := by
  refine S25.ind (P := fun a => ttrimmed a = true → ttrim a = a) (fun a ih h => ?_) a
  rw [ttrimmed_eq, Bool.and_eq_true] at h
  obtain ⟨h1, h2⟩ := h
  have hk := (ttrimmeds_all _).1 h2
  have e : a.f4.map ttrim = a.f4 := by
    conv => rhs; rw [← List.map_id a.f4]
    exact List.map_congr_left fun x hx => ih x hx (hk x hx)
  rw [ttrim_eq]
  by_cases h0 : a.f0 = 1
  · unfold topTr at h1
    rw [h0] at h1
    simp at h1
    have e1 : cutD a = a.f3 := by unfold cutD; rw [if_pos h0, List.take_of_length_le (by omega)]
    have e2 : cutK a = a.f4 := by unfold cutK; rw [if_pos h0, List.take_of_length_le (by omega)]
    rw [e1, e2, e, S25.eta]
  · have e1 : cutD a = a.f3 := by unfold cutD; rw [if_neg h0]
    have e2 : cutK a = a.f4 := by unfold cutK; rw [if_neg h0]
    rw [e1, e2, e, S25.eta]
theorem null_depth {x : S25} (h : nullN x = true) : tdepth x = 0 ∧ tobjs x = 0 := by
  have h0 : x.f0 = 0 := by simpa [nullN] using h
  rw [tdepth_eq, tobjs_eq, if_pos h0, if_pos h0]
  exact ⟨rfl, rfl⟩
end Go.Proofs.Ytmbockhcmhghlaa.Pr
end
