/- For every node and byte slice of bulk at most 1048576 the trimming functions return what the reference returns: the law answers true and leaves its arguments as they were. -/
import Derived.Test.YtmbockhcmhghlaaBMC
import Derived.Below
import Derived.Deep.Draws
import Derived.Deep.AppendLies
import Derived.Maps.AppendAt
import Derived.OwnWalk
import Derived.Laws.BytesArg
import Derived.Laws.MakeOwn
import Derived.Laws.OwnMore
import Derived.Deep.OwnRows
import Derived.Tactics
import Derived.Lib.ConvBytes
import Derived.Laws.Slices
import Derived.WalkKit
import Derived.KernelRfl
import Derived.RowKit3
import Derived.Deep.LoopGhost
import Derived.Deep.QuietTactic
import Derived.BigQuiet
import Derived.WideLaws
import Derived.Deep.DeepCutAuto
import Derived.Deep.CutBlock
import Derived.Deep.RegionHeld3
import Derived.Laws.Rows
import Derived.Lib.AppendStr
import Derived.ArgAppend
import Derived.Laws.IdiomCopy
import Derived.RowKit
import Derived.OrdersHeld
import Derived.Laws.BitsLemmas
import Derived.Laws.StructEq
import Derived.SizedLaws
import Derived.ChangeSlices
import Derived.Test.YtmbockhcmhghlaaProg
import Derived.Lib.Hide
import Derived.IntWalk
import Derived.Test.YtmbockhcmhghlaaRows
import Derived.ProofKit
import Derived.OpenShut
import Derived.ChangeOld
import Derived.Lib.SmallJoins
import Derived.DataReads
import Derived.ShutString
import Derived.JoinedCond
section
namespace Go.Proofs.Ytmbockhcmhghlaa.Pr
open Go.RowKit Go.Proofs.YtmbockhcmhghlaaW.PrintWords Go.Proofs.YtmbockhcmhghlaaW.PrintLast Go.Proofs.YtmbockhcmhghlaaW.PrintMore
attribute [local go_sem] max2_int min2_int max_two min_two max_three min_three max_four min_four
set_option linter.unusedVariables false
set_option linter.unusedSimpArgs false
set_option maxHeartbeats 8000000 in
set_option maxRecDepth 100000 in
theorem capnpref11_Uniform.calls (k : Nat) (a0_0 : Int) (a0_1 : Int) (a0_2 : Int) (A0_3 : Option Addr) (c0_3 : Nat) (l0_3 : List Int) (A0_4 : Option Addr) (c0_4 : Nat) (l0_4 : List (S25)) (r1 : Int) (r2 : Int) (w : World) (hr0_3 : Kd.C (Kd.int .u8) w A0_3 l0_3.length l0_3) (hc0_3 : l0_3.length ≤ c0_3) (hr0_4 : Kd.C k25 w A0_4 l0_4.length l0_4) (hc0_4 : l0_4.length ≤ c0_4) (h : capnpref11_Uniform.f k a0_0 a0_1 a0_2 l0_3 l0_4 = some (r1, r2)) :
  Calls Try.prog 19 #[.agg #[.int .i64 a0_0, .int .i64 a0_1, .int .i64 a0_2, .slice A0_3 l0_3.length c0_3, .slice A0_4 l0_4.length c0_4]] w fun e w' => e = .returned (.tuple #[.int .i64 r1, .int .i64 r2]) ∧ Below w.heap.size w w' := by
 have hu25 := Try.underlying25
 have HR0_3 := Aside0.mk hr0_3
 have HC0_3 := Aside0.mk hc0_3
 clear hr0_3 hc0_3
 have HR0_4 := Aside0.mk hr0_4
 have HC0_4 := Aside0.mk hc0_4
 clear hr0_4 hc0_4
 have HB := Aside0.mk (Below.refl w.heap.size w)
 have H : (capnpref11_Uniform.l0 k 0 0 0 a0_0 a0_1 a0_2 l0_3 l0_4) = some (r1, r2) := h
 clear h
 have H' := Aside0.mk H
 clear H
 go_enter Try.func19, Try.ntmps19
 go_wp2_with (first | ((with_reducible refine gate_dst (N := 1) rfl ?_); refine box_event ?hg (N := 1) ?hd (cs := #[.int .i64 a0_0, .int .i64 a0_1, .int .i64 a0_2, .slice A0_3 l0_3.length c0_3, .slice A0_4 l0_4.length c0_4]) (t := 25) ?hr ?_; (case hd => rfl); (case hg => rfl); (case hr => first | (go_simp; done) | (go_simp; rfl)); intro gb196 hg w2 hbox hb; have n0_ := Aside0.mk (below_step (by repeat (first | (with_reducible first | exact HB.out | apply below_alloc | apply pw_below_drewN | apply below_drew1) | exact HB.out)) hb); have n1_ := Aside0.mk (hbox); have n2_ := Aside0.mk ((by rw [hg]; exact (below_size (by repeat (first | (with_reducible first | exact HB.out | apply below_alloc | apply pw_below_drewN | apply below_drew1) | exact HB.out))) : w.heap.size ≤ gb196)); have n3_ := Aside0.mk ((by rw [hg]; exact (below_size (by repeat (first | (with_reducible first | exact HB.out | apply below_alloc | apply pw_below_drewN | apply below_drew1) | exact HB.out))) : w.heap.size ≤ gb196)); clear HB; have HB := n0_; have BK196 := n1_; have GW196 := n2_; have GE196 := n3_; clear n0_ n1_ n2_ n3_; clear hb hbox hg))
 go_loopg [4, 5, 6] k (fun kq v4 v5 v6 w' => ∃ (x4_1 : Int) (x5_1 : Int) (x6_1 : Int), v4 = .int .i64 x4_1 ∧ v5 = .int .i64 x5_1 ∧ v6 = .int .i64 x6_1 ∧ Aside0 (capnpref11_Uniform.l0 kq x4_1 x5_1 x6_1 a0_0 a0_1 a0_2 l0_3 l0_4 = some (r1, r2)) ∧ Aside0 (kq ≤ k) ∧ Aside0 (w'.heap[gb196]? = some (.cells #[.int .i64 a0_0, .int .i64 a0_1, .int .i64 a0_2, (.slice A0_3 l0_3.length c0_3), (.slice A0_4 l0_4.length c0_4)] 25 (0, 0))) ∧ Aside0 (Below w.heap.size w w'))
 case atStart => exact ⟨(0), (0), (0), (by first | rfl | (simp; done) | (simp [*]; done)), (by first | rfl | (simp; done) | (simp [*]; done)), (by first | rfl | (simp; done) | (simp [*]; done)), H', ⟨Nat.le_refl _⟩, ⟨by (with_reducible repeat (first | refine blk_drewN ?_ _ | refine blk_drew ?_ | refine blk_alloc ?_ _)); exact BK196.out⟩, ⟨by repeat (first | (with_reducible first | exact HB.out | apply below_alloc | apply pw_below_drewN | apply below_drew1 | refine below_set ?_ GE196.out) | exact HB.out)⟩⟩
 case round =>
  clear H'
  try clear c1
  try clear p2
  try clear BK196
  obtain ⟨x4_1, x5_1, x6_1, rfl, rfl, rfl, HA, HK1, BK196, HB⟩ := hrel
  cases gk with
  | zero => exact absurd HA.out (by simp [capnpref11_Uniform.l0])
  | succ k1 =>
   have H := HA.out
   clear HA
   simp only [capnpref11_Uniform.l0] at H
   by_cases c3 : x6_1 < (l0_4.length : Int)
   ·rw [if_pos c3] at H
    have c3b0 : decide (x6_1 < (l0_4.length : Int)) = true := decide_eq_true c3
    clear c3
    by_cases c4 : 0 ≤ x6_1
    ·rw [if_pos c4] at H
     have c4b0 : decide (0 ≤ x6_1) = true := decide_eq_true c4
     clear c4
     by_cases c5 : (wrap64 ((((rd_T25 l0_4 x6_1).f3).length : Int) / 8)) > x4_1
     ·rw [if_pos c5] at H
      have c5b0 : decide (x4_1 < (wrap64 ((((rd_T25 l0_4 x6_1).f3).length : Int) / 8))) = true := decide_eq_true c5
      clear c5
      by_cases c6 : (((rd_T25 l0_4 x6_1).f4).length : Int) > x5_1
      ·rw [if_pos c6] at H
       have c6b0 : decide (x5_1 < (((rd_T25 l0_4 x6_1).f4).length : Int)) = true := decide_eq_true c6
       clear c6
       have H' := Aside0.mk H
       clear H
       have hcz7_0 : wr.cell? ⟨gb196, 0, none⟩ = some (.int .i64 a0_0) := (blk_cell BK196.out 0).trans rfl
       have hcz7_1 : wr.cell? ⟨gb196, 1, none⟩ = some (.int .i64 a0_1) := (blk_cell BK196.out 1).trans rfl
       have hcz7_2 : wr.cell? ⟨gb196, 2, none⟩ = some (.int .i64 a0_2) := (blk_cell BK196.out 2).trans rfl
       have hcz7_3 : wr.cell? ⟨gb196, 3, none⟩ = some (.slice A0_3 l0_3.length c0_3) := (blk_cell BK196.out 3).trans rfl
       have hcz7_4 : wr.cell? ⟨gb196, 4, none⟩ = some (.slice A0_4 l0_4.length c0_4) := (blk_cell BK196.out 4).trans rfl
       have hfz7_0 := blk_frozen BK196.out 0
       have hfz7_1 := blk_frozen BK196.out 1
       have hfz7_2 := blk_frozen BK196.out 2
       have hfz7_3 := blk_frozen BK196.out 3
       have hfz7_4 := blk_frozen BK196.out 4
       have p197 : 0 ≤ (x6_1 : Int) := of_decide_eq_true (by first | (with_reducible assumption) | assumption)
       have q197 : x6_1 < (l0_4.length : Int) := of_decide_eq_true (by first | (with_reducible assumption) | assumption)
       obtain ⟨ad197, A197_3, c197_3, A197_4, c197_4, e197, hx197_0, hx197_1, hx197_2, hx197_3, hx197_4, hl197_3, hi197_3, hl197_4, hi197_4⟩ := at_T25 HR0_4.out x6_1 p197 q197
       cases e197
       replace hx197_0 := (HB.out.cell (World.block_lt_of_cell? w _ hx197_0)).trans hx197_0
       replace hx197_1 := (HB.out.cell (World.block_lt_of_cell? w _ hx197_1)).trans hx197_1
       replace hx197_2 := (HB.out.cell (World.block_lt_of_cell? w _ hx197_2)).trans hx197_2
       replace hx197_3 := (HB.out.cell (World.block_lt_of_cell? w _ hx197_3)).trans hx197_3
       replace hx197_4 := (HB.out.cell (World.block_lt_of_cell? w _ hx197_4)).trans hx197_4
       have HR197_3 := Aside0.mk hi197_3
       have HC197_3 := Aside0.mk hl197_3
       clear hi197_3 hl197_3
       have HR197_4 := Aside0.mk hi197_4
       have HC197_4 := Aside0.mk hl197_4
       clear hi197_4 hl197_4
       replace p197 := eq_true p197
       replace q197 := eq_true q197
       have p198 : 0 ≤ (x6_1 : Int) := of_decide_eq_true (by first | (with_reducible assumption) | assumption)
       have q198 : x6_1 < (l0_4.length : Int) := of_decide_eq_true (by first | (with_reducible assumption) | assumption)
       obtain ⟨ad198, A198_3, c198_3, A198_4, c198_4, e198, hx198_0, hx198_1, hx198_2, hx198_3, hx198_4, hl198_3, hi198_3, hl198_4, hi198_4⟩ := at_T25 HR0_4.out x6_1 p198 q198
       obtain rfl : ad197 = ad198 := (by injection e198)
       replace hx198_0 := (HB.out.cell (World.block_lt_of_cell? w _ hx198_0)).trans hx198_0
       replace hx198_1 := (HB.out.cell (World.block_lt_of_cell? w _ hx198_1)).trans hx198_1
       replace hx198_2 := (HB.out.cell (World.block_lt_of_cell? w _ hx198_2)).trans hx198_2
       replace hx198_3 := (HB.out.cell (World.block_lt_of_cell? w _ hx198_3)).trans hx198_3
       replace hx198_4 := (HB.out.cell (World.block_lt_of_cell? w _ hx198_4)).trans hx198_4
       have HR198_3 := Aside0.mk hi198_3
       have HC198_3 := Aside0.mk hl198_3
       clear hi198_3 hl198_3
       have HR198_4 := Aside0.mk hi198_4
       have HC198_4 := Aside0.mk hl198_4
       clear hi198_4 hl198_4
       replace p198 := eq_true p198
       replace q198 := eq_true q198
       have ea_ := Option.some.inj (hx197_3.symm.trans hx198_3)
       injection ea_ with ea_ en_ ec_
       subst ea_
       subst ec_
       clear en_
       have ea_ := Option.some.inj (hx197_4.symm.trans hx198_4)
       injection ea_ with ea_ en_ ec_
       subst ea_
       subst ec_
       clear en_
       have p199 : 0 ≤ (x6_1 : Int) := of_decide_eq_true (by first | (with_reducible assumption) | assumption)
       have q199 : x6_1 < (l0_4.length : Int) := of_decide_eq_true (by first | (with_reducible assumption) | assumption)
       obtain ⟨ad199, A199_3, c199_3, A199_4, c199_4, e199, hx199_0, hx199_1, hx199_2, hx199_3, hx199_4, hl199_3, hi199_3, hl199_4, hi199_4⟩ := at_T25 HR0_4.out x6_1 p199 q199
       obtain rfl : ad197 = ad199 := (by injection e199)
       replace hx199_0 := (HB.out.cell (World.block_lt_of_cell? w _ hx199_0)).trans hx199_0
       replace hx199_1 := (HB.out.cell (World.block_lt_of_cell? w _ hx199_1)).trans hx199_1
       replace hx199_2 := (HB.out.cell (World.block_lt_of_cell? w _ hx199_2)).trans hx199_2
       replace hx199_3 := (HB.out.cell (World.block_lt_of_cell? w _ hx199_3)).trans hx199_3
       replace hx199_4 := (HB.out.cell (World.block_lt_of_cell? w _ hx199_4)).trans hx199_4
       have HR199_3 := Aside0.mk hi199_3
       have HC199_3 := Aside0.mk hl199_3
       clear hi199_3 hl199_3
       have HR199_4 := Aside0.mk hi199_4
       have HC199_4 := Aside0.mk hl199_4
       clear hi199_4 hl199_4
       replace p199 := eq_true p199
       replace q199 := eq_true q199
       have ea_ := Option.some.inj (hx197_3.symm.trans hx199_3)
       injection ea_ with ea_ en_ ec_
       subst ea_
       subst ec_
       clear en_
       have ea_ := Option.some.inj (hx197_4.symm.trans hx199_4)
       injection ea_ with ea_ en_ ec_
       subst ea_
       subst ec_
       clear en_
       have p200 : 0 ≤ (x6_1 : Int) := of_decide_eq_true (by first | (with_reducible assumption) | assumption)
       have q200 : x6_1 < (l0_4.length : Int) := of_decide_eq_true (by first | (with_reducible assumption) | assumption)
       obtain ⟨ad200, A200_3, c200_3, A200_4, c200_4, e200, hx200_0, hx200_1, hx200_2, hx200_3, hx200_4, hl200_3, hi200_3, hl200_4, hi200_4⟩ := at_T25 HR0_4.out x6_1 p200 q200
       obtain rfl : ad197 = ad200 := (by injection e200)
       replace hx200_0 := (HB.out.cell (World.block_lt_of_cell? w _ hx200_0)).trans hx200_0
       replace hx200_1 := (HB.out.cell (World.block_lt_of_cell? w _ hx200_1)).trans hx200_1
       replace hx200_2 := (HB.out.cell (World.block_lt_of_cell? w _ hx200_2)).trans hx200_2
       replace hx200_3 := (HB.out.cell (World.block_lt_of_cell? w _ hx200_3)).trans hx200_3
       replace hx200_4 := (HB.out.cell (World.block_lt_of_cell? w _ hx200_4)).trans hx200_4
       have HR200_3 := Aside0.mk hi200_3
       have HC200_3 := Aside0.mk hl200_3
       clear hi200_3 hl200_3
       have HR200_4 := Aside0.mk hi200_4
       have HC200_4 := Aside0.mk hl200_4
       clear hi200_4 hl200_4
       replace p200 := eq_true p200
       replace q200 := eq_true q200
       have ea_ := Option.some.inj (hx197_3.symm.trans hx200_3)
       injection ea_ with ea_ en_ ec_
       subst ea_
       subst ec_
       clear en_
       have ea_ := Option.some.inj (hx197_4.symm.trans hx200_4)
       injection ea_ with ea_ en_ ec_
       subst ea_
       subst ec_
       clear en_
       go_wp2
       go_roundg k1
       case measure => have := HK1.out; omega
       case rel => exact ⟨(wrap64 ((((rd_T25 l0_4 x6_1).f3).length : Int) / 8)), ((((rd_T25 l0_4 x6_1).f4).length : Int)), (wrap64 (x6_1 + 1)), (by first | rfl | (simp; done) | (simp [*]; done)), (by first | rfl | (simp; done) | (simp [*]; done)), (by first | rfl | (simp; done) | (simp [*]; done)), H', ⟨by have := HK1.out; omega⟩, ⟨by (with_reducible repeat (first | refine blk_drewN ?_ _ | refine blk_drew ?_ | refine blk_alloc ?_ _)); exact BK196.out⟩, ⟨by repeat (first | (with_reducible first | exact HB.out | apply below_alloc | apply pw_below_drewN | apply below_drew1 | refine below_set ?_ GE196.out) | exact HB.out)⟩⟩
      ·rw [if_neg c6] at H
       have c6b0 : decide (x5_1 < (((rd_T25 l0_4 x6_1).f4).length : Int)) = false := decide_eq_false c6
       clear c6
       have H' := Aside0.mk H
       clear H
       have hcz8_0 : wr.cell? ⟨gb196, 0, none⟩ = some (.int .i64 a0_0) := (blk_cell BK196.out 0).trans rfl
       have hcz8_1 : wr.cell? ⟨gb196, 1, none⟩ = some (.int .i64 a0_1) := (blk_cell BK196.out 1).trans rfl
       have hcz8_2 : wr.cell? ⟨gb196, 2, none⟩ = some (.int .i64 a0_2) := (blk_cell BK196.out 2).trans rfl
       have hcz8_3 : wr.cell? ⟨gb196, 3, none⟩ = some (.slice A0_3 l0_3.length c0_3) := (blk_cell BK196.out 3).trans rfl
       have hcz8_4 : wr.cell? ⟨gb196, 4, none⟩ = some (.slice A0_4 l0_4.length c0_4) := (blk_cell BK196.out 4).trans rfl
       have hfz8_0 := blk_frozen BK196.out 0
       have hfz8_1 := blk_frozen BK196.out 1
       have hfz8_2 := blk_frozen BK196.out 2
       have hfz8_3 := blk_frozen BK196.out 3
       have hfz8_4 := blk_frozen BK196.out 4
       have p197 : 0 ≤ (x6_1 : Int) := of_decide_eq_true (by first | (with_reducible assumption) | assumption)
       have q197 : x6_1 < (l0_4.length : Int) := of_decide_eq_true (by first | (with_reducible assumption) | assumption)
       obtain ⟨ad197, A197_3, c197_3, A197_4, c197_4, e197, hx197_0, hx197_1, hx197_2, hx197_3, hx197_4, hl197_3, hi197_3, hl197_4, hi197_4⟩ := at_T25 HR0_4.out x6_1 p197 q197
       cases e197
       replace hx197_0 := (HB.out.cell (World.block_lt_of_cell? w _ hx197_0)).trans hx197_0
       replace hx197_1 := (HB.out.cell (World.block_lt_of_cell? w _ hx197_1)).trans hx197_1
       replace hx197_2 := (HB.out.cell (World.block_lt_of_cell? w _ hx197_2)).trans hx197_2
       replace hx197_3 := (HB.out.cell (World.block_lt_of_cell? w _ hx197_3)).trans hx197_3
       replace hx197_4 := (HB.out.cell (World.block_lt_of_cell? w _ hx197_4)).trans hx197_4
       have HR197_3 := Aside0.mk hi197_3
       have HC197_3 := Aside0.mk hl197_3
       clear hi197_3 hl197_3
       have HR197_4 := Aside0.mk hi197_4
       have HC197_4 := Aside0.mk hl197_4
       clear hi197_4 hl197_4
       replace p197 := eq_true p197
       replace q197 := eq_true q197
       have p198 : 0 ≤ (x6_1 : Int) := of_decide_eq_true (by first | (with_reducible assumption) | assumption)
       have q198 : x6_1 < (l0_4.length : Int) := of_decide_eq_true (by first | (with_reducible assumption) | assumption)
       obtain ⟨ad198, A198_3, c198_3, A198_4, c198_4, e198, hx198_0, hx198_1, hx198_2, hx198_3, hx198_4, hl198_3, hi198_3, hl198_4, hi198_4⟩ := at_T25 HR0_4.out x6_1 p198 q198
       obtain rfl : ad197 = ad198 := (by injection e198)
       replace hx198_0 := (HB.out.cell (World.block_lt_of_cell? w _ hx198_0)).trans hx198_0
       replace hx198_1 := (HB.out.cell (World.block_lt_of_cell? w _ hx198_1)).trans hx198_1
       replace hx198_2 := (HB.out.cell (World.block_lt_of_cell? w _ hx198_2)).trans hx198_2
       replace hx198_3 := (HB.out.cell (World.block_lt_of_cell? w _ hx198_3)).trans hx198_3
       replace hx198_4 := (HB.out.cell (World.block_lt_of_cell? w _ hx198_4)).trans hx198_4
       have HR198_3 := Aside0.mk hi198_3
       have HC198_3 := Aside0.mk hl198_3
       clear hi198_3 hl198_3
       have HR198_4 := Aside0.mk hi198_4
       have HC198_4 := Aside0.mk hl198_4
       clear hi198_4 hl198_4
       replace p198 := eq_true p198
       replace q198 := eq_true q198
       have ea_ := Option.some.inj (hx197_3.symm.trans hx198_3)
       injection ea_ with ea_ en_ ec_
       subst ea_
       subst ec_
       clear en_
       have ea_ := Option.some.inj (hx197_4.symm.trans hx198_4)
       injection ea_ with ea_ en_ ec_
       subst ea_
       subst ec_
       clear en_
       have p199 : 0 ≤ (x6_1 : Int) := of_decide_eq_true (by first | (with_reducible assumption) | assumption)
       have q199 : x6_1 < (l0_4.length : Int) := of_decide_eq_true (by first | (with_reducible assumption) | assumption)
       obtain ⟨ad199, A199_3, c199_3, A199_4, c199_4, e199, hx199_0, hx199_1, hx199_2, hx199_3, hx199_4, hl199_3, hi199_3, hl199_4, hi199_4⟩ := at_T25 HR0_4.out x6_1 p199 q199
       obtain rfl : ad197 = ad199 := (by injection e199)
       replace hx199_0 := (HB.out.cell (World.block_lt_of_cell? w _ hx199_0)).trans hx199_0
       replace hx199_1 := (HB.out.cell (World.block_lt_of_cell? w _ hx199_1)).trans hx199_1
       replace hx199_2 := (HB.out.cell (World.block_lt_of_cell? w _ hx199_2)).trans hx199_2
       replace hx199_3 := (HB.out.cell (World.block_lt_of_cell? w _ hx199_3)).trans hx199_3
       replace hx199_4 := (HB.out.cell (World.block_lt_of_cell? w _ hx199_4)).trans hx199_4
       have HR199_3 := Aside0.mk hi199_3
       have HC199_3 := Aside0.mk hl199_3
       clear hi199_3 hl199_3
       have HR199_4 := Aside0.mk hi199_4
       have HC199_4 := Aside0.mk hl199_4
       clear hi199_4 hl199_4
       replace p199 := eq_true p199
       replace q199 := eq_true q199
       have ea_ := Option.some.inj (hx197_3.symm.trans hx199_3)
       injection ea_ with ea_ en_ ec_
       subst ea_
       subst ec_
       clear en_
       have ea_ := Option.some.inj (hx197_4.symm.trans hx199_4)
       injection ea_ with ea_ en_ ec_
       subst ea_
       subst ec_
       clear en_
       go_wp2
       go_roundg k1
       case measure => have := HK1.out; omega
       case rel => exact ⟨(wrap64 ((((rd_T25 l0_4 x6_1).f3).length : Int) / 8)), (x5_1), (wrap64 (x6_1 + 1)), (by first | rfl | (simp; done) | (simp [*]; done)), (by first | rfl | (simp; done) | (simp [*]; done)), (by first | rfl | (simp; done) | (simp [*]; done)), H', ⟨by have := HK1.out; omega⟩, ⟨by (with_reducible repeat (first | refine blk_drewN ?_ _ | refine blk_drew ?_ | refine blk_alloc ?_ _)); exact BK196.out⟩, ⟨by repeat (first | (with_reducible first | exact HB.out | apply below_alloc | apply pw_below_drewN | apply below_drew1 | refine below_set ?_ GE196.out) | exact HB.out)⟩⟩
     ·rw [if_neg c5] at H
      have c5b0 : decide (x4_1 < (wrap64 ((((rd_T25 l0_4 x6_1).f3).length : Int) / 8))) = false := decide_eq_false c5
      clear c5
      by_cases c9 : (((rd_T25 l0_4 x6_1).f4).length : Int) > x5_1
      ·rw [if_pos c9] at H
       have c9b0 : decide (x5_1 < (((rd_T25 l0_4 x6_1).f4).length : Int)) = true := decide_eq_true c9
       clear c9
       have H' := Aside0.mk H
       clear H
       have hcz10_0 : wr.cell? ⟨gb196, 0, none⟩ = some (.int .i64 a0_0) := (blk_cell BK196.out 0).trans rfl
       have hcz10_1 : wr.cell? ⟨gb196, 1, none⟩ = some (.int .i64 a0_1) := (blk_cell BK196.out 1).trans rfl
       have hcz10_2 : wr.cell? ⟨gb196, 2, none⟩ = some (.int .i64 a0_2) := (blk_cell BK196.out 2).trans rfl
       have hcz10_3 : wr.cell? ⟨gb196, 3, none⟩ = some (.slice A0_3 l0_3.length c0_3) := (blk_cell BK196.out 3).trans rfl
       have hcz10_4 : wr.cell? ⟨gb196, 4, none⟩ = some (.slice A0_4 l0_4.length c0_4) := (blk_cell BK196.out 4).trans rfl
       have hfz10_0 := blk_frozen BK196.out 0
       have hfz10_1 := blk_frozen BK196.out 1
       have hfz10_2 := blk_frozen BK196.out 2
       have hfz10_3 := blk_frozen BK196.out 3
       have hfz10_4 := blk_frozen BK196.out 4
       have p197 : 0 ≤ (x6_1 : Int) := of_decide_eq_true (by first | (with_reducible assumption) | assumption)
       have q197 : x6_1 < (l0_4.length : Int) := of_decide_eq_true (by first | (with_reducible assumption) | assumption)
       obtain ⟨ad197, A197_3, c197_3, A197_4, c197_4, e197, hx197_0, hx197_1, hx197_2, hx197_3, hx197_4, hl197_3, hi197_3, hl197_4, hi197_4⟩ := at_T25 HR0_4.out x6_1 p197 q197
       cases e197
       replace hx197_0 := (HB.out.cell (World.block_lt_of_cell? w _ hx197_0)).trans hx197_0
       replace hx197_1 := (HB.out.cell (World.block_lt_of_cell? w _ hx197_1)).trans hx197_1
       replace hx197_2 := (HB.out.cell (World.block_lt_of_cell? w _ hx197_2)).trans hx197_2
       replace hx197_3 := (HB.out.cell (World.block_lt_of_cell? w _ hx197_3)).trans hx197_3
       replace hx197_4 := (HB.out.cell (World.block_lt_of_cell? w _ hx197_4)).trans hx197_4
       have HR197_3 := Aside0.mk hi197_3
       have HC197_3 := Aside0.mk hl197_3
       clear hi197_3 hl197_3
       have HR197_4 := Aside0.mk hi197_4
       have HC197_4 := Aside0.mk hl197_4
       clear hi197_4 hl197_4
       replace p197 := eq_true p197
       replace q197 := eq_true q197
       have p201 : 0 ≤ (x6_1 : Int) := of_decide_eq_true (by first | (with_reducible assumption) | assumption)
       have q201 : x6_1 < (l0_4.length : Int) := of_decide_eq_true (by first | (with_reducible assumption) | assumption)
       obtain ⟨ad201, A201_3, c201_3, A201_4, c201_4, e201, hx201_0, hx201_1, hx201_2, hx201_3, hx201_4, hl201_3, hi201_3, hl201_4, hi201_4⟩ := at_T25 HR0_4.out x6_1 p201 q201
       obtain rfl : ad197 = ad201 := (by injection e201)
       replace hx201_0 := (HB.out.cell (World.block_lt_of_cell? w _ hx201_0)).trans hx201_0
       replace hx201_1 := (HB.out.cell (World.block_lt_of_cell? w _ hx201_1)).trans hx201_1
       replace hx201_2 := (HB.out.cell (World.block_lt_of_cell? w _ hx201_2)).trans hx201_2
       replace hx201_3 := (HB.out.cell (World.block_lt_of_cell? w _ hx201_3)).trans hx201_3
       replace hx201_4 := (HB.out.cell (World.block_lt_of_cell? w _ hx201_4)).trans hx201_4
       have HR201_3 := Aside0.mk hi201_3
       have HC201_3 := Aside0.mk hl201_3
       clear hi201_3 hl201_3
       have HR201_4 := Aside0.mk hi201_4
       have HC201_4 := Aside0.mk hl201_4
       clear hi201_4 hl201_4
       replace p201 := eq_true p201
       replace q201 := eq_true q201
       have ea_ := Option.some.inj (hx197_3.symm.trans hx201_3)
       injection ea_ with ea_ en_ ec_
       subst ea_
       subst ec_
       clear en_
       have ea_ := Option.some.inj (hx197_4.symm.trans hx201_4)
       injection ea_ with ea_ en_ ec_
       subst ea_
       subst ec_
       clear en_
       have p202 : 0 ≤ (x6_1 : Int) := of_decide_eq_true (by first | (with_reducible assumption) | assumption)
       have q202 : x6_1 < (l0_4.length : Int) := of_decide_eq_true (by first | (with_reducible assumption) | assumption)
       obtain ⟨ad202, A202_3, c202_3, A202_4, c202_4, e202, hx202_0, hx202_1, hx202_2, hx202_3, hx202_4, hl202_3, hi202_3, hl202_4, hi202_4⟩ := at_T25 HR0_4.out x6_1 p202 q202
       obtain rfl : ad197 = ad202 := (by injection e202)
       replace hx202_0 := (HB.out.cell (World.block_lt_of_cell? w _ hx202_0)).trans hx202_0
       replace hx202_1 := (HB.out.cell (World.block_lt_of_cell? w _ hx202_1)).trans hx202_1
       replace hx202_2 := (HB.out.cell (World.block_lt_of_cell? w _ hx202_2)).trans hx202_2
       replace hx202_3 := (HB.out.cell (World.block_lt_of_cell? w _ hx202_3)).trans hx202_3
       replace hx202_4 := (HB.out.cell (World.block_lt_of_cell? w _ hx202_4)).trans hx202_4
       have HR202_3 := Aside0.mk hi202_3
       have HC202_3 := Aside0.mk hl202_3
       clear hi202_3 hl202_3
       have HR202_4 := Aside0.mk hi202_4
       have HC202_4 := Aside0.mk hl202_4
       clear hi202_4 hl202_4
       replace p202 := eq_true p202
       replace q202 := eq_true q202
       have ea_ := Option.some.inj (hx197_3.symm.trans hx202_3)
       injection ea_ with ea_ en_ ec_
       subst ea_
       subst ec_
       clear en_
       have ea_ := Option.some.inj (hx197_4.symm.trans hx202_4)
       injection ea_ with ea_ en_ ec_
       subst ea_
       subst ec_
       clear en_
       go_wp2
       go_roundg k1
       case measure => have := HK1.out; omega
       case rel => exact ⟨(x4_1), ((((rd_T25 l0_4 x6_1).f4).length : Int)), (wrap64 (x6_1 + 1)), (by first | rfl | (simp; done) | (simp [*]; done)), (by first | rfl | (simp; done) | (simp [*]; done)), (by first | rfl | (simp; done) | (simp [*]; done)), H', ⟨by have := HK1.out; omega⟩, ⟨by (with_reducible repeat (first | refine blk_drewN ?_ _ | refine blk_drew ?_ | refine blk_alloc ?_ _)); exact BK196.out⟩, ⟨by repeat (first | (with_reducible first | exact HB.out | apply below_alloc | apply pw_below_drewN | apply below_drew1 | refine below_set ?_ GE196.out) | exact HB.out)⟩⟩
      ·rw [if_neg c9] at H
       have c9b0 : decide (x5_1 < (((rd_T25 l0_4 x6_1).f4).length : Int)) = false := decide_eq_false c9
       clear c9
       have H' := Aside0.mk H
       clear H
       have hcz11_0 : wr.cell? ⟨gb196, 0, none⟩ = some (.int .i64 a0_0) := (blk_cell BK196.out 0).trans rfl
       have hcz11_1 : wr.cell? ⟨gb196, 1, none⟩ = some (.int .i64 a0_1) := (blk_cell BK196.out 1).trans rfl
       have hcz11_2 : wr.cell? ⟨gb196, 2, none⟩ = some (.int .i64 a0_2) := (blk_cell BK196.out 2).trans rfl
       have hcz11_3 : wr.cell? ⟨gb196, 3, none⟩ = some (.slice A0_3 l0_3.length c0_3) := (blk_cell BK196.out 3).trans rfl
       have hcz11_4 : wr.cell? ⟨gb196, 4, none⟩ = some (.slice A0_4 l0_4.length c0_4) := (blk_cell BK196.out 4).trans rfl
       have hfz11_0 := blk_frozen BK196.out 0
       have hfz11_1 := blk_frozen BK196.out 1
       have hfz11_2 := blk_frozen BK196.out 2
       have hfz11_3 := blk_frozen BK196.out 3
       have hfz11_4 := blk_frozen BK196.out 4
       have p197 : 0 ≤ (x6_1 : Int) := of_decide_eq_true (by first | (with_reducible assumption) | assumption)
       have q197 : x6_1 < (l0_4.length : Int) := of_decide_eq_true (by first | (with_reducible assumption) | assumption)
       obtain ⟨ad197, A197_3, c197_3, A197_4, c197_4, e197, hx197_0, hx197_1, hx197_2, hx197_3, hx197_4, hl197_3, hi197_3, hl197_4, hi197_4⟩ := at_T25 HR0_4.out x6_1 p197 q197
       cases e197
       replace hx197_0 := (HB.out.cell (World.block_lt_of_cell? w _ hx197_0)).trans hx197_0
       replace hx197_1 := (HB.out.cell (World.block_lt_of_cell? w _ hx197_1)).trans hx197_1
       replace hx197_2 := (HB.out.cell (World.block_lt_of_cell? w _ hx197_2)).trans hx197_2
       replace hx197_3 := (HB.out.cell (World.block_lt_of_cell? w _ hx197_3)).trans hx197_3
       replace hx197_4 := (HB.out.cell (World.block_lt_of_cell? w _ hx197_4)).trans hx197_4
       have HR197_3 := Aside0.mk hi197_3
       have HC197_3 := Aside0.mk hl197_3
       clear hi197_3 hl197_3
       have HR197_4 := Aside0.mk hi197_4
       have HC197_4 := Aside0.mk hl197_4
       clear hi197_4 hl197_4
       replace p197 := eq_true p197
       replace q197 := eq_true q197
       have p201 : 0 ≤ (x6_1 : Int) := of_decide_eq_true (by first | (with_reducible assumption) | assumption)
       have q201 : x6_1 < (l0_4.length : Int) := of_decide_eq_true (by first | (with_reducible assumption) | assumption)
       obtain ⟨ad201, A201_3, c201_3, A201_4, c201_4, e201, hx201_0, hx201_1, hx201_2, hx201_3, hx201_4, hl201_3, hi201_3, hl201_4, hi201_4⟩ := at_T25 HR0_4.out x6_1 p201 q201
       obtain rfl : ad197 = ad201 := (by injection e201)
       replace hx201_0 := (HB.out.cell (World.block_lt_of_cell? w _ hx201_0)).trans hx201_0
       replace hx201_1 := (HB.out.cell (World.block_lt_of_cell? w _ hx201_1)).trans hx201_1
       replace hx201_2 := (HB.out.cell (World.block_lt_of_cell? w _ hx201_2)).trans hx201_2
       replace hx201_3 := (HB.out.cell (World.block_lt_of_cell? w _ hx201_3)).trans hx201_3
       replace hx201_4 := (HB.out.cell (World.block_lt_of_cell? w _ hx201_4)).trans hx201_4
       have HR201_3 := Aside0.mk hi201_3
       have HC201_3 := Aside0.mk hl201_3
       clear hi201_3 hl201_3
       have HR201_4 := Aside0.mk hi201_4
       have HC201_4 := Aside0.mk hl201_4
       clear hi201_4 hl201_4
       replace p201 := eq_true p201
       replace q201 := eq_true q201
       have ea_ := Option.some.inj (hx197_3.symm.trans hx201_3)
       injection ea_ with ea_ en_ ec_
       subst ea_
       subst ec_
       clear en_
       have ea_ := Option.some.inj (hx197_4.symm.trans hx201_4)
       injection ea_ with ea_ en_ ec_
       subst ea_
       subst ec_
       clear en_
       go_wp2
       go_roundg k1
       case measure => have := HK1.out; omega
       case rel => exact ⟨(x4_1), (x5_1), (wrap64 (x6_1 + 1)), (by first | rfl | (simp; done) | (simp [*]; done)), (by first | rfl | (simp; done) | (simp [*]; done)), (by first | rfl | (simp; done) | (simp [*]; done)), H', ⟨by have := HK1.out; omega⟩, ⟨by (with_reducible repeat (first | refine blk_drewN ?_ _ | refine blk_drew ?_ | refine blk_alloc ?_ _)); exact BK196.out⟩, ⟨by repeat (first | (with_reducible first | exact HB.out | apply below_alloc | apply pw_below_drewN | apply below_drew1 | refine below_set ?_ GE196.out) | exact HB.out)⟩⟩
    ·rw [if_neg c4] at H
     exact absurd H (by simp)
   ·rw [if_neg c3] at H
    have c3b0 : decide (x6_1 < (l0_4.length : Int)) = false := decide_eq_false c3
    clear c3
    simp only [Option.some.injEq, Prod.mk.injEq] at H
    obtain ⟨rfl, rfl⟩ := H
    have hcz12_0 : wr.cell? ⟨gb196, 0, none⟩ = some (.int .i64 a0_0) := (blk_cell BK196.out 0).trans rfl
    have hcz12_1 : wr.cell? ⟨gb196, 1, none⟩ = some (.int .i64 a0_1) := (blk_cell BK196.out 1).trans rfl
    have hcz12_2 : wr.cell? ⟨gb196, 2, none⟩ = some (.int .i64 a0_2) := (blk_cell BK196.out 2).trans rfl
    have hcz12_3 : wr.cell? ⟨gb196, 3, none⟩ = some (.slice A0_3 l0_3.length c0_3) := (blk_cell BK196.out 3).trans rfl
    have hcz12_4 : wr.cell? ⟨gb196, 4, none⟩ = some (.slice A0_4 l0_4.length c0_4) := (blk_cell BK196.out 4).trans rfl
    have hfz12_0 := blk_frozen BK196.out 0
    have hfz12_1 := blk_frozen BK196.out 1
    have hfz12_2 := blk_frozen BK196.out 2
    have hfz12_3 := blk_frozen BK196.out 3
    have hfz12_4 := blk_frozen BK196.out 4
    go_wp2
    go_ret2
    exact ⟨by first | rfl | (simp [errW_none, errW_some] <;> rfl) | (simp [*, errW_none, errW_some] <;> rfl), by repeat (first | (with_reducible first | exact HB.out | apply below_alloc | apply pw_below_drewN | apply below_drew1 | refine below_set ?_ GE196.out) | exact HB.out)⟩
end Go.Proofs.Ytmbockhcmhghlaa.Pr
end
section
namespace Go.Proofs.Ytmbockhcmhghlaa.Pr
open Go.RowKit Go.Proofs.YtmbockhcmhghlaaW.PrintWords Go.Proofs.YtmbockhcmhghlaaW.PrintLast Go.Proofs.YtmbockhcmhghlaaW.PrintMore
attribute [local go_sem] max2_int min2_int max_two min_two max_three min_three max_four min_four
set_option linter.unusedVariables false
set_option linter.unusedSimpArgs false
mutual
def capnplaw11_TrimMatchesReference.j0 : Nat → List Int → Bool → Int → Int → Int → List Int → List (S25) → Option (Bool)
 | 0, _, _, _, _, _, _, _ => none
 | k + 1, x1, x26, x204000, x204001, x204002, x204003, x204004 => if x26 = true then ((capnplaw11_awake.f).bind fun t207 => (some t207)) else (if 0 ≤ (wrap64 ((wrap64 ((x1.length : Int) / 8)) * 8)) then (if (wrap64 ((wrap64 ((x1.length : Int) / 8)) * 8)) ≤ (x1.length : Int) then ((trim_Words.f (x1.take ((wrap64 ((wrap64 ((x1.length : Int) / 8)) * 8)) : Int).toNat)).bind fun t209 => ((capnpref11_Words.f k (x1.take ((wrap64 ((wrap64 ((x1.length : Int) / 8)) * 8)) : Int).toNat)).bind fun t210 => (if t209 = t210 then ((trim_Pointers.f x204004).bind fun t211 => ((capnpref11_Pointers.f k x204004).bind fun t212 => (if t211 = t212 then ((trim_Trim.f k x204000 x204001 x204002 x204003 x204004).bind fun bt213 => ((capnpref11_Trim.f k x204000 x204001 x204002 x204003 x204004).bind fun bt222 => ((capnpref10_Equal.f k bt213.1 bt213.2.1 bt213.2.2.1 bt213.2.2.2.1 bt213.2.2.2.2 bt222.1 bt222.2.1 bt222.2.2.1 bt222.2.2.2.1 bt222.2.2.2.2).bind fun t231 => (capnplaw11_TrimMatchesReference.j1 k (!t231) x204000 x204001 x204002 x204003 x204004)))) else (capnplaw11_TrimMatchesReference.j1 k true x204000 x204001 x204002 x204003 x204004)))) else (capnplaw11_TrimMatchesReference.j1 k true x204000 x204001 x204002 x204003 x204004)))) else (none)) else (none))
def capnplaw11_TrimMatchesReference.j1 : Nat → Bool → Int → Int → Int → List Int → List (S25) → Option (Bool)
 | 0, _, _, _, _, _, _ => none
 | k + 1, x55, x204000, x204001, x204002, x204003, x204004 => if x55 = true then (none) else (if x204000 = 2 then (capnplaw11_TrimMatchesReference.j2 k (x204001 != 7) x204000 x204001 x204002 x204003 x204004) else (capnplaw11_TrimMatchesReference.j2 k true x204000 x204001 x204002 x204003 x204004))
def capnplaw11_TrimMatchesReference.j2 : Nat → Bool → Int → Int → Int → List Int → List (S25) → Option (Bool)
 | 0, _, _, _, _, _, _ => none
 | k + 1, x63, x204000, x204001, x204002, x204003, x204004 => if x63 = true then (some true) else ((trim_Uniform.f k x204000 x204001 x204002 x204003 x204004).bind fun bt232 => ((capnpref11_Uniform.f k x204000 x204001 x204002 x204003 x204004).bind fun bt234 => (if bt232.1 = bt234.1 then (some (bt232.2 == bt234.2)) else (none))))
end
def capnplaw11_TrimMatchesReference.f (k : Nat) (a0_0 : Int) (a0_1 : Int) (a0_2 : Int) (l0_3 : List Int) (l0_4 : List (S25)) (l1 : List Int) : Option (Bool) := (capnplaw11_awake.f).bind fun t204 => (if t204 = true then ((capnpref10_Few.f k a0_0 a0_1 a0_2 l0_3 l0_4).bind fun t205 => (if t205 = true then ((capnpref10_Valid.f k a0_0 a0_1 a0_2 l0_3 l0_4).bind fun t206 => (if t206 = true then (capnplaw11_TrimMatchesReference.j0 k l1 (decide ((l1.length : Int) > 1000)) a0_0 a0_1 a0_2 l0_3 l0_4) else (capnplaw11_TrimMatchesReference.j0 k l1 true a0_0 a0_1 a0_2 l0_3 l0_4))) else (capnplaw11_TrimMatchesReference.j0 k l1 true a0_0 a0_1 a0_2 l0_3 l0_4))) else (capnplaw11_TrimMatchesReference.j0 k l1 true a0_0 a0_1 a0_2 l0_3 l0_4))
def capnplaw11_TrimMatchesReference.T4 : Bool × List (List Nat × List Nat) := (true, [([], []), ([0], [0]), ([], []), ([2, 1], [2]), ([1, 3], [1, 3]), ([4, 3], [4]), ([5], [5]), ([6, 5], [5, 6]), ([7, 5, 5], [5, 7]), ([5], [5]), ([9, 5], [5, 9]), ([10, 8, 5], [5, 10]), ([8, 11, 5], [5, 8, 11]), ([5, 12], [5, 12]), ([13, 11], [13]), ([14], [14]), ([15, 14, 14], [14, 15]), ([14], [14]), ([17, 16, 14], [14, 17]), ([16, 18, 18, 14], [14, 16, 18]), ([19, 14], [14, 19]), ([14, 20], [14, 20])])
def capnplaw11_TrimMatchesReference.B4 : List Nat := [0, 1, 0, 7, 15, 31, 63, 127, 255, 63, 575, 2047, 4095, 8191, 16383, 32767, 65535, 32767, 262143, 524287, 1048575, 2097151]
theorem capnplaw11_TrimMatchesReference.tab4 : rtab .any (opsOf Try.f3 4) = capnplaw11_TrimMatchesReference.T4 := by kernel_rfl
theorem capnplaw11_TrimMatchesReference.bits4 : waitsOk capnplaw11_TrimMatchesReference.T4.2 capnplaw11_TrimMatchesReference.B4 = true := by kernel_rfl
set_option maxHeartbeats 8000000 in
set_option maxRecDepth 100000 in
theorem capnplaw11_TrimMatchesReference.calls (k : Nat) (a0_0 : Int) (a0_1 : Int) (a0_2 : Int) (A0_3 : Option Addr) (c0_3 : Nat) (l0_3 : List Int) (A0_4 : Option Addr) (c0_4 : Nat) (l0_4 : List (S25)) (A1 : Option Addr) (c1 : Nat) (l1 : List Int) (r : Bool) (w : World) (hr0_3 : Kd.C (Kd.int .u8) w A0_3 l0_3.length l0_3) (hc0_3 : l0_3.length ≤ c0_3) (hr0_4 : Kd.C k25 w A0_4 l0_4.length l0_4) (hc0_4 : l0_4.length ≤ c0_4) (hr1 : Kd.C (Kd.int .u8) w A1 l1.length l1) (hc1 : l1.length ≤ c1) (h : capnplaw11_TrimMatchesReference.f k a0_0 a0_1 a0_2 l0_3 l0_4 l1 = some r) :
  Calls Try.prog 3 #[.agg #[.int .i64 a0_0, .int .i64 a0_1, .int .i64 a0_2, .slice A0_3 l0_3.length c0_3, .slice A0_4 l0_4.length c0_4], .slice A1 l1.length c1] w fun e w' => e = .returned (.bool r) ∧ Below w.heap.size w w' := by
 have hu25 := Try.underlying25
 have HR0_3 := Aside0.mk hr0_3
 have HC0_3 := Aside0.mk hc0_3
 clear hr0_3 hc0_3
 have HR0_4 := Aside0.mk hr0_4
 have HC0_4 := Aside0.mk hc0_4
 clear hr0_4 hc0_4
 have HR1 := Aside0.mk hr1
 have HC1 := Aside0.mk hc1
 clear hr1 hc1
 have HB := Aside0.mk (Below.refl w.heap.size w)
 have H : ((capnplaw11_awake.f).bind fun t204 => (if t204 = true then ((capnpref10_Few.f k a0_0 a0_1 a0_2 l0_3 l0_4).bind fun t205 => (if t205 = true then ((capnpref10_Valid.f k a0_0 a0_1 a0_2 l0_3 l0_4).bind fun t206 => (if t206 = true then (capnplaw11_TrimMatchesReference.j0 k l1 (decide ((l1.length : Int) > 1000)) a0_0 a0_1 a0_2 l0_3 l0_4) else (capnplaw11_TrimMatchesReference.j0 k l1 true a0_0 a0_1 a0_2 l0_3 l0_4))) else (capnplaw11_TrimMatchesReference.j0 k l1 true a0_0 a0_1 a0_2 l0_3 l0_4))) else (capnplaw11_TrimMatchesReference.j0 k l1 true a0_0 a0_1 a0_2 l0_3 l0_4))) = some r := h
 clear h
 have HC3 := Aside0.mk H
 clear H
 go_enter Try.func3, Try.ntmps3
 go_upto_region 1 with (first | ((with_reducible refine gate_dst (N := 2) rfl ?_); (try (refine gate_guard (by rfl) ?_; dsimp only)); refine box_event ?hg (N := 2) ?hd (cs := #[.int .i64 a0_0, .int .i64 a0_1, .int .i64 a0_2, .slice A0_3 l0_3.length c0_3, .slice A0_4 l0_4.length c0_4]) (t := 25) ?hr ?_; (case hd => rfl); (case hg => rfl); (case hr => first | (go_simp; done) | (go_simp; rfl)); intro gb203 hg w4 hbox hb; have n0_ := Aside0.mk (below_step (by repeat (first | (with_reducible first | exact HB.out | apply below_alloc | apply pw_below_drewN | apply below_drew1) | exact HB.out)) hb); have n1_ := Aside0.mk (hbox); have n2_ := Aside0.mk ((by rw [hg]; exact (below_size (by repeat (first | (with_reducible first | exact HB.out | apply below_alloc | apply pw_below_drewN | apply below_drew1) | exact HB.out))) : w.heap.size ≤ gb203)); have n3_ := Aside0.mk ((by rw [hg]; exact (below_size (by repeat (first | (with_reducible first | exact HB.out | apply below_alloc | apply pw_below_drewN | apply below_drew1) | exact HB.out))) : w.heap.size ≤ gb203)); clear HB; have HB := n0_; have BK203 := n1_; have GW203 := n2_; have GE203 := n3_; clear n0_ n1_ n2_ n3_; clear hb hbox hg))
 (try simp only [Act.put, List.setIfInBounds_toArray, List.set_cons_zero, List.set_cons_succ])
 go_cut [26] (fun v26 wc => ∃ (kq : Nat) (x26_2 : Bool), v26 = .bool x26_2 ∧ Aside0 (capnplaw11_TrimMatchesReference.j0 kq l1 x26_2 a0_0 a0_1 a0_2 l0_3 l0_4 = some r) ∧ Aside0 (kq ≤ k) ∧ Aside0 (wc.heap[gb203]? = some (.cells #[.int .i64 a0_0, .int .i64 a0_1, .int .i64 a0_2, (.slice A0_3 l0_3.length c0_3), (.slice A0_4 l0_4.length c0_4)] 25 (0, 0))) ∧ Aside0 (Below w.heap.size w wc))
 case first =>
  have H := HC3.out
  clear HC3
  replace H := Option.bind_eq_some_iff.mp H
  obtain ⟨t204, A50, H⟩ := H
  replace H : (if t204 = true then ((capnpref10_Few.f k a0_0 a0_1 a0_2 l0_3 l0_4).bind fun t205 => (if t205 = true then ((capnpref10_Valid.f k a0_0 a0_1 a0_2 l0_3 l0_4).bind fun t206 => (if t206 = true then (capnplaw11_TrimMatchesReference.j0 k l1 (decide ((l1.length : Int) > 1000)) a0_0 a0_1 a0_2 l0_3 l0_4) else (capnplaw11_TrimMatchesReference.j0 k l1 true a0_0 a0_1 a0_2 l0_3 l0_4))) else (capnplaw11_TrimMatchesReference.j0 k l1 true a0_0 a0_1 a0_2 l0_3 l0_4))) else (capnplaw11_TrimMatchesReference.j0 k l1 true a0_0 a0_1 a0_2 l0_3 l0_4)) = some r := H
  have A5 := Aside0.mk A50
  clear A50
  by_cases c6 : t204 = true
  ·subst c6
   have H1 : ((capnpref10_Few.f k a0_0 a0_1 a0_2 l0_3 l0_4).bind fun t205 => (if t205 = true then ((capnpref10_Valid.f k a0_0 a0_1 a0_2 l0_3 l0_4).bind fun t206 => (if t206 = true then (capnplaw11_TrimMatchesReference.j0 k l1 (decide ((l1.length : Int) > 1000)) a0_0 a0_1 a0_2 l0_3 l0_4) else (capnplaw11_TrimMatchesReference.j0 k l1 true a0_0 a0_1 a0_2 l0_3 l0_4))) else (capnplaw11_TrimMatchesReference.j0 k l1 true a0_0 a0_1 a0_2 l0_3 l0_4))) = some r := by rw [if_pos rfl] at H; exact H
   clear H
   have H := H1
   clear H1
   replace H := Option.bind_eq_some_iff.mp H
   obtain ⟨t205, A70, H⟩ := H
   replace H : (if t205 = true then ((capnpref10_Valid.f k a0_0 a0_1 a0_2 l0_3 l0_4).bind fun t206 => (if t206 = true then (capnplaw11_TrimMatchesReference.j0 k l1 (decide ((l1.length : Int) > 1000)) a0_0 a0_1 a0_2 l0_3 l0_4) else (capnplaw11_TrimMatchesReference.j0 k l1 true a0_0 a0_1 a0_2 l0_3 l0_4))) else (capnplaw11_TrimMatchesReference.j0 k l1 true a0_0 a0_1 a0_2 l0_3 l0_4)) = some r := H
   have A7 := Aside0.mk A70
   clear A70
   by_cases c8 : t205 = true
   ·subst c8
    have H1 : ((capnpref10_Valid.f k a0_0 a0_1 a0_2 l0_3 l0_4).bind fun t206 => (if t206 = true then (capnplaw11_TrimMatchesReference.j0 k l1 (decide ((l1.length : Int) > 1000)) a0_0 a0_1 a0_2 l0_3 l0_4) else (capnplaw11_TrimMatchesReference.j0 k l1 true a0_0 a0_1 a0_2 l0_3 l0_4))) = some r := by rw [if_pos rfl] at H; exact H
    clear H
    have H := H1
    clear H1
    replace H := Option.bind_eq_some_iff.mp H
    obtain ⟨t206, A90, H⟩ := H
    replace H : (if t206 = true then (capnplaw11_TrimMatchesReference.j0 k l1 (decide ((l1.length : Int) > 1000)) a0_0 a0_1 a0_2 l0_3 l0_4) else (capnplaw11_TrimMatchesReference.j0 k l1 true a0_0 a0_1 a0_2 l0_3 l0_4)) = some r := H
    have A9 := Aside0.mk A90
    clear A90
    by_cases c10 : t206 = true
    ·subst c10
     have H1 : (capnplaw11_TrimMatchesReference.j0 k l1 (decide ((l1.length : Int) > 1000)) a0_0 a0_1 a0_2 l0_3 l0_4) = some r := by rw [if_pos rfl] at H; exact H
     clear H
     have H := H1
     clear H1
     have H' := Aside0.mk H
     clear H
     go_wp2_with (first | ((with_reducible refine gate_callee (f := 8) rfl ?_); refine goesL_ (some 10) rfl rfl Try.func8 (by kernel_rfl) rfl #[] rfl (by (try simp only [List.map_toArray, List.map_cons, List.map_nil]); first | done | rfl | (simp only [List.length_drop, List.length_take]; rfl)) ?_; (with_reducible refine (capnplaw11_awake.calls  true _ A5.out).mono ?_); rintro e w11 ⟨rfl, hb⟩; refine ⟨_, rfl, ?_⟩; have n0_ := Aside0.mk (blk_below (g := gb203) (o := .cells #[.int .i64 a0_0, .int .i64 a0_1, .int .i64 a0_2, .slice A0_3 l0_3.length c0_3, .slice A0_4 l0_4.length c0_4] 25 (0, 0)) (by (with_reducible repeat (first | refine blk_drewN ?_ _ | refine blk_drew ?_ | refine blk_alloc ?_ _)); exact BK203.out) hb); have n1_ := Aside0.mk (below_step (by repeat (first | (with_reducible first | exact HB.out | apply below_alloc | apply pw_below_drewN | apply below_drew1 | refine below_set ?_ GE203.out) | exact HB.out)) hb); clear BK203; clear HB; have BK203 := n0_; have HB := n1_; clear n0_ n1_; (try clear hb); (try clear hb2); (try clear hk); (try clear hi); have hcz12_0 : w11.cell? ⟨gb203, 0, none⟩ = some (.int .i64 a0_0) := (blk_cell BK203.out 0).trans rfl; have hcz12_1 : w11.cell? ⟨gb203, 1, none⟩ = some (.int .i64 a0_1) := (blk_cell BK203.out 1).trans rfl; have hcz12_2 : w11.cell? ⟨gb203, 2, none⟩ = some (.int .i64 a0_2) := (blk_cell BK203.out 2).trans rfl; have hcz12_3 : w11.cell? ⟨gb203, 3, none⟩ = some (.slice A0_3 l0_3.length c0_3) := (blk_cell BK203.out 3).trans rfl; have hcz12_4 : w11.cell? ⟨gb203, 4, none⟩ = some (.slice A0_4 l0_4.length c0_4) := (blk_cell BK203.out 4).trans rfl; have hfz12_0 := blk_frozen BK203.out 0; have hfz12_1 := blk_frozen BK203.out 1; have hfz12_2 := blk_frozen BK203.out 2; have hfz12_3 := blk_frozen BK203.out 3; have hfz12_4 := blk_frozen BK203.out 4) | (go_at_call 9; (with_reducible refine (capnpref10_Few.calls k a0_0 a0_1 a0_2 _ _ l0_3 _ _ l0_4 true _ ?side1 ?side2 ?side3 ?side4 A7.out).mono ?_); (case side1 => repeat (first | exact (Kd.C_below HR0_3.out HB.out) | (with_reducible refine Kd.C_alloc ?_ _) | (with_reducible refine Kd.C_drewN ?_ _) | (with_reducible refine Kd.C_drew ?_))); (case side2 => exact HC0_3.out); (case side3 => repeat (first | exact (Kd.C_below HR0_4.out HB.out) | (with_reducible refine Kd.C_alloc ?_ _) | (with_reducible refine Kd.C_drewN ?_ _) | (with_reducible refine Kd.C_drew ?_))); (case side4 => exact HC0_4.out); rintro e w13 ⟨rfl, hb⟩; have n0_ := Aside0.mk (blk_below (g := gb203) (o := .cells #[.int .i64 a0_0, .int .i64 a0_1, .int .i64 a0_2, .slice A0_3 l0_3.length c0_3, .slice A0_4 l0_4.length c0_4] 25 (0, 0)) (by (with_reducible repeat (first | refine blk_drewN ?_ _ | refine blk_drew ?_ | refine blk_alloc ?_ _)); exact BK203.out) hb); have n1_ := Aside0.mk (below_step (by repeat (first | (with_reducible first | exact HB.out | apply below_alloc | apply pw_below_drewN | apply below_drew1 | refine below_set ?_ GE203.out) | exact HB.out)) hb); clear BK203; clear HB; have BK203 := n0_; have HB := n1_; clear n0_ n1_; (try clear hb); (try clear hb2); (try clear hk); (try clear hi); have hcz14_0 : w13.cell? ⟨gb203, 0, none⟩ = some (.int .i64 a0_0) := (blk_cell BK203.out 0).trans rfl; have hcz14_1 : w13.cell? ⟨gb203, 1, none⟩ = some (.int .i64 a0_1) := (blk_cell BK203.out 1).trans rfl; have hcz14_2 : w13.cell? ⟨gb203, 2, none⟩ = some (.int .i64 a0_2) := (blk_cell BK203.out 2).trans rfl; have hcz14_3 : w13.cell? ⟨gb203, 3, none⟩ = some (.slice A0_3 l0_3.length c0_3) := (blk_cell BK203.out 3).trans rfl; have hcz14_4 : w13.cell? ⟨gb203, 4, none⟩ = some (.slice A0_4 l0_4.length c0_4) := (blk_cell BK203.out 4).trans rfl; have hfz14_0 := blk_frozen BK203.out 0; have hfz14_1 := blk_frozen BK203.out 1; have hfz14_2 := blk_frozen BK203.out 2; have hfz14_3 := blk_frozen BK203.out 3; have hfz14_4 := blk_frozen BK203.out 4) | (go_at_call 10; (with_reducible refine (capnpref10_Valid.calls k a0_0 a0_1 a0_2 _ _ l0_3 _ _ l0_4 true _ ?side1 ?side2 ?side3 ?side4 A9.out).mono ?_); (case side1 => repeat (first | exact (Kd.C_below HR0_3.out HB.out) | (with_reducible refine Kd.C_alloc ?_ _) | (with_reducible refine Kd.C_drewN ?_ _) | (with_reducible refine Kd.C_drew ?_))); (case side2 => exact HC0_3.out); (case side3 => repeat (first | exact (Kd.C_below HR0_4.out HB.out) | (with_reducible refine Kd.C_alloc ?_ _) | (with_reducible refine Kd.C_drewN ?_ _) | (with_reducible refine Kd.C_drew ?_))); (case side4 => exact HC0_4.out); rintro e w15 ⟨rfl, hb⟩; have n0_ := Aside0.mk (blk_below (g := gb203) (o := .cells #[.int .i64 a0_0, .int .i64 a0_1, .int .i64 a0_2, .slice A0_3 l0_3.length c0_3, .slice A0_4 l0_4.length c0_4] 25 (0, 0)) (by (with_reducible repeat (first | refine blk_drewN ?_ _ | refine blk_drew ?_ | refine blk_alloc ?_ _)); exact BK203.out) hb); have n1_ := Aside0.mk (below_step (by repeat (first | (with_reducible first | exact HB.out | apply below_alloc | apply pw_below_drewN | apply below_drew1 | refine below_set ?_ GE203.out) | exact HB.out)) hb); clear BK203; clear HB; have BK203 := n0_; have HB := n1_; clear n0_ n1_; (try clear hb); (try clear hb2); (try clear hk); (try clear hi)))
     go_meet
     case rel => exact ⟨_, (decide ((l1.length : Int) > 1000)), (by first | rfl | (simp; done) | (simp [*]; done)), H', ⟨by first | omega | exact Nat.le_refl _⟩, ⟨by (with_reducible repeat (first | refine blk_drewN ?_ _ | refine blk_drew ?_ | refine blk_alloc ?_ _)); exact BK203.out⟩, ⟨by repeat (first | (with_reducible first | exact HB.out | apply below_alloc | apply pw_below_drewN | apply below_drew1 | refine below_set ?_ GE203.out) | exact HB.out)⟩⟩
    ·replace c10 := Bool.eq_false_iff.mpr c10
     subst c10
     have H1 : (capnplaw11_TrimMatchesReference.j0 k l1 true a0_0 a0_1 a0_2 l0_3 l0_4) = some r := by rw [if_neg (show ¬ (false = true) by decide)] at H; exact H
     clear H
     have H := H1
     clear H1
     have H' := Aside0.mk H
     clear H
     go_wp2_with (first | ((with_reducible refine gate_callee (f := 8) rfl ?_); refine goesL_ (some 10) rfl rfl Try.func8 (by kernel_rfl) rfl #[] rfl (by (try simp only [List.map_toArray, List.map_cons, List.map_nil]); first | done | rfl | (simp only [List.length_drop, List.length_take]; rfl)) ?_; (with_reducible refine (capnplaw11_awake.calls  true _ A5.out).mono ?_); rintro e w16 ⟨rfl, hb⟩; refine ⟨_, rfl, ?_⟩; have n0_ := Aside0.mk (blk_below (g := gb203) (o := .cells #[.int .i64 a0_0, .int .i64 a0_1, .int .i64 a0_2, .slice A0_3 l0_3.length c0_3, .slice A0_4 l0_4.length c0_4] 25 (0, 0)) (by (with_reducible repeat (first | refine blk_drewN ?_ _ | refine blk_drew ?_ | refine blk_alloc ?_ _)); exact BK203.out) hb); have n1_ := Aside0.mk (below_step (by repeat (first | (with_reducible first | exact HB.out | apply below_alloc | apply pw_below_drewN | apply below_drew1 | refine below_set ?_ GE203.out) | exact HB.out)) hb); clear BK203; clear HB; have BK203 := n0_; have HB := n1_; clear n0_ n1_; (try clear hb); (try clear hb2); (try clear hk); (try clear hi); have hcz17_0 : w16.cell? ⟨gb203, 0, none⟩ = some (.int .i64 a0_0) := (blk_cell BK203.out 0).trans rfl; have hcz17_1 : w16.cell? ⟨gb203, 1, none⟩ = some (.int .i64 a0_1) := (blk_cell BK203.out 1).trans rfl; have hcz17_2 : w16.cell? ⟨gb203, 2, none⟩ = some (.int .i64 a0_2) := (blk_cell BK203.out 2).trans rfl; have hcz17_3 : w16.cell? ⟨gb203, 3, none⟩ = some (.slice A0_3 l0_3.length c0_3) := (blk_cell BK203.out 3).trans rfl; have hcz17_4 : w16.cell? ⟨gb203, 4, none⟩ = some (.slice A0_4 l0_4.length c0_4) := (blk_cell BK203.out 4).trans rfl; have hfz17_0 := blk_frozen BK203.out 0; have hfz17_1 := blk_frozen BK203.out 1; have hfz17_2 := blk_frozen BK203.out 2; have hfz17_3 := blk_frozen BK203.out 3; have hfz17_4 := blk_frozen BK203.out 4) | (go_at_call 9; (with_reducible refine (capnpref10_Few.calls k a0_0 a0_1 a0_2 _ _ l0_3 _ _ l0_4 true _ ?side1 ?side2 ?side3 ?side4 A7.out).mono ?_); (case side1 => repeat (first | exact (Kd.C_below HR0_3.out HB.out) | (with_reducible refine Kd.C_alloc ?_ _) | (with_reducible refine Kd.C_drewN ?_ _) | (with_reducible refine Kd.C_drew ?_))); (case side2 => exact HC0_3.out); (case side3 => repeat (first | exact (Kd.C_below HR0_4.out HB.out) | (with_reducible refine Kd.C_alloc ?_ _) | (with_reducible refine Kd.C_drewN ?_ _) | (with_reducible refine Kd.C_drew ?_))); (case side4 => exact HC0_4.out); rintro e w18 ⟨rfl, hb⟩; have n0_ := Aside0.mk (blk_below (g := gb203) (o := .cells #[.int .i64 a0_0, .int .i64 a0_1, .int .i64 a0_2, .slice A0_3 l0_3.length c0_3, .slice A0_4 l0_4.length c0_4] 25 (0, 0)) (by (with_reducible repeat (first | refine blk_drewN ?_ _ | refine blk_drew ?_ | refine blk_alloc ?_ _)); exact BK203.out) hb); have n1_ := Aside0.mk (below_step (by repeat (first | (with_reducible first | exact HB.out | apply below_alloc | apply pw_below_drewN | apply below_drew1 | refine below_set ?_ GE203.out) | exact HB.out)) hb); clear BK203; clear HB; have BK203 := n0_; have HB := n1_; clear n0_ n1_; (try clear hb); (try clear hb2); (try clear hk); (try clear hi); have hcz19_0 : w18.cell? ⟨gb203, 0, none⟩ = some (.int .i64 a0_0) := (blk_cell BK203.out 0).trans rfl; have hcz19_1 : w18.cell? ⟨gb203, 1, none⟩ = some (.int .i64 a0_1) := (blk_cell BK203.out 1).trans rfl; have hcz19_2 : w18.cell? ⟨gb203, 2, none⟩ = some (.int .i64 a0_2) := (blk_cell BK203.out 2).trans rfl; have hcz19_3 : w18.cell? ⟨gb203, 3, none⟩ = some (.slice A0_3 l0_3.length c0_3) := (blk_cell BK203.out 3).trans rfl; have hcz19_4 : w18.cell? ⟨gb203, 4, none⟩ = some (.slice A0_4 l0_4.length c0_4) := (blk_cell BK203.out 4).trans rfl; have hfz19_0 := blk_frozen BK203.out 0; have hfz19_1 := blk_frozen BK203.out 1; have hfz19_2 := blk_frozen BK203.out 2; have hfz19_3 := blk_frozen BK203.out 3; have hfz19_4 := blk_frozen BK203.out 4) | (go_at_call 10; (with_reducible refine (capnpref10_Valid.calls k a0_0 a0_1 a0_2 _ _ l0_3 _ _ l0_4 false _ ?side1 ?side2 ?side3 ?side4 A9.out).mono ?_); (case side1 => repeat (first | exact (Kd.C_below HR0_3.out HB.out) | (with_reducible refine Kd.C_alloc ?_ _) | (with_reducible refine Kd.C_drewN ?_ _) | (with_reducible refine Kd.C_drew ?_))); (case side2 => exact HC0_3.out); (case side3 => repeat (first | exact (Kd.C_below HR0_4.out HB.out) | (with_reducible refine Kd.C_alloc ?_ _) | (with_reducible refine Kd.C_drewN ?_ _) | (with_reducible refine Kd.C_drew ?_))); (case side4 => exact HC0_4.out); rintro e w20 ⟨rfl, hb⟩; have n0_ := Aside0.mk (blk_below (g := gb203) (o := .cells #[.int .i64 a0_0, .int .i64 a0_1, .int .i64 a0_2, .slice A0_3 l0_3.length c0_3, .slice A0_4 l0_4.length c0_4] 25 (0, 0)) (by (with_reducible repeat (first | refine blk_drewN ?_ _ | refine blk_drew ?_ | refine blk_alloc ?_ _)); exact BK203.out) hb); have n1_ := Aside0.mk (below_step (by repeat (first | (with_reducible first | exact HB.out | apply below_alloc | apply pw_below_drewN | apply below_drew1 | refine below_set ?_ GE203.out) | exact HB.out)) hb); clear BK203; clear HB; have BK203 := n0_; have HB := n1_; clear n0_ n1_; (try clear hb); (try clear hb2); (try clear hk); (try clear hi)))
     go_meet
     case rel => exact ⟨_, (true), (by first | rfl | (simp; done) | (simp [*]; done)), H', ⟨by first | omega | exact Nat.le_refl _⟩, ⟨by (with_reducible repeat (first | refine blk_drewN ?_ _ | refine blk_drew ?_ | refine blk_alloc ?_ _)); exact BK203.out⟩, ⟨by repeat (first | (with_reducible first | exact HB.out | apply below_alloc | apply pw_below_drewN | apply below_drew1 | refine below_set ?_ GE203.out) | exact HB.out)⟩⟩
   ·replace c8 := Bool.eq_false_iff.mpr c8
    subst c8
    have H1 : (capnplaw11_TrimMatchesReference.j0 k l1 true a0_0 a0_1 a0_2 l0_3 l0_4) = some r := by rw [if_neg (show ¬ (false = true) by decide)] at H; exact H
    clear H
    have H := H1
    clear H1
    have H' := Aside0.mk H
    clear H
    go_wp2_with (first | ((with_reducible refine gate_callee (f := 8) rfl ?_); refine goesL_ (some 10) rfl rfl Try.func8 (by kernel_rfl) rfl #[] rfl (by (try simp only [List.map_toArray, List.map_cons, List.map_nil]); first | done | rfl | (simp only [List.length_drop, List.length_take]; rfl)) ?_; (with_reducible refine (capnplaw11_awake.calls  true _ A5.out).mono ?_); rintro e w21 ⟨rfl, hb⟩; refine ⟨_, rfl, ?_⟩; have n0_ := Aside0.mk (blk_below (g := gb203) (o := .cells #[.int .i64 a0_0, .int .i64 a0_1, .int .i64 a0_2, .slice A0_3 l0_3.length c0_3, .slice A0_4 l0_4.length c0_4] 25 (0, 0)) (by (with_reducible repeat (first | refine blk_drewN ?_ _ | refine blk_drew ?_ | refine blk_alloc ?_ _)); exact BK203.out) hb); have n1_ := Aside0.mk (below_step (by repeat (first | (with_reducible first | exact HB.out | apply below_alloc | apply pw_below_drewN | apply below_drew1 | refine below_set ?_ GE203.out) | exact HB.out)) hb); clear BK203; clear HB; have BK203 := n0_; have HB := n1_; clear n0_ n1_; (try clear hb); (try clear hb2); (try clear hk); (try clear hi); have hcz22_0 : w21.cell? ⟨gb203, 0, none⟩ = some (.int .i64 a0_0) := (blk_cell BK203.out 0).trans rfl; have hcz22_1 : w21.cell? ⟨gb203, 1, none⟩ = some (.int .i64 a0_1) := (blk_cell BK203.out 1).trans rfl; have hcz22_2 : w21.cell? ⟨gb203, 2, none⟩ = some (.int .i64 a0_2) := (blk_cell BK203.out 2).trans rfl; have hcz22_3 : w21.cell? ⟨gb203, 3, none⟩ = some (.slice A0_3 l0_3.length c0_3) := (blk_cell BK203.out 3).trans rfl; have hcz22_4 : w21.cell? ⟨gb203, 4, none⟩ = some (.slice A0_4 l0_4.length c0_4) := (blk_cell BK203.out 4).trans rfl; have hfz22_0 := blk_frozen BK203.out 0; have hfz22_1 := blk_frozen BK203.out 1; have hfz22_2 := blk_frozen BK203.out 2; have hfz22_3 := blk_frozen BK203.out 3; have hfz22_4 := blk_frozen BK203.out 4) | (go_at_call 9; (with_reducible refine (capnpref10_Few.calls k a0_0 a0_1 a0_2 _ _ l0_3 _ _ l0_4 false _ ?side1 ?side2 ?side3 ?side4 A7.out).mono ?_); (case side1 => repeat (first | exact (Kd.C_below HR0_3.out HB.out) | (with_reducible refine Kd.C_alloc ?_ _) | (with_reducible refine Kd.C_drewN ?_ _) | (with_reducible refine Kd.C_drew ?_))); (case side2 => exact HC0_3.out); (case side3 => repeat (first | exact (Kd.C_below HR0_4.out HB.out) | (with_reducible refine Kd.C_alloc ?_ _) | (with_reducible refine Kd.C_drewN ?_ _) | (with_reducible refine Kd.C_drew ?_))); (case side4 => exact HC0_4.out); rintro e w23 ⟨rfl, hb⟩; have n0_ := Aside0.mk (blk_below (g := gb203) (o := .cells #[.int .i64 a0_0, .int .i64 a0_1, .int .i64 a0_2, .slice A0_3 l0_3.length c0_3, .slice A0_4 l0_4.length c0_4] 25 (0, 0)) (by (with_reducible repeat (first | refine blk_drewN ?_ _ | refine blk_drew ?_ | refine blk_alloc ?_ _)); exact BK203.out) hb); have n1_ := Aside0.mk (below_step (by repeat (first | (with_reducible first | exact HB.out | apply below_alloc | apply pw_below_drewN | apply below_drew1 | refine below_set ?_ GE203.out) | exact HB.out)) hb); clear BK203; clear HB; have BK203 := n0_; have HB := n1_; clear n0_ n1_; (try clear hb); (try clear hb2); (try clear hk); (try clear hi)))
    go_meet
    case rel => exact ⟨_, (true), (by first | rfl | (simp; done) | (simp [*]; done)), H', ⟨by first | omega | exact Nat.le_refl _⟩, ⟨by (with_reducible repeat (first | refine blk_drewN ?_ _ | refine blk_drew ?_ | refine blk_alloc ?_ _)); exact BK203.out⟩, ⟨by repeat (first | (with_reducible first | exact HB.out | apply below_alloc | apply pw_below_drewN | apply below_drew1 | refine below_set ?_ GE203.out) | exact HB.out)⟩⟩
  ·replace c6 := Bool.eq_false_iff.mpr c6
   subst c6
   have H1 : (capnplaw11_TrimMatchesReference.j0 k l1 true a0_0 a0_1 a0_2 l0_3 l0_4) = some r := by rw [if_neg (show ¬ (false = true) by decide)] at H; exact H
   clear H
   have H := H1
   clear H1
   have H' := Aside0.mk H
   clear H
   go_wp2_with (first | ((with_reducible refine gate_callee (f := 8) rfl ?_); refine goesL_ (some 10) rfl rfl Try.func8 (by kernel_rfl) rfl #[] rfl (by (try simp only [List.map_toArray, List.map_cons, List.map_nil]); first | done | rfl | (simp only [List.length_drop, List.length_take]; rfl)) ?_; (with_reducible refine (capnplaw11_awake.calls  false _ A5.out).mono ?_); rintro e w24 ⟨rfl, hb⟩; refine ⟨_, rfl, ?_⟩; have n0_ := Aside0.mk (blk_below (g := gb203) (o := .cells #[.int .i64 a0_0, .int .i64 a0_1, .int .i64 a0_2, .slice A0_3 l0_3.length c0_3, .slice A0_4 l0_4.length c0_4] 25 (0, 0)) (by (with_reducible repeat (first | refine blk_drewN ?_ _ | refine blk_drew ?_ | refine blk_alloc ?_ _)); exact BK203.out) hb); have n1_ := Aside0.mk (below_step (by repeat (first | (with_reducible first | exact HB.out | apply below_alloc | apply pw_below_drewN | apply below_drew1 | refine below_set ?_ GE203.out) | exact HB.out)) hb); clear BK203; clear HB; have BK203 := n0_; have HB := n1_; clear n0_ n1_; (try clear hb); (try clear hb2); (try clear hk); (try clear hi)))
   go_meet
   case rel => exact ⟨_, (true), (by first | rfl | (simp; done) | (simp [*]; done)), H', ⟨by first | omega | exact Nat.le_refl _⟩, ⟨by (with_reducible repeat (first | refine blk_drewN ?_ _ | refine blk_drew ?_ | refine blk_alloc ?_ _)); exact BK203.out⟩, ⟨by repeat (first | (with_reducible first | exact HB.out | apply below_alloc | apply pw_below_drewN | apply below_drew1 | refine below_set ?_ GE203.out) | exact HB.out)⟩⟩
 case rest =>
  clear HC3
  try clear c1
  try clear p2
  try clear c3
  try clear c6
  try clear c8
  try clear c10
  try clear hcz12_0
  try clear hcz12_1
  try clear hcz12_2
  try clear hcz12_3
  try clear hcz12_4
  try clear hcz14_0
  try clear hcz14_1
  try clear hcz14_2
  try clear hcz14_3
  try clear hcz14_4
  try clear hcz17_0
  try clear hcz17_1
  try clear hcz17_2
  try clear hcz17_3
  try clear hcz17_4
  try clear hcz19_0
  try clear hcz19_1
  try clear hcz19_2
  try clear hcz19_3
  try clear hcz19_4
  try clear hcz22_0
  try clear hcz22_1
  try clear hcz22_2
  try clear hcz22_3
  try clear hcz22_4
  try clear hfz12_0
  try clear hfz12_1
  try clear hfz12_2
  try clear hfz12_3
  try clear hfz12_4
  try clear hfz14_0
  try clear hfz14_1
  try clear hfz14_2
  try clear hfz14_3
  try clear hfz14_4
  try clear hfz17_0
  try clear hfz17_1
  try clear hfz17_2
  try clear hfz17_3
  try clear hfz17_4
  try clear hfz19_0
  try clear hfz19_1
  try clear hfz19_2
  try clear hfz19_3
  try clear hfz19_4
  try clear hfz22_0
  try clear hfz22_1
  try clear hfz22_2
  try clear hfz22_3
  try clear hfz22_4
  obtain ⟨kq, x26_2, rfl, HA, HJ2, BK203, HB⟩ := hcut
  cases kq with
  | zero => exact absurd HA.out (by simp [capnplaw11_TrimMatchesReference.j0])
  | succ kj2 =>
   have H := HA.out
   clear HA
   simp only [capnplaw11_TrimMatchesReference.j0] at H
   by_cases c25 : x26_2 = true
   ·subst c25
    have H1 : ((capnplaw11_awake.f).bind fun t207 => (some t207)) = some r := by rw [if_pos rfl] at H; exact H
    clear H
    have H := H1
    clear H1
    replace H := Option.bind_eq_some_iff.mp H
    obtain ⟨t207, A260, H⟩ := H
    replace H : (some t207) = some r := H
    have A26 := Aside0.mk A260
    clear A260
    obtain rfl := Option.some.inj H
    go_wp2_with (first | ((with_reducible refine gate_callee (f := 8) rfl ?_); refine goesL_ (some 27) rfl rfl Try.func8 (by kernel_rfl) rfl #[] rfl (by (try simp only [List.map_toArray, List.map_cons, List.map_nil]); first | done | rfl | (simp only [List.length_drop, List.length_take]; rfl)) ?_; (with_reducible refine (capnplaw11_awake.calls  t207 _ A26.out).mono ?_); rintro e w27 ⟨rfl, hb⟩; refine ⟨_, rfl, ?_⟩; have n0_ := Aside0.mk (blk_below (g := gb203) (o := .cells #[.int .i64 a0_0, .int .i64 a0_1, .int .i64 a0_2, .slice A0_3 l0_3.length c0_3, .slice A0_4 l0_4.length c0_4] 25 (0, 0)) (by (with_reducible repeat (first | refine blk_drewN ?_ _ | refine blk_drew ?_ | refine blk_alloc ?_ _)); exact BK203.out) hb); have n1_ := Aside0.mk (below_step (by repeat (first | (with_reducible first | exact HB.out | apply below_alloc | apply pw_below_drewN | apply below_drew1 | refine below_set ?_ GE203.out) | exact HB.out)) hb); clear BK203; clear HB; have BK203 := n0_; have HB := n1_; clear n0_ n1_; (try clear hb); (try clear hb2); (try clear hk); (try clear hi)))
    go_ret
    exact ⟨by first | rfl | (simp [errW_none, errW_some] <;> rfl) | (simp [*, errW_none, errW_some] <;> rfl), by repeat (first | (with_reducible first | exact HB.out | apply below_alloc | apply pw_below_drewN | apply below_drew1 | refine below_set ?_ GE203.out) | exact HB.out)⟩
   ·replace c25 := Bool.eq_false_iff.mpr c25
    subst c25
    have H1 : (if 0 ≤ (wrap64 ((wrap64 ((l1.length : Int) / 8)) * 8)) then (if (wrap64 ((wrap64 ((l1.length : Int) / 8)) * 8)) ≤ (l1.length : Int) then ((trim_Words.f (l1.take ((wrap64 ((wrap64 ((l1.length : Int) / 8)) * 8)) : Int).toNat)).bind fun t209 => ((capnpref11_Words.f kj2 (l1.take ((wrap64 ((wrap64 ((l1.length : Int) / 8)) * 8)) : Int).toNat)).bind fun t210 => (if t209 = t210 then ((trim_Pointers.f l0_4).bind fun t211 => ((capnpref11_Pointers.f kj2 l0_4).bind fun t212 => (if t211 = t212 then ((trim_Trim.f kj2 a0_0 a0_1 a0_2 l0_3 l0_4).bind fun bt213 => ((capnpref11_Trim.f kj2 a0_0 a0_1 a0_2 l0_3 l0_4).bind fun bt222 => ((capnpref10_Equal.f kj2 bt213.1 bt213.2.1 bt213.2.2.1 bt213.2.2.2.1 bt213.2.2.2.2 bt222.1 bt222.2.1 bt222.2.2.1 bt222.2.2.2.1 bt222.2.2.2.2).bind fun t231 => (capnplaw11_TrimMatchesReference.j1 kj2 (!t231) a0_0 a0_1 a0_2 l0_3 l0_4)))) else (capnplaw11_TrimMatchesReference.j1 kj2 true a0_0 a0_1 a0_2 l0_3 l0_4)))) else (capnplaw11_TrimMatchesReference.j1 kj2 true a0_0 a0_1 a0_2 l0_3 l0_4)))) else (none)) else (none)) = some r := by rw [if_neg (show ¬ (false = true) by decide)] at H; exact H
    clear H
    have H := H1
    clear H1
    obtain ⟨ji28, hji28⟩ : ∃ j_ : Int, (wrap64 ((wrap64 ((l1.length : Int) / 8)) * 8)) = j_ := ⟨_, rfl⟩
    replace H : (if 0 ≤ (ji28) then (if (ji28) ≤ (l1.length : Int) then ((trim_Words.f (l1.take ((ji28) : Int).toNat)).bind fun t209 => ((capnpref11_Words.f kj2 (l1.take ((ji28) : Int).toNat)).bind fun t210 => (if t209 = t210 then ((trim_Pointers.f l0_4).bind fun t211 => ((capnpref11_Pointers.f kj2 l0_4).bind fun t212 => (if t211 = t212 then ((trim_Trim.f kj2 a0_0 a0_1 a0_2 l0_3 l0_4).bind fun bt213 => ((capnpref11_Trim.f kj2 a0_0 a0_1 a0_2 l0_3 l0_4).bind fun bt222 => ((capnpref10_Equal.f kj2 bt213.1 bt213.2.1 bt213.2.2.1 bt213.2.2.2.1 bt213.2.2.2.2 bt222.1 bt222.2.1 bt222.2.2.1 bt222.2.2.2.1 bt222.2.2.2.2).bind fun t231 => (capnplaw11_TrimMatchesReference.j1 kj2 (!t231) a0_0 a0_1 a0_2 l0_3 l0_4)))) else (capnplaw11_TrimMatchesReference.j1 kj2 true a0_0 a0_1 a0_2 l0_3 l0_4)))) else (capnplaw11_TrimMatchesReference.j1 kj2 true a0_0 a0_1 a0_2 l0_3 l0_4)))) else (none)) else (none)) = some r := by first | (rw [hji28] at H; exact H) | (simp only [hji28] at H ⊢; exact H)
    have hji28w : (IntKind.i64.wrap ((wrap64 ((l1.length : Int) / 8)) * 8)) = ji28 := (i64_w _).trans hji28
    by_cases c29 : 0 ≤ (ji28)
    ·rw [if_pos c29] at H
     have c29b0 := eq_true c29
     have c29b1 : decide (0 ≤ (ji28)) = true := decide_eq_true c29
     clear c29
     by_cases c30 : (ji28) ≤ (l1.length : Int)
     ·rw [if_pos c30] at H
      have c30b0 := eq_true c30
      have c30b1 : decide ((ji28) ≤ (l1.length : Int)) = true := decide_eq_true c30
      clear c30
      have HC31 := Aside0.mk H
      clear H
      obtain ⟨i032, hi032, _, hsz32, _⟩ := info_parts info5
      obtain ⟨hcut32, hA32, hC32⟩ := print_take_of (P := Try.prog) (Value.int .u8) 0 22 5 .i64 Try.underlying22 hi032 hsz32 A1 c1 l1 (ji28) (of_decide_eq_true (by first | (with_reducible assumption) | assumption)) (of_decide_eq_true (by first | (with_reducible assumption) | assumption)) HC1.out
      have HR208 := Aside0.mk (Kd.C_of_reads (h1 := fun _ => rfl) (hA32 _ (Kd.reads_of_C HR1.out)))
      have HC208 := Aside0.mk hC32
      clear hA32 hC32 hi032 hsz32
      go_upto_region 4 with (fail)
      go_cut [55] (fun v55 wc => ∃ (kq : Nat) (x55_30 : Bool), v55 = .bool x55_30 ∧ Aside0 (capnplaw11_TrimMatchesReference.j1 kq x55_30 a0_0 a0_1 a0_2 l0_3 l0_4 = some r) ∧ Aside0 (kq ≤ kj2) ∧ Aside0 (wc.heap[gb203]? = some (.cells #[.int .i64 a0_0, .int .i64 a0_1, .int .i64 a0_2, (.slice A0_3 l0_3.length c0_3), (.slice A0_4 l0_4.length c0_4)] 25 (0, 0))) ∧ Aside0 (Below w.heap.size w wc))
      case first =>
       have H := HC31.out
       clear HC31
       replace H := Option.bind_eq_some_iff.mp H
       obtain ⟨t209, A330, H⟩ := H
       replace H : ((capnpref11_Words.f kj2 (l1.take ((ji28) : Int).toNat)).bind fun t210 => (if t209 = t210 then ((trim_Pointers.f l0_4).bind fun t211 => ((capnpref11_Pointers.f kj2 l0_4).bind fun t212 => (if t211 = t212 then ((trim_Trim.f kj2 a0_0 a0_1 a0_2 l0_3 l0_4).bind fun bt213 => ((capnpref11_Trim.f kj2 a0_0 a0_1 a0_2 l0_3 l0_4).bind fun bt222 => ((capnpref10_Equal.f kj2 bt213.1 bt213.2.1 bt213.2.2.1 bt213.2.2.2.1 bt213.2.2.2.2 bt222.1 bt222.2.1 bt222.2.2.1 bt222.2.2.2.1 bt222.2.2.2.2).bind fun t231 => (capnplaw11_TrimMatchesReference.j1 kj2 (!t231) a0_0 a0_1 a0_2 l0_3 l0_4)))) else (capnplaw11_TrimMatchesReference.j1 kj2 true a0_0 a0_1 a0_2 l0_3 l0_4)))) else (capnplaw11_TrimMatchesReference.j1 kj2 true a0_0 a0_1 a0_2 l0_3 l0_4))) = some r := H
       have A33 := Aside0.mk A330
       clear A330
       replace H := Option.bind_eq_some_iff.mp H
       obtain ⟨t210, A340, H⟩ := H
       replace H : (if t209 = t210 then ((trim_Pointers.f l0_4).bind fun t211 => ((capnpref11_Pointers.f kj2 l0_4).bind fun t212 => (if t211 = t212 then ((trim_Trim.f kj2 a0_0 a0_1 a0_2 l0_3 l0_4).bind fun bt213 => ((capnpref11_Trim.f kj2 a0_0 a0_1 a0_2 l0_3 l0_4).bind fun bt222 => ((capnpref10_Equal.f kj2 bt213.1 bt213.2.1 bt213.2.2.1 bt213.2.2.2.1 bt213.2.2.2.2 bt222.1 bt222.2.1 bt222.2.2.1 bt222.2.2.2.1 bt222.2.2.2.2).bind fun t231 => (capnplaw11_TrimMatchesReference.j1 kj2 (!t231) a0_0 a0_1 a0_2 l0_3 l0_4)))) else (capnplaw11_TrimMatchesReference.j1 kj2 true a0_0 a0_1 a0_2 l0_3 l0_4)))) else (capnplaw11_TrimMatchesReference.j1 kj2 true a0_0 a0_1 a0_2 l0_3 l0_4)) = some r := H
       have A34 := Aside0.mk A340
       clear A340
       by_cases c35 : t209 = t210
       ·rw [if_pos c35] at H
        have c35b0 : (t209 == t210) = true := beq_iff_eq.mpr c35
        have c35b1 : (t209 != t210) = false := bne_eq_false_iff_eq.mpr c35
        clear c35
        (first | rw [c35b0] | (simp only [i64_w, i32_w]; rw [c35b0]) | skip)
        replace H := Option.bind_eq_some_iff.mp H
        obtain ⟨t211, A360, H⟩ := H
        replace H : ((capnpref11_Pointers.f kj2 l0_4).bind fun t212 => (if t211 = t212 then ((trim_Trim.f kj2 a0_0 a0_1 a0_2 l0_3 l0_4).bind fun bt213 => ((capnpref11_Trim.f kj2 a0_0 a0_1 a0_2 l0_3 l0_4).bind fun bt222 => ((capnpref10_Equal.f kj2 bt213.1 bt213.2.1 bt213.2.2.1 bt213.2.2.2.1 bt213.2.2.2.2 bt222.1 bt222.2.1 bt222.2.2.1 bt222.2.2.2.1 bt222.2.2.2.2).bind fun t231 => (capnplaw11_TrimMatchesReference.j1 kj2 (!t231) a0_0 a0_1 a0_2 l0_3 l0_4)))) else (capnplaw11_TrimMatchesReference.j1 kj2 true a0_0 a0_1 a0_2 l0_3 l0_4))) = some r := H
        have A36 := Aside0.mk A360
        clear A360
        replace H := Option.bind_eq_some_iff.mp H
        obtain ⟨t212, A370, H⟩ := H
        replace H : (if t211 = t212 then ((trim_Trim.f kj2 a0_0 a0_1 a0_2 l0_3 l0_4).bind fun bt213 => ((capnpref11_Trim.f kj2 a0_0 a0_1 a0_2 l0_3 l0_4).bind fun bt222 => ((capnpref10_Equal.f kj2 bt213.1 bt213.2.1 bt213.2.2.1 bt213.2.2.2.1 bt213.2.2.2.2 bt222.1 bt222.2.1 bt222.2.2.1 bt222.2.2.2.1 bt222.2.2.2.2).bind fun t231 => (capnplaw11_TrimMatchesReference.j1 kj2 (!t231) a0_0 a0_1 a0_2 l0_3 l0_4)))) else (capnplaw11_TrimMatchesReference.j1 kj2 true a0_0 a0_1 a0_2 l0_3 l0_4)) = some r := H
        have A37 := Aside0.mk A370
        clear A370
        by_cases c38 : t211 = t212
        ·rw [if_pos c38] at H
         have c38b0 : (t211 == t212) = true := beq_iff_eq.mpr c38
         have c38b1 : (t211 != t212) = false := bne_eq_false_iff_eq.mpr c38
         clear c38
         replace H := Option.bind_eq_some_iff.mp H
         obtain ⟨⟨t213, t214, t215, t216, t219⟩, A390, H⟩ := H
         replace H : ((capnpref11_Trim.f kj2 a0_0 a0_1 a0_2 l0_3 l0_4).bind fun bt222 => ((capnpref10_Equal.f kj2 t213 t214 t215 t216 t219 bt222.1 bt222.2.1 bt222.2.2.1 bt222.2.2.2.1 bt222.2.2.2.2).bind fun t231 => (capnplaw11_TrimMatchesReference.j1 kj2 (!t231) a0_0 a0_1 a0_2 l0_3 l0_4))) = some r := H
         have A39 := Aside0.mk A390
         clear A390
         replace H := Option.bind_eq_some_iff.mp H
         obtain ⟨⟨t222, t223, t224, t225, t228⟩, A400, H⟩ := H
         replace H : ((capnpref10_Equal.f kj2 t213 t214 t215 t216 t219 t222 t223 t224 t225 t228).bind fun t231 => (capnplaw11_TrimMatchesReference.j1 kj2 (!t231) a0_0 a0_1 a0_2 l0_3 l0_4)) = some r := H
         have A40 := Aside0.mk A400
         clear A400
         replace H := Option.bind_eq_some_iff.mp H
         obtain ⟨t231, A410, H⟩ := H
         replace H : (capnplaw11_TrimMatchesReference.j1 kj2 (!t231) a0_0 a0_1 a0_2 l0_3 l0_4) = some r := H
         have A41 := Aside0.mk A410
         clear A410
         have H' := Aside0.mk H
         clear H
         try go_wp2
         have n0_ := Aside0.mk (blk_drew BK203.out)
         have n1_ := Aside0.mk (below_drew1 HB.out)
         clear BK203
         clear HB
         have BK203 := n0_
         have HB := n1_
         clear n0_ n1_
         refine start_ (n := 22) (S := fun w' => w'.cell? ⟨gb203, 0, none⟩ = some (.int .i64 a0_0) ∧ w'.cell? ⟨gb203, 1, none⟩ = some (.int .i64 a0_1) ∧ w'.cell? ⟨gb203, 2, none⟩ = some (.int .i64 a0_2) ∧ w'.cell? ⟨gb203, 3, none⟩ = some (.slice A0_3 l0_3.length c0_3) ∧ w'.cell? ⟨gb203, 4, none⟩ = some (.slice A0_4 l0_4.length c0_4)) (ds := []) #[false, false, false, false, false, false, false, false, false, false, false, false, false, false, false, false, false, false, false, false, false, false] (by kernel_rfl) rfl rfl ⟨(blk_cell BK203.out 0).trans rfl, (blk_cell BK203.out 1).trans rfl, (blk_cell BK203.out 2).trans rfl, (blk_cell BK203.out 3).trans rfl, (blk_cell BK203.out 4).trans rfl⟩ (fun hHeld => ?_); refine with_tabW capnplaw11_TrimMatchesReference.tab4 capnplaw11_TrimMatchesReference.bits4 (fun HT_ HW_ => ?_)
         generalize wc.drew = w42 at BK203 HB hHeld ⊢
         refine pure_ (i := 0) (N := some 34) (v := ?_) (a' := ?_) #[true, false, false, false, false, false, false, false, false, false, false, false, false, false, false, false, false, false, false, false, false, false] rfl rfl (any_of HT_.out (by kernel_rfl)) (fun _ _ _ h => h) (Or.inl ⟨by rfl, ?_⟩) ?_ ?_
         rotate_left
         ·intro w'
          go_simp
          with_reducible rfl
         rotate_left
         ·simp only [Act.put, List.setIfInBounds_toArray, List.set_cons_zero, List.set_cons_succ, i64_w, i32_w]
          rfl
         refine pure_ (i := 2) (N := some 36) (v := ?_) (a' := ?_) #[true, false, true, false, false, false, false, false, false, false, false, false, false, false, false, false, false, false, false, false, false, false] rfl rfl (any_of HT_.out (by kernel_rfl)) (fun _ _ _ h => h) (Or.inl ⟨by rfl, ?_⟩) ?_ ?_
         rotate_left
         ·intro w'
          go_simp
          with_reducible rfl
         rotate_left
         ·simp only [Act.put, List.setIfInBounds_toArray, List.set_cons_zero, List.set_cons_succ, i64_w, i32_w]
          rfl
         refine one_ (i := 1) (N := some 35) #[true, true, true, false, false, false, false, false, false, false, false, false, false, false, false, false, false, false, false, false, false, false] rfl rfl (one_of HT_.out (by kernel_rfl)) (by decide) (fun K hK => ?_)
         refine goes_ Try.func11 (by kernel_rfl) rfl #[.slice A1 (l1.take ((ji28) : Int).toNat).length c1] (by rfl) rfl rfl (by (try simp only [List.map_toArray, List.map_cons, List.map_nil]); first | done | (rw [show (l1.take ((ji28) : Int).toNat).length = (ji28).toNat from (by rw [List.length_take]; have h_ : ((ji28) : Int) ≤ (l1.length : Int) := of_decide_eq_true (by first | (with_reducible assumption) | assumption); omega)] <;> rfl) | (simp only [hji28]; rfl) | rfl | (simp only [List.length_drop, List.length_take]; rfl)) ?_
         with_reducible refine (trim_Words.calls _ _ (l1.take ((ji28) : Int).toNat) t209 _ ?side1 ?side2 A33.out).mono ?_
         (case side1 => repeat (first | exact (Kd.C_below HR208.out HB.out) | (with_reducible refine Kd.C_alloc ?_ _) | (with_reducible refine Kd.C_drewN ?_ _) | (with_reducible refine Kd.C_drew ?_)))
         (case side2 => exact HC208.out)
         rintro e w' ⟨rfl, ⟨nd, rfl⟩⟩
         refine ⟨_, rfl, ?_⟩
         refine hK.out _ _ ⟨(blk_cell BK203.out 0).trans rfl, (blk_cell BK203.out 1).trans rfl, (blk_cell BK203.out 2).trans rfl, (blk_cell BK203.out 3).trans rfl, (blk_cell BK203.out 4).trans rfl⟩ (fun hHeld => ?_)
         clear hK K
         refine norm_ (a' := ?_) ?_ ?_
         rotate_left
         ·show Act.put _ (some 35) _ = _
          simp only [Act.put, List.setIfInBounds_toArray, List.set_cons_zero, List.set_cons_succ, i64_w, i32_w]
          rfl
         refine one_ (i := 3) (N := some 37) #[true, true, true, true, false, false, false, false, false, false, false, false, false, false, false, false, false, false, false, false, false, false] rfl rfl (one_of HT_.out (by kernel_rfl)) (by decide) (fun K hK => ?_)
         refine goes_ Try.func12 (by kernel_rfl) rfl #[.slice A1 (l1.take ((ji28) : Int).toNat).length c1] (by rfl) rfl rfl (by (try simp only [List.map_toArray, List.map_cons, List.map_nil]); first | done | (rw [show (l1.take ((ji28) : Int).toNat).length = (ji28).toNat from (by rw [List.length_take]; have h_ : ((ji28) : Int) ≤ (l1.length : Int) := of_decide_eq_true (by first | (with_reducible assumption) | assumption); omega)] <;> rfl) | (simp only [hji28]; rfl) | rfl | (simp only [List.length_drop, List.length_take]; rfl)) ?_
         with_reducible refine (capnpref11_Words.calls kj2 _ _ (l1.take ((ji28) : Int).toNat) t210 _ ?side1 ?side2 A34.out).mono ?_
         (case side1 => repeat (first | exact (Kd.C_below HR208.out (by repeat (first | (with_reducible first | exact HB.out | apply below_alloc | apply pw_below_drewN | apply below_drew1 | refine below_set ?_ GE203.out) | exact HB.out))) | (with_reducible refine Kd.C_alloc ?_ _) | (with_reducible refine Kd.C_drewN ?_ _) | (with_reducible refine Kd.C_drew ?_)))
         (case side2 => exact HC208.out)
         rintro e w' ⟨rfl, ⟨nd, rfl⟩⟩
         refine ⟨_, rfl, ?_⟩
         refine hK.out _ _ ⟨(blk_cell BK203.out 0).trans rfl, (blk_cell BK203.out 1).trans rfl, (blk_cell BK203.out 2).trans rfl, (blk_cell BK203.out 3).trans rfl, (blk_cell BK203.out 4).trans rfl⟩ (fun hHeld => ?_)
         clear hK K
         refine norm_ (a' := ?_) ?_ ?_
         rotate_left
         ·show Act.put _ (some 37) _ = _
          simp only [Act.put, List.setIfInBounds_toArray, List.set_cons_zero, List.set_cons_succ, i64_w, i32_w]
          rfl
         refine pure_ (i := 4) (N := some 38) (v := ?_) (a' := ?_) #[true, true, true, true, true, false, false, false, false, false, false, false, false, false, false, false, false, false, false, false, false, false] rfl rfl (any_of HT_.out (by kernel_rfl)) (fun _ _ _ h => h) (Or.inl ⟨by rfl, ?_⟩) ?_ ?_
         rotate_left
         ·intro w'
          go_simp
          with_reducible rfl
         rotate_left
         ·simp only [Act.put, List.setIfInBounds_toArray, List.set_cons_zero, List.set_cons_succ, i64_w, i32_w]
          rfl
         refine pure_ (i := 5) (N := some 39) (v := ?_) (a' := ?_) #[true, true, true, true, true, true, false, false, false, false, false, false, false, false, false, false, false, false, false, false, false, false] rfl rfl (any_of HT_.out (by kernel_rfl)) (fun _ _ _ h => h) (Or.inl ⟨by rfl, ?_⟩) ?_ ?_
         rotate_left
         ·intro w'
          go_simp
          with_reducible rfl
         rotate_left
         ·simp only [Act.put, List.setIfInBounds_toArray, List.set_cons_zero, List.set_cons_succ, i64_w, i32_w]
          rfl
         refine pure_ (i := 6) (N := some 40) (v := ?_) (a' := ?_) #[true, true, true, true, true, true, true, false, false, false, false, false, false, false, false, false, false, false, false, false, false, false] rfl rfl (any_of HT_.out (by kernel_rfl)) (fun _ _ _ h => h) (Or.inl ⟨by rfl, ?_⟩) ?_ ?_
         rotate_left
         ·intro w'
          go_simp
          with_reducible rfl
         rotate_left
         ·simp only [Act.put, List.setIfInBounds_toArray, List.set_cons_zero, List.set_cons_succ, i64_w, i32_w]
          rfl
         refine pure_ (i := 9) (N := some 43) (v := ?_) (a' := ?_) #[true, true, true, true, true, true, true, false, false, true, false, false, false, false, false, false, false, false, false, false, false, false] rfl rfl (any_of HT_.out (by kernel_rfl)) (fun _ _ _ h => h) (Or.inl ⟨by rfl, ?_⟩) ?_ ?_
         rotate_left
         ·intro w'
          go_simp
          with_reducible rfl
         rotate_left
         ·simp only [Act.put, List.setIfInBounds_toArray, List.set_cons_zero, List.set_cons_succ, i64_w, i32_w]
          rfl
         refine take_ (i := 7) (N := some 41) (v := ?_) (a' := ?_) #[true, true, true, true, true, true, true, true, false, true, false, false, false, false, false, false, false, false, false, false, false, false] rfl rfl (take_ofW HT_.out HW_.out (by kernel_rfl)) (fun _ _ _ h => h) (Or.inl ⟨by rfl, ?_⟩) hHeld ?_ ?_
         rotate_left
         ·rintro w' ⟨s0, s1, s2, s3, s4⟩
          go_simp
          with_reducible rfl
         rotate_left
         ·simp only [Act.put, List.setIfInBounds_toArray, List.set_cons_zero, List.set_cons_succ, i64_w, i32_w]
          rfl
         refine take_ (i := 10) (N := some 44) (v := ?_) (a' := ?_) #[true, true, true, true, true, true, true, true, false, true, true, false, false, false, false, false, false, false, false, false, false, false] rfl rfl (take_ofW HT_.out HW_.out (by kernel_rfl)) (fun _ _ _ h => h) (Or.inl ⟨by rfl, ?_⟩) hHeld ?_ ?_
         rotate_left
         ·rintro w' ⟨s0, s1, s2, s3, s4⟩
          go_simp
          with_reducible rfl
         rotate_left
         ·simp only [Act.put, List.setIfInBounds_toArray, List.set_cons_zero, List.set_cons_succ, i64_w, i32_w]
          rfl
         refine one_ (i := 8) (N := some 42) #[true, true, true, true, true, true, true, true, true, true, true, false, false, false, false, false, false, false, false, false, false, false] rfl rfl (one_of HT_.out (by kernel_rfl)) (by decide) (fun K hK => ?_)
         refine goes_ Try.func13 (by kernel_rfl) rfl #[.slice A0_4 l0_4.length c0_4] (by rfl) rfl rfl (by (try simp only [List.map_toArray, List.map_cons, List.map_nil]); first | done | rfl | (simp only [List.length_drop, List.length_take]; rfl)) ?_
         with_reducible refine (trim_Pointers.calls _ _ l0_4 t211 _ ?side1 ?side2 A36.out).mono ?_
         (case side1 => repeat (first | exact (Kd.C_below HR0_4.out (by repeat (first | (with_reducible first | exact HB.out | apply below_alloc | apply pw_below_drewN | apply below_drew1 | refine below_set ?_ GE203.out) | exact HB.out))) | (with_reducible refine Kd.C_alloc ?_ _) | (with_reducible refine Kd.C_drewN ?_ _) | (with_reducible refine Kd.C_drew ?_)))
         (case side2 => exact HC0_4.out)
         rintro e w43 ⟨rfl, hb⟩
         refine ⟨_, rfl, ?_⟩
         have n0_ := Aside0.mk (blk_below (g := gb203) (o := .cells #[.int .i64 a0_0, .int .i64 a0_1, .int .i64 a0_2, .slice A0_3 l0_3.length c0_3, .slice A0_4 l0_4.length c0_4] 25 (0, 0)) (by (with_reducible repeat (first | refine blk_drewN ?_ _ | refine blk_drew ?_ | refine blk_alloc ?_ _)); exact BK203.out) hb)
         have n1_ := Aside0.mk (below_step (by repeat (first | (with_reducible first | exact HB.out | apply below_alloc | apply pw_below_drewN | apply below_drew1 | refine below_set ?_ GE203.out) | exact HB.out)) hb)
         clear BK203
         clear HB
         have BK203 := n0_
         have HB := n1_
         clear n0_ n1_
         (try clear hb)
         (try clear hb2)
         (try clear hk)
         (try clear hi)
         refine hK.out _ _ ⟨(blk_cell BK203.out 0).trans rfl, (blk_cell BK203.out 1).trans rfl, (blk_cell BK203.out 2).trans rfl, (blk_cell BK203.out 3).trans rfl, (blk_cell BK203.out 4).trans rfl⟩ (fun hHeld => ?_)
         clear hK K
         refine norm_ (a' := ?_) ?_ ?_
         rotate_left
         ·show Act.put _ (some 42) _ = _
          simp only [Act.put, List.setIfInBounds_toArray, List.set_cons_zero, List.set_cons_succ, i64_w, i32_w]
          rfl
         refine one_ (i := 11) (N := some 45) #[true, true, true, true, true, true, true, true, true, true, true, true, false, false, false, false, false, false, false, false, false, false] rfl rfl (one_of HT_.out (by kernel_rfl)) (by decide) (fun K hK => ?_)
         refine goes_ Try.func14 (by kernel_rfl) rfl #[.slice A0_4 l0_4.length c0_4] (by rfl) rfl rfl (by (try simp only [List.map_toArray, List.map_cons, List.map_nil]); first | done | rfl | (simp only [List.length_drop, List.length_take]; rfl)) ?_
         with_reducible refine (capnpref11_Pointers.calls kj2 _ _ l0_4 t212 _ ?side1 ?side2 A37.out).mono ?_
         (case side1 => repeat (first | exact (Kd.C_below HR0_4.out HB.out) | (with_reducible refine Kd.C_alloc ?_ _) | (with_reducible refine Kd.C_drewN ?_ _) | (with_reducible refine Kd.C_drew ?_)))
         (case side2 => exact HC0_4.out)
         rintro e w' ⟨rfl, ⟨nd, rfl⟩⟩
         refine ⟨_, rfl, ?_⟩
         refine hK.out _ _ ⟨(blk_cell BK203.out 0).trans rfl, (blk_cell BK203.out 1).trans rfl, (blk_cell BK203.out 2).trans rfl, (blk_cell BK203.out 3).trans rfl, (blk_cell BK203.out 4).trans rfl⟩ (fun hHeld => ?_)
         clear hK K
         refine norm_ (a' := ?_) ?_ ?_
         rotate_left
         ·show Act.put _ (some 45) _ = _
          simp only [Act.put, List.setIfInBounds_toArray, List.set_cons_zero, List.set_cons_succ, i64_w, i32_w]
          rfl
         refine pure_ (i := 12) (N := some 46) (v := ?_) (a' := ?_) #[true, true, true, true, true, true, true, true, true, true, true, true, true, false, false, false, false, false, false, false, false, false] rfl rfl (any_of HT_.out (by kernel_rfl)) (fun _ _ _ h => h) (Or.inl ⟨by rfl, ?_⟩) ?_ ?_
         rotate_left
         ·intro w'
          go_simp
          with_reducible rfl
         rotate_left
         ·simp only [Act.put, List.setIfInBounds_toArray, List.set_cons_zero, List.set_cons_succ, i64_w, i32_w]
          rfl
         refine pure_ (i := 13) (N := some 47) (v := ?_) (a' := ?_) #[true, true, true, true, true, true, true, true, true, true, true, true, true, true, false, false, false, false, false, false, false, false] rfl rfl (any_of HT_.out (by kernel_rfl)) (fun _ _ _ h => h) (Or.inl ⟨by rfl, ?_⟩) ?_ ?_
         rotate_left
         ·intro w'
          go_simp
          with_reducible rfl
         rotate_left
         ·simp only [Act.put, List.setIfInBounds_toArray, List.set_cons_zero, List.set_cons_succ, i64_w, i32_w]
          rfl
         refine pure_ (i := 14) (N := some 48) (v := ?_) (a' := ?_) #[true, true, true, true, true, true, true, true, true, true, true, true, true, true, true, false, false, false, false, false, false, false] rfl rfl (any_of HT_.out (by kernel_rfl)) (fun _ _ _ h => h) (Or.inl ⟨by rfl, ?_⟩) ?_ ?_
         rotate_left
         ·intro w'
          go_simp
          with_reducible rfl
         rotate_left
         ·simp only [Act.put, List.setIfInBounds_toArray, List.set_cons_zero, List.set_cons_succ, i64_w, i32_w]
          rfl
         refine take_ (i := 15) (N := some 49) (v := ?_) (a' := ?_) #[true, true, true, true, true, true, true, true, true, true, true, true, true, true, true, true, false, false, false, false, false, false] rfl rfl (take_ofW HT_.out HW_.out (by kernel_rfl)) (fun _ _ _ h => h) (Or.inl ⟨by rfl, ?_⟩) hHeld ?_ ?_
         rotate_left
         ·rintro w' ⟨s0, s1, s2, s3, s4⟩
          go_simp
          with_reducible rfl
         rotate_left
         ·simp only [Act.put, List.setIfInBounds_toArray, List.set_cons_zero, List.set_cons_succ, i64_w, i32_w]
          rfl
         refine take_ (i := 17) (N := some 51) (v := ?_) (a' := ?_) #[true, true, true, true, true, true, true, true, true, true, true, true, true, true, true, true, false, true, false, false, false, false] rfl rfl (take_ofW HT_.out HW_.out (by kernel_rfl)) (fun _ _ _ h => h) (Or.inl ⟨by rfl, ?_⟩) hHeld ?_ ?_
         rotate_left
         ·rintro w' ⟨s0, s1, s2, s3, s4⟩
          go_simp
          with_reducible rfl
         rotate_left
         ·simp only [Act.put, List.setIfInBounds_toArray, List.set_cons_zero, List.set_cons_succ, i64_w, i32_w]
          rfl
         refine one_ (i := 16) (N := some 50) #[true, true, true, true, true, true, true, true, true, true, true, true, true, true, true, true, true, true, false, false, false, false] rfl rfl (one_of HT_.out (by kernel_rfl)) (by decide) (fun K hK => ?_)
         refine goes_ Try.func16 (by kernel_rfl) rfl #[.agg #[.int .i64 a0_0, .int .i64 a0_1, .int .i64 a0_2, .slice A0_3 l0_3.length c0_3, .slice A0_4 l0_4.length c0_4]] (by rfl) rfl rfl (by (try simp only [List.map_toArray, List.map_cons, List.map_nil]); first | done | rfl | (simp only [List.length_drop, List.length_take]; rfl)) ?_
         with_reducible refine (trim_Trim.calls kj2 a0_0 a0_1 a0_2 (fun k_ => k_ < w.heap.size) _ _ l0_3 (fun k_ => k_ < w.heap.size) _ _ l0_4 t213 t214 t215 t216 t219 _ ?side1 ?side2 A39.out).mono ?_
         (case side1 => exact Kd.V_mk HC0_3.out (Kd.F_below (Kd.C_F (Kd.heap_int .u8) HR0_3.out) (by repeat (first | (with_reducible first | exact HB.out | apply below_alloc | apply pw_below_drewN | apply below_drew1 | refine below_set ?_ GE203.out) | exact HB.out))))
         (case side2 => exact Kd.V_mk HC0_4.out (Kd.F_below (Kd.C_F k25_heap HR0_4.out) (by repeat (first | (with_reducible first | exact HB.out | apply below_alloc | apply pw_below_drewN | apply below_drew1 | refine below_set ?_ GE203.out) | exact HB.out))))
         rintro e w44 ⟨v217, v220, rfl, ho0, ho1, hb⟩
         refine ⟨_, rfl, ?_⟩
         have n0_ := Aside0.mk (Kd.R_lower (Kd.R_mono (ok' := fun k_ => True) ho0 (fun _ hk_ => trivial)) (below_size (by repeat (first | (with_reducible first | exact HB.out | apply below_alloc | apply pw_below_drewN | apply below_drew1 | refine below_set ?_ GE203.out) | exact HB.out))))
         have n1_ := Aside0.mk (Kd.R_lower (Kd.R_newB (Kd.R_mono (ok' := fun k_ => some k_ ≠ (v217 : Value).ownBlock) ho1 (fun _ hk_ => hk_.2)) (g := gb203) (o := .cells #[.int .i64 a0_0, .int .i64 a0_1, .int .i64 a0_2, .slice A0_3 l0_3.length c0_3, .slice A0_4 l0_4.length c0_4] 25 (0, 0)) (by (with_reducible repeat (first | refine blk_drewN ?_ _ | refine blk_drew ?_ | refine blk_alloc ?_ _)); exact BK203.out)) (below_size (by repeat (first | (with_reducible first | exact HB.out | apply below_alloc | apply pw_below_drewN | apply below_drew1 | refine below_set ?_ GE203.out) | exact HB.out))))
         have n2_ := Aside0.mk (blk_below (g := gb203) (o := .cells #[.int .i64 a0_0, .int .i64 a0_1, .int .i64 a0_2, .slice A0_3 l0_3.length c0_3, .slice A0_4 l0_4.length c0_4] 25 (0, 0)) (by (with_reducible repeat (first | refine blk_drewN ?_ _ | refine blk_drew ?_ | refine blk_alloc ?_ _)); exact BK203.out) hb)
         have n3_ := Aside0.mk (below_step (by repeat (first | (with_reducible first | exact HB.out | apply below_alloc | apply pw_below_drewN | apply below_drew1 | refine below_set ?_ GE203.out) | exact HB.out)) hb)
         clear BK203
         clear HB
         have HO218 := n0_
         have HO221 := n1_
         have BK203 := n2_
         have HB := n3_
         clear n0_ n1_ n2_ n3_
         (try clear hb)
         (try clear hb2)
         (try clear hk)
         (try clear hi)
         (try clear ho0)
         (try clear ho1)
         refine hK.out _ _ ⟨(blk_cell BK203.out 0).trans rfl, (blk_cell BK203.out 1).trans rfl, (blk_cell BK203.out 2).trans rfl, (blk_cell BK203.out 3).trans rfl, (blk_cell BK203.out 4).trans rfl⟩ (fun hHeld => ?_)
         clear hK K
         refine norm_ (a' := ?_) ?_ ?_
         rotate_left
         ·show Act.put _ (some 50) _ = _
          simp only [Act.put, List.setIfInBounds_toArray, List.set_cons_zero, List.set_cons_succ, i64_w, i32_w]
          rfl
         refine one_ (i := 18) (N := some 52) #[true, true, true, true, true, true, true, true, true, true, true, true, true, true, true, true, true, true, true, false, false, false] rfl rfl (one_of HT_.out (by kernel_rfl)) (by decide) (fun K hK => ?_)
         refine goes_ Try.func17 (by kernel_rfl) rfl #[.agg #[.int .i64 a0_0, .int .i64 a0_1, .int .i64 a0_2, .slice A0_3 l0_3.length c0_3, .slice A0_4 l0_4.length c0_4]] (by rfl) rfl rfl (by (try simp only [List.map_toArray, List.map_cons, List.map_nil]); first | done | rfl | (simp only [List.length_drop, List.length_take]; rfl)) ?_
         with_reducible refine (capnpref11_Trim.calls kj2 a0_0 a0_1 a0_2 _ _ l0_3 _ _ l0_4 t222 t223 t224 t225 t228 _ ?side1 ?side2 ?side3 ?side4 A40.out).mono ?_
         (case side1 => repeat (first | exact (Kd.C_below HR0_3.out HB.out) | (with_reducible refine Kd.C_alloc ?_ _) | (with_reducible refine Kd.C_drewN ?_ _) | (with_reducible refine Kd.C_drew ?_)))
         (case side2 => exact HC0_3.out)
         (case side3 => repeat (first | exact (Kd.C_below HR0_4.out HB.out) | (with_reducible refine Kd.C_alloc ?_ _) | (with_reducible refine Kd.C_drewN ?_ _) | (with_reducible refine Kd.C_drew ?_)))
         (case side4 => exact HC0_4.out)
         rintro e w45 ⟨v226, v229, rfl, ho0, ho1, hb⟩
         refine ⟨_, rfl, ?_⟩
         have n0_ := Aside0.mk (Kd.R_elder' (by (with_reducible repeat (first | apply Kd.R_alloc | apply Kd.R_drewN | apply Kd.R_drew)); exact HO218.out) (Kd.R_base ho0) hb)
         have n1_ := Aside0.mk (Kd.R_mono (Kd.R_told (Kd.R_told (Kd.R_old (by (with_reducible repeat (first | apply Kd.R_alloc | apply Kd.R_drewN | apply Kd.R_drew)); exact HO221.out) hb) (Kd.R_base ho0)) (Kd.R_base ho1)) (fun _ h_ => h_.1))
         have n2_ := Aside0.mk (Kd.R_lower (Kd.R_new' ho0 (Kd.R_lt (by (with_reducible repeat (first | apply Kd.R_alloc | apply Kd.R_drewN | apply Kd.R_drew)); exact HO218.out))) (below_size (by repeat (first | (with_reducible first | exact HB.out | apply below_alloc | apply pw_below_drewN | apply below_drew1 | refine below_set ?_ GE203.out) | exact HB.out))))
         have n3_ := Aside0.mk (Kd.R_lower (Kd.R_newB (Kd.R_new' (Kd.R_new' ho1 (Kd.R_lt (by (with_reducible repeat (first | apply Kd.R_alloc | apply Kd.R_drewN | apply Kd.R_drew)); exact HO218.out))) (Kd.R_lt (by (with_reducible repeat (first | apply Kd.R_alloc | apply Kd.R_drewN | apply Kd.R_drew)); exact HO221.out))) (g := gb203) (o := .cells #[.int .i64 a0_0, .int .i64 a0_1, .int .i64 a0_2, .slice A0_3 l0_3.length c0_3, .slice A0_4 l0_4.length c0_4] 25 (0, 0)) (by (with_reducible repeat (first | refine blk_drewN ?_ _ | refine blk_drew ?_ | refine blk_alloc ?_ _)); exact BK203.out)) (below_size (by repeat (first | (with_reducible first | exact HB.out | apply below_alloc | apply pw_below_drewN | apply below_drew1 | refine below_set ?_ GE203.out) | exact HB.out))))
         have n4_ := Aside0.mk (blk_below (g := gb203) (o := .cells #[.int .i64 a0_0, .int .i64 a0_1, .int .i64 a0_2, .slice A0_3 l0_3.length c0_3, .slice A0_4 l0_4.length c0_4] 25 (0, 0)) (by (with_reducible repeat (first | refine blk_drewN ?_ _ | refine blk_drew ?_ | refine blk_alloc ?_ _)); exact BK203.out) hb)
         have n5_ := Aside0.mk (below_step (by repeat (first | (with_reducible first | exact HB.out | apply below_alloc | apply pw_below_drewN | apply below_drew1 | refine below_set ?_ GE203.out) | exact HB.out)) hb)
         clear HO218
         clear HO221
         clear BK203
         clear HB
         have HO218 := n0_
         have HO221 := n1_
         have HO227 := n2_
         have HO230 := n3_
         have BK203 := n4_
         have HB := n5_
         clear n0_ n1_ n2_ n3_ n4_ n5_
         (try clear hb)
         (try clear hb2)
         (try clear hk)
         (try clear hi)
         (try clear ho0)
         (try clear ho1)
         obtain ⟨Ao46, co46, eo46⟩ := Kd.R_slice HO218.out
         (first | subst eo46 | (injection eo46 with f1_ f2_ f3_; have f4_ := f1_.symm; have f5_ := f3_.symm; clear f1_ f2_ f3_; subst f4_; subst f5_))
         obtain ⟨Ao47, co47, eo47⟩ := Kd.R_slice HO221.out
         (first | subst eo47 | (injection eo47 with f1_ f2_ f3_; have f4_ := f1_.symm; have f5_ := f3_.symm; clear f1_ f2_ f3_; subst f4_; subst f5_))
         obtain ⟨Ao48, co48, eo48⟩ := Kd.R_slice HO227.out
         (first | subst eo48 | (injection eo48 with f1_ f2_ f3_; have f4_ := f1_.symm; have f5_ := f3_.symm; clear f1_ f2_ f3_; subst f4_; subst f5_))
         obtain ⟨Ao49, co49, eo49⟩ := Kd.R_slice HO230.out
         (first | subst eo49 | (injection eo49 with f1_ f2_ f3_; have f4_ := f1_.symm; have f5_ := f3_.symm; clear f1_ f2_ f3_; subst f4_; subst f5_))
         refine hK.out _ _ ⟨(blk_cell BK203.out 0).trans rfl, (blk_cell BK203.out 1).trans rfl, (blk_cell BK203.out 2).trans rfl, (blk_cell BK203.out 3).trans rfl, (blk_cell BK203.out 4).trans rfl⟩ (fun hHeld => ?_)
         clear hK K
         refine norm_ (a' := ?_) ?_ ?_
         rotate_left
         ·show Act.put _ (some 52) _ = _
          simp only [Act.put, List.setIfInBounds_toArray, List.set_cons_zero, List.set_cons_succ, i64_w, i32_w]
          rfl
         refine one_ (i := 19) (N := some 53) #[true, true, true, true, true, true, true, true, true, true, true, true, true, true, true, true, true, true, true, true, false, false] rfl rfl (one_of HT_.out (by kernel_rfl)) (by decide) (fun K hK => ?_)
         refine goes_ Try.func15 (by kernel_rfl) rfl #[.agg #[.int .i64 t213, .int .i64 t214, .int .i64 t215, .slice Ao46 t216.length co46, .slice Ao47 t219.length co47], .agg #[.int .i64 t222, .int .i64 t223, .int .i64 t224, .slice Ao48 t225.length co48, .slice Ao49 t228.length co49]] (by rfl) rfl rfl (by (try simp only [List.map_toArray, List.map_cons, List.map_nil]); first | done | rfl | (simp only [List.length_drop, List.length_take]; rfl)) ?_
         with_reducible refine (capnpref10_Equal.calls kj2 t213 t214 t215 _ _ t216 _ _ t219 t222 t223 t224 _ _ t225 _ _ t228 t231 _ ?side1 ?side2 ?side3 ?side4 ?side5 ?side6 ?side7 ?side8 A41.out).mono ?_
         (case side1 => repeat (first | exact (Kd.R_reads' HO218.out).2.2 | (with_reducible refine Kd.C_alloc ?_ _) | (with_reducible refine Kd.C_drewN ?_ _) | (with_reducible refine Kd.C_drew ?_)))
         (case side2 => exact (Kd.R_reads' HO218.out).2.1)
         (case side3 => repeat (first | exact (Kd.R_reads' HO221.out).2.2 | (with_reducible refine Kd.C_alloc ?_ _) | (with_reducible refine Kd.C_drewN ?_ _) | (with_reducible refine Kd.C_drew ?_)))
         (case side4 => exact (Kd.R_reads' HO221.out).2.1)
         (case side5 => repeat (first | exact (Kd.R_reads' HO227.out).2.2 | (with_reducible refine Kd.C_alloc ?_ _) | (with_reducible refine Kd.C_drewN ?_ _) | (with_reducible refine Kd.C_drew ?_)))
         (case side6 => exact (Kd.R_reads' HO227.out).2.1)
         (case side7 => repeat (first | exact (Kd.R_reads' HO230.out).2.2 | (with_reducible refine Kd.C_alloc ?_ _) | (with_reducible refine Kd.C_drewN ?_ _) | (with_reducible refine Kd.C_drew ?_)))
         (case side8 => exact (Kd.R_reads' HO230.out).2.1)
         rintro e w50 ⟨rfl, hb⟩
         refine ⟨_, rfl, ?_⟩
         have n0_ := Aside0.mk (Kd.R_below (by (with_reducible repeat (first | apply Kd.R_alloc | apply Kd.R_drewN | apply Kd.R_drew)); exact HO218.out) hb)
         have n1_ := Aside0.mk (Kd.R_below (by (with_reducible repeat (first | apply Kd.R_alloc | apply Kd.R_drewN | apply Kd.R_drew)); exact HO221.out) hb)
         have n2_ := Aside0.mk (Kd.R_below (by (with_reducible repeat (first | apply Kd.R_alloc | apply Kd.R_drewN | apply Kd.R_drew)); exact HO227.out) hb)
         have n3_ := Aside0.mk (Kd.R_below (by (with_reducible repeat (first | apply Kd.R_alloc | apply Kd.R_drewN | apply Kd.R_drew)); exact HO230.out) hb)
         have n4_ := Aside0.mk (blk_below (g := gb203) (o := .cells #[.int .i64 a0_0, .int .i64 a0_1, .int .i64 a0_2, .slice A0_3 l0_3.length c0_3, .slice A0_4 l0_4.length c0_4] 25 (0, 0)) (by (with_reducible repeat (first | refine blk_drewN ?_ _ | refine blk_drew ?_ | refine blk_alloc ?_ _)); exact BK203.out) hb)
         have n5_ := Aside0.mk (below_step (by repeat (first | (with_reducible first | exact HB.out | apply below_alloc | apply pw_below_drewN | apply below_drew1 | refine below_set ?_ GE203.out) | exact HB.out)) hb)
         clear HO218
         clear HO221
         clear HO227
         clear HO230
         clear BK203
         clear HB
         have HO218 := n0_
         have HO221 := n1_
         have HO227 := n2_
         have HO230 := n3_
         have BK203 := n4_
         have HB := n5_
         clear n0_ n1_ n2_ n3_ n4_ n5_
         (try clear hb)
         (try clear hb2)
         (try clear hk)
         (try clear hi)
         refine hK.out _ _ ⟨(blk_cell BK203.out 0).trans rfl, (blk_cell BK203.out 1).trans rfl, (blk_cell BK203.out 2).trans rfl, (blk_cell BK203.out 3).trans rfl, (blk_cell BK203.out 4).trans rfl⟩ (fun hHeld => ?_)
         clear hK K
         refine norm_ (a' := ?_) ?_ ?_
         rotate_left
         ·show Act.put _ (some 53) _ = _
          simp only [Act.put, List.setIfInBounds_toArray, List.set_cons_zero, List.set_cons_succ, i64_w, i32_w]
          rfl
         refine pure_ (i := 20) (N := some 54) (v := ?_) (a' := ?_) #[true, true, true, true, true, true, true, true, true, true, true, true, true, true, true, true, true, true, true, true, true, false] rfl rfl (any_of HT_.out (by kernel_rfl)) (fun _ _ _ h => h) (Or.inl ⟨by rfl, ?_⟩) ?_ ?_
         rotate_left
         ·intro w'
          go_simp
          with_reducible rfl
         rotate_left
         ·simp only [Act.put, List.setIfInBounds_toArray, List.set_cons_zero, List.set_cons_succ, i64_w, i32_w]
          rfl
         refine pure_ (i := 21) (N := some 55) (v := ?_) (a' := ?_) #[true, true, true, true, true, true, true, true, true, true, true, true, true, true, true, true, true, true, true, true, true, true] rfl rfl (any_of HT_.out (by kernel_rfl)) (fun _ _ _ h => h) (Or.inl ⟨by rfl, ?_⟩) ?_ ?_
         rotate_left
         ·intro w'
          go_simp
          with_reducible rfl
         rotate_left
         ·simp only [Act.put, List.setIfInBounds_toArray, List.set_cons_zero, List.set_cons_succ, i64_w, i32_w]
          rfl
         refine done_ (done_of HT_.out (by kernel_rfl)) ?_
         try go_wp2
         go_meet
         case rel => exact ⟨_, (!t231), (by first | rfl | (simp; done) | (simp [*]; done)), H', ⟨by have := HJ2.out; first | omega | exact Nat.le_refl _⟩, ⟨by (with_reducible repeat (first | refine blk_drewN ?_ _ | refine blk_drew ?_ | refine blk_alloc ?_ _)); exact BK203.out⟩, ⟨by repeat (first | (with_reducible first | exact HB.out | apply below_alloc | apply pw_below_drewN | apply below_drew1 | refine below_set ?_ GE203.out) | exact HB.out)⟩⟩
        ·rw [if_neg c38] at H
         have c38b0 : (t211 == t212) = false := beq_eq_false_iff_ne.mpr c38
         have c38b1 : (t211 != t212) = true := bne_iff_ne.mpr c38
         have H' := Aside0.mk H
         clear H
         try go_wp2
         have n0_ := Aside0.mk (blk_drew BK203.out)
         have n1_ := Aside0.mk (below_drew1 HB.out)
         clear BK203
         clear HB
         have BK203 := n0_
         have HB := n1_
         clear n0_ n1_
         refine start_ (n := 22) (S := fun w' => w'.cell? ⟨gb203, 0, none⟩ = some (.int .i64 a0_0) ∧ w'.cell? ⟨gb203, 1, none⟩ = some (.int .i64 a0_1) ∧ w'.cell? ⟨gb203, 2, none⟩ = some (.int .i64 a0_2) ∧ w'.cell? ⟨gb203, 3, none⟩ = some (.slice A0_3 l0_3.length c0_3) ∧ w'.cell? ⟨gb203, 4, none⟩ = some (.slice A0_4 l0_4.length c0_4)) (ds := []) #[false, false, false, false, false, false, false, false, false, false, false, false, false, false, false, false, false, false, false, false, false, false] (by kernel_rfl) rfl rfl ⟨(blk_cell BK203.out 0).trans rfl, (blk_cell BK203.out 1).trans rfl, (blk_cell BK203.out 2).trans rfl, (blk_cell BK203.out 3).trans rfl, (blk_cell BK203.out 4).trans rfl⟩ (fun hHeld => ?_); refine with_tabW capnplaw11_TrimMatchesReference.tab4 capnplaw11_TrimMatchesReference.bits4 (fun HT_ HW_ => ?_)
         generalize wc.drew = w51 at BK203 HB hHeld ⊢
         refine pure_ (i := 0) (N := some 34) (v := ?_) (a' := ?_) #[true, false, false, false, false, false, false, false, false, false, false, false, false, false, false, false, false, false, false, false, false, false] rfl rfl (any_of HT_.out (by kernel_rfl)) (fun _ _ _ h => h) (Or.inl ⟨by rfl, ?_⟩) ?_ ?_
         rotate_left
         ·intro w'
          go_simp
          with_reducible rfl
         rotate_left
         ·simp only [Act.put, List.setIfInBounds_toArray, List.set_cons_zero, List.set_cons_succ, i64_w, i32_w]
          rfl
         refine pure_ (i := 2) (N := some 36) (v := ?_) (a' := ?_) #[true, false, true, false, false, false, false, false, false, false, false, false, false, false, false, false, false, false, false, false, false, false] rfl rfl (any_of HT_.out (by kernel_rfl)) (fun _ _ _ h => h) (Or.inl ⟨by rfl, ?_⟩) ?_ ?_
         rotate_left
         ·intro w'
          go_simp
          with_reducible rfl
         rotate_left
         ·simp only [Act.put, List.setIfInBounds_toArray, List.set_cons_zero, List.set_cons_succ, i64_w, i32_w]
          rfl
         refine one_ (i := 1) (N := some 35) #[true, true, true, false, false, false, false, false, false, false, false, false, false, false, false, false, false, false, false, false, false, false] rfl rfl (one_of HT_.out (by kernel_rfl)) (by decide) (fun K hK => ?_)
         refine goes_ Try.func11 (by kernel_rfl) rfl #[.slice A1 (l1.take ((ji28) : Int).toNat).length c1] (by rfl) rfl rfl (by (try simp only [List.map_toArray, List.map_cons, List.map_nil]); first | done | (rw [show (l1.take ((ji28) : Int).toNat).length = (ji28).toNat from (by rw [List.length_take]; have h_ : ((ji28) : Int) ≤ (l1.length : Int) := of_decide_eq_true (by first | (with_reducible assumption) | assumption); omega)] <;> rfl) | (simp only [hji28]; rfl) | rfl | (simp only [List.length_drop, List.length_take]; rfl)) ?_
         with_reducible refine (trim_Words.calls _ _ (l1.take ((ji28) : Int).toNat) t209 _ ?side1 ?side2 A33.out).mono ?_
         (case side1 => repeat (first | exact (Kd.C_below HR208.out HB.out) | (with_reducible refine Kd.C_alloc ?_ _) | (with_reducible refine Kd.C_drewN ?_ _) | (with_reducible refine Kd.C_drew ?_)))
         (case side2 => exact HC208.out)
         rintro e w' ⟨rfl, ⟨nd, rfl⟩⟩
         refine ⟨_, rfl, ?_⟩
         refine hK.out _ _ ⟨(blk_cell BK203.out 0).trans rfl, (blk_cell BK203.out 1).trans rfl, (blk_cell BK203.out 2).trans rfl, (blk_cell BK203.out 3).trans rfl, (blk_cell BK203.out 4).trans rfl⟩ (fun hHeld => ?_)
         clear hK K
         refine norm_ (a' := ?_) ?_ ?_
         rotate_left
         ·show Act.put _ (some 35) _ = _
          simp only [Act.put, List.setIfInBounds_toArray, List.set_cons_zero, List.set_cons_succ, i64_w, i32_w]
          rfl
         refine one_ (i := 3) (N := some 37) #[true, true, true, true, false, false, false, false, false, false, false, false, false, false, false, false, false, false, false, false, false, false] rfl rfl (one_of HT_.out (by kernel_rfl)) (by decide) (fun K hK => ?_)
         refine goes_ Try.func12 (by kernel_rfl) rfl #[.slice A1 (l1.take ((ji28) : Int).toNat).length c1] (by rfl) rfl rfl (by (try simp only [List.map_toArray, List.map_cons, List.map_nil]); first | done | (rw [show (l1.take ((ji28) : Int).toNat).length = (ji28).toNat from (by rw [List.length_take]; have h_ : ((ji28) : Int) ≤ (l1.length : Int) := of_decide_eq_true (by first | (with_reducible assumption) | assumption); omega)] <;> rfl) | (simp only [hji28]; rfl) | rfl | (simp only [List.length_drop, List.length_take]; rfl)) ?_
         with_reducible refine (capnpref11_Words.calls kj2 _ _ (l1.take ((ji28) : Int).toNat) t210 _ ?side1 ?side2 A34.out).mono ?_
         (case side1 => repeat (first | exact (Kd.C_below HR208.out (by repeat (first | (with_reducible first | exact HB.out | apply below_alloc | apply pw_below_drewN | apply below_drew1 | refine below_set ?_ GE203.out) | exact HB.out))) | (with_reducible refine Kd.C_alloc ?_ _) | (with_reducible refine Kd.C_drewN ?_ _) | (with_reducible refine Kd.C_drew ?_)))
         (case side2 => exact HC208.out)
         rintro e w' ⟨rfl, ⟨nd, rfl⟩⟩
         refine ⟨_, rfl, ?_⟩
         refine hK.out _ _ ⟨(blk_cell BK203.out 0).trans rfl, (blk_cell BK203.out 1).trans rfl, (blk_cell BK203.out 2).trans rfl, (blk_cell BK203.out 3).trans rfl, (blk_cell BK203.out 4).trans rfl⟩ (fun hHeld => ?_)
         clear hK K
         refine norm_ (a' := ?_) ?_ ?_
         rotate_left
         ·show Act.put _ (some 37) _ = _
          simp only [Act.put, List.setIfInBounds_toArray, List.set_cons_zero, List.set_cons_succ, i64_w, i32_w]
          rfl
         refine pure_ (i := 4) (N := some 38) (v := ?_) (a' := ?_) #[true, true, true, true, true, false, false, false, false, false, false, false, false, false, false, false, false, false, false, false, false, false] rfl rfl (any_of HT_.out (by kernel_rfl)) (fun _ _ _ h => h) (Or.inl ⟨by rfl, ?_⟩) ?_ ?_
         rotate_left
         ·intro w'
          go_simp
          with_reducible rfl
         rotate_left
         ·simp only [Act.put, List.setIfInBounds_toArray, List.set_cons_zero, List.set_cons_succ, i64_w, i32_w]
          rfl
         refine pure_ (i := 5) (N := some 39) (v := ?_) (a' := ?_) #[true, true, true, true, true, true, false, false, false, false, false, false, false, false, false, false, false, false, false, false, false, false] rfl rfl (any_of HT_.out (by kernel_rfl)) (fun _ _ _ h => h) (Or.inl ⟨by rfl, ?_⟩) ?_ ?_
         rotate_left
         ·intro w'
          go_simp
          with_reducible rfl
         rotate_left
         ·simp only [Act.put, List.setIfInBounds_toArray, List.set_cons_zero, List.set_cons_succ, i64_w, i32_w]
          rfl
         refine pure_ (i := 6) (N := some 40) (v := ?_) (a' := ?_) #[true, true, true, true, true, true, true, false, false, false, false, false, false, false, false, false, false, false, false, false, false, false] rfl rfl (any_of HT_.out (by kernel_rfl)) (fun _ _ _ h => h) (Or.inl ⟨by rfl, ?_⟩) ?_ ?_
         rotate_left
         ·intro w'
          go_simp
          with_reducible rfl
         rotate_left
         ·simp only [Act.put, List.setIfInBounds_toArray, List.set_cons_zero, List.set_cons_succ, i64_w, i32_w]
          rfl
         refine pure_ (i := 9) (N := some 43) (v := ?_) (a' := ?_) #[true, true, true, true, true, true, true, false, false, true, false, false, false, false, false, false, false, false, false, false, false, false] rfl rfl (any_of HT_.out (by kernel_rfl)) (fun _ _ _ h => h) (Or.inl ⟨by rfl, ?_⟩) ?_ ?_
         rotate_left
         ·intro w'
          go_simp
          with_reducible rfl
         rotate_left
         ·simp only [Act.put, List.setIfInBounds_toArray, List.set_cons_zero, List.set_cons_succ, i64_w, i32_w]
          rfl
         refine take_ (i := 7) (N := some 41) (v := ?_) (a' := ?_) #[true, true, true, true, true, true, true, true, false, true, false, false, false, false, false, false, false, false, false, false, false, false] rfl rfl (take_ofW HT_.out HW_.out (by kernel_rfl)) (fun _ _ _ h => h) (Or.inl ⟨by rfl, ?_⟩) hHeld ?_ ?_
         rotate_left
         ·rintro w' ⟨s0, s1, s2, s3, s4⟩
          go_simp
          with_reducible rfl
         rotate_left
         ·simp only [Act.put, List.setIfInBounds_toArray, List.set_cons_zero, List.set_cons_succ, i64_w, i32_w]
          rfl
         refine take_ (i := 10) (N := some 44) (v := ?_) (a' := ?_) #[true, true, true, true, true, true, true, true, false, true, true, false, false, false, false, false, false, false, false, false, false, false] rfl rfl (take_ofW HT_.out HW_.out (by kernel_rfl)) (fun _ _ _ h => h) (Or.inl ⟨by rfl, ?_⟩) hHeld ?_ ?_
         rotate_left
         ·rintro w' ⟨s0, s1, s2, s3, s4⟩
          go_simp
          with_reducible rfl
         rotate_left
         ·simp only [Act.put, List.setIfInBounds_toArray, List.set_cons_zero, List.set_cons_succ, i64_w, i32_w]
          rfl
         refine one_ (i := 8) (N := some 42) #[true, true, true, true, true, true, true, true, true, true, true, false, false, false, false, false, false, false, false, false, false, false] rfl rfl (one_of HT_.out (by kernel_rfl)) (by decide) (fun K hK => ?_)
         refine goes_ Try.func13 (by kernel_rfl) rfl #[.slice A0_4 l0_4.length c0_4] (by rfl) rfl rfl (by (try simp only [List.map_toArray, List.map_cons, List.map_nil]); first | done | rfl | (simp only [List.length_drop, List.length_take]; rfl)) ?_
         with_reducible refine (trim_Pointers.calls _ _ l0_4 t211 _ ?side1 ?side2 A36.out).mono ?_
         (case side1 => repeat (first | exact (Kd.C_below HR0_4.out (by repeat (first | (with_reducible first | exact HB.out | apply below_alloc | apply pw_below_drewN | apply below_drew1 | refine below_set ?_ GE203.out) | exact HB.out))) | (with_reducible refine Kd.C_alloc ?_ _) | (with_reducible refine Kd.C_drewN ?_ _) | (with_reducible refine Kd.C_drew ?_)))
         (case side2 => exact HC0_4.out)
         rintro e w52 ⟨rfl, hb⟩
         refine ⟨_, rfl, ?_⟩
         have n0_ := Aside0.mk (blk_below (g := gb203) (o := .cells #[.int .i64 a0_0, .int .i64 a0_1, .int .i64 a0_2, .slice A0_3 l0_3.length c0_3, .slice A0_4 l0_4.length c0_4] 25 (0, 0)) (by (with_reducible repeat (first | refine blk_drewN ?_ _ | refine blk_drew ?_ | refine blk_alloc ?_ _)); exact BK203.out) hb)
         have n1_ := Aside0.mk (below_step (by repeat (first | (with_reducible first | exact HB.out | apply below_alloc | apply pw_below_drewN | apply below_drew1 | refine below_set ?_ GE203.out) | exact HB.out)) hb)
         clear BK203
         clear HB
         have BK203 := n0_
         have HB := n1_
         clear n0_ n1_
         (try clear hb)
         (try clear hb2)
         (try clear hk)
         (try clear hi)
         refine hK.out _ _ ⟨(blk_cell BK203.out 0).trans rfl, (blk_cell BK203.out 1).trans rfl, (blk_cell BK203.out 2).trans rfl, (blk_cell BK203.out 3).trans rfl, (blk_cell BK203.out 4).trans rfl⟩ (fun hHeld => ?_)
         clear hK K
         refine norm_ (a' := ?_) ?_ ?_
         rotate_left
         ·show Act.put _ (some 42) _ = _
          simp only [Act.put, List.setIfInBounds_toArray, List.set_cons_zero, List.set_cons_succ, i64_w, i32_w]
          rfl
         refine one_ (i := 11) (N := some 45) #[true, true, true, true, true, true, true, true, true, true, true, true, false, false, false, false, false, false, false, false, false, false] rfl rfl (one_of HT_.out (by kernel_rfl)) (by decide) (fun K hK => ?_)
         refine goes_ Try.func14 (by kernel_rfl) rfl #[.slice A0_4 l0_4.length c0_4] (by rfl) rfl rfl (by (try simp only [List.map_toArray, List.map_cons, List.map_nil]); first | done | rfl | (simp only [List.length_drop, List.length_take]; rfl)) ?_
         with_reducible refine (capnpref11_Pointers.calls kj2 _ _ l0_4 t212 _ ?side1 ?side2 A37.out).mono ?_
         (case side1 => repeat (first | exact (Kd.C_below HR0_4.out HB.out) | (with_reducible refine Kd.C_alloc ?_ _) | (with_reducible refine Kd.C_drewN ?_ _) | (with_reducible refine Kd.C_drew ?_)))
         (case side2 => exact HC0_4.out)
         rintro e w' ⟨rfl, ⟨nd, rfl⟩⟩
         refine ⟨_, rfl, ?_⟩
         refine hK.out _ _ ⟨(blk_cell BK203.out 0).trans rfl, (blk_cell BK203.out 1).trans rfl, (blk_cell BK203.out 2).trans rfl, (blk_cell BK203.out 3).trans rfl, (blk_cell BK203.out 4).trans rfl⟩ (fun hHeld => ?_)
         clear hK K
         refine norm_ (a' := ?_) ?_ ?_
         rotate_left
         ·show Act.put _ (some 45) _ = _
          simp only [Act.put, List.setIfInBounds_toArray, List.set_cons_zero, List.set_cons_succ, i64_w, i32_w]
          rfl
         refine pure_ (i := 12) (N := some 46) (v := ?_) (a' := ?_) #[true, true, true, true, true, true, true, true, true, true, true, true, true, false, false, false, false, false, false, false, false, false] rfl rfl (any_of HT_.out (by kernel_rfl)) (fun _ _ _ h => h) (Or.inl ⟨by rfl, ?_⟩) ?_ ?_
         rotate_left
         ·intro w'
          go_simp
          with_reducible rfl
         rotate_left
         ·simp only [Act.put, List.setIfInBounds_toArray, List.set_cons_zero, List.set_cons_succ, i64_w, i32_w]
          rfl
         refine pure_ (i := 13) (N := some 47) (v := ?_) (a' := ?_) #[true, true, true, true, true, true, true, true, true, true, true, true, true, true, false, false, false, false, false, false, false, false] rfl rfl (any_of HT_.out (by kernel_rfl)) (fun _ _ _ h => h) (Or.inl ⟨by rfl, ?_⟩) ?_ ?_
         rotate_left
         ·intro w'
          go_simp
          with_reducible rfl
         rotate_left
         ·simp only [Act.put, List.setIfInBounds_toArray, List.set_cons_zero, List.set_cons_succ, i64_w, i32_w]
          rfl
         refine pure_ (i := 14) (N := some 48) (v := ?_) (a' := ?_) #[true, true, true, true, true, true, true, true, true, true, true, true, true, true, true, false, false, false, false, false, false, false] rfl rfl (any_of HT_.out (by kernel_rfl)) (fun _ _ _ h => h) (Or.inl ⟨by rfl, ?_⟩) ?_ ?_
         rotate_left
         ·intro w'
          go_simp
          with_reducible rfl
         rotate_left
         ·simp only [Act.put, List.setIfInBounds_toArray, List.set_cons_zero, List.set_cons_succ, i64_w, i32_w]
          rfl
         refine pure_ (i := 15) (N := some 49) (v := undef) (a' := ?_) #[true, true, true, true, true, true, true, true, true, true, true, true, true, true, true, true, false, false, false, false, false, false] rfl rfl (any_of HT_.out (by kernel_rfl)) (fun _ _ _ h => h) (Or.inr ⟨by rfl, rfl⟩) ?_ ?_
         rotate_left
         ·simp only [Act.put, List.setIfInBounds_toArray, List.set_cons_zero, List.set_cons_succ, i64_w, i32_w]
          rfl
         refine pure_ (i := 16) (N := some 50) (v := undef) (a' := ?_) #[true, true, true, true, true, true, true, true, true, true, true, true, true, true, true, true, true, false, false, false, false, false] rfl rfl (any_of HT_.out (by kernel_rfl)) (fun _ _ _ h => h) (Or.inr ⟨by rfl, rfl⟩) ?_ ?_
         rotate_left
         ·simp only [Act.put, List.setIfInBounds_toArray, List.set_cons_zero, List.set_cons_succ, i64_w, i32_w]
          rfl
         refine pure_ (i := 17) (N := some 51) (v := undef) (a' := ?_) #[true, true, true, true, true, true, true, true, true, true, true, true, true, true, true, true, true, true, false, false, false, false] rfl rfl (any_of HT_.out (by kernel_rfl)) (fun _ _ _ h => h) (Or.inr ⟨by rfl, rfl⟩) ?_ ?_
         rotate_left
         ·simp only [Act.put, List.setIfInBounds_toArray, List.set_cons_zero, List.set_cons_succ, i64_w, i32_w]
          rfl
         refine pure_ (i := 18) (N := some 52) (v := undef) (a' := ?_) #[true, true, true, true, true, true, true, true, true, true, true, true, true, true, true, true, true, true, true, false, false, false] rfl rfl (any_of HT_.out (by kernel_rfl)) (fun _ _ _ h => h) (Or.inr ⟨by rfl, rfl⟩) ?_ ?_
         rotate_left
         ·simp only [Act.put, List.setIfInBounds_toArray, List.set_cons_zero, List.set_cons_succ, i64_w, i32_w]
          rfl
         refine pure_ (i := 19) (N := some 53) (v := undef) (a' := ?_) #[true, true, true, true, true, true, true, true, true, true, true, true, true, true, true, true, true, true, true, true, false, false] rfl rfl (any_of HT_.out (by kernel_rfl)) (fun _ _ _ h => h) (Or.inr ⟨by rfl, rfl⟩) ?_ ?_
         rotate_left
         ·simp only [Act.put, List.setIfInBounds_toArray, List.set_cons_zero, List.set_cons_succ, i64_w, i32_w]
          rfl
         refine pure_ (i := 20) (N := some 54) (v := undef) (a' := ?_) #[true, true, true, true, true, true, true, true, true, true, true, true, true, true, true, true, true, true, true, true, true, false] rfl rfl (any_of HT_.out (by kernel_rfl)) (fun _ _ _ h => h) (Or.inr ⟨by rfl, rfl⟩) ?_ ?_
         rotate_left
         ·simp only [Act.put, List.setIfInBounds_toArray, List.set_cons_zero, List.set_cons_succ, i64_w, i32_w]
          rfl
         refine pure_ (i := 21) (N := some 55) (v := ?_) (a' := ?_) #[true, true, true, true, true, true, true, true, true, true, true, true, true, true, true, true, true, true, true, true, true, true] rfl rfl (any_of HT_.out (by kernel_rfl)) (fun _ _ _ h => h) (Or.inl ⟨by rfl, ?_⟩) ?_ ?_
         rotate_left
         ·intro w'
          go_simp
          with_reducible rfl
         rotate_left
         ·simp only [Act.put, List.setIfInBounds_toArray, List.set_cons_zero, List.set_cons_succ, i64_w, i32_w]
          rfl
         refine done_ (done_of HT_.out (by kernel_rfl)) ?_
         try go_wp2
         go_meet
         case rel => exact ⟨_, (true), (by first | rfl | (simp; done) | (simp [*]; done)), H', ⟨by have := HJ2.out; first | omega | exact Nat.le_refl _⟩, ⟨by (with_reducible repeat (first | refine blk_drewN ?_ _ | refine blk_drew ?_ | refine blk_alloc ?_ _)); exact BK203.out⟩, ⟨by repeat (first | (with_reducible first | exact HB.out | apply below_alloc | apply pw_below_drewN | apply below_drew1 | refine below_set ?_ GE203.out) | exact HB.out)⟩⟩
       ·rw [if_neg c35] at H
        have c35b0 : (t209 == t210) = false := beq_eq_false_iff_ne.mpr c35
        have c35b1 : (t209 != t210) = true := bne_iff_ne.mpr c35
        (first | rw [c35b0] | (simp only [i64_w, i32_w]; rw [c35b0]) | skip)
        have H' := Aside0.mk H
        clear H
        try go_wp2
        have n0_ := Aside0.mk (blk_drew BK203.out)
        have n1_ := Aside0.mk (below_drew1 HB.out)
        clear BK203
        clear HB
        have BK203 := n0_
        have HB := n1_
        clear n0_ n1_
        refine start_ (n := 22) (S := fun w' => True) (ds := []) #[false, false, false, false, false, false, false, false, false, false, false, false, false, false, false, false, false, false, false, false, false, false] (by kernel_rfl) rfl rfl trivial (fun hHeld => ?_); refine with_tabW capnplaw11_TrimMatchesReference.tab4 capnplaw11_TrimMatchesReference.bits4 (fun HT_ HW_ => ?_)
        generalize wc.drew = w53 at BK203 HB hHeld ⊢
        refine pure_ (i := 0) (N := some 34) (v := ?_) (a' := ?_) #[true, false, false, false, false, false, false, false, false, false, false, false, false, false, false, false, false, false, false, false, false, false] rfl rfl (any_of HT_.out (by kernel_rfl)) (fun _ _ _ h => h) (Or.inl ⟨by rfl, ?_⟩) ?_ ?_
        rotate_left
        ·intro w'
         go_simp
         with_reducible rfl
        rotate_left
        ·simp only [Act.put, List.setIfInBounds_toArray, List.set_cons_zero, List.set_cons_succ, i64_w, i32_w]
         rfl
        refine pure_ (i := 2) (N := some 36) (v := ?_) (a' := ?_) #[true, false, true, false, false, false, false, false, false, false, false, false, false, false, false, false, false, false, false, false, false, false] rfl rfl (any_of HT_.out (by kernel_rfl)) (fun _ _ _ h => h) (Or.inl ⟨by rfl, ?_⟩) ?_ ?_
        rotate_left
        ·intro w'
         go_simp
         with_reducible rfl
        rotate_left
        ·simp only [Act.put, List.setIfInBounds_toArray, List.set_cons_zero, List.set_cons_succ, i64_w, i32_w]
         rfl
        refine one_ (i := 1) (N := some 35) #[true, true, true, false, false, false, false, false, false, false, false, false, false, false, false, false, false, false, false, false, false, false] rfl rfl (one_of HT_.out (by kernel_rfl)) (by decide) (fun K hK => ?_)
        refine goes_ Try.func11 (by kernel_rfl) rfl #[.slice A1 (l1.take ((ji28) : Int).toNat).length c1] (by rfl) rfl rfl (by (try simp only [List.map_toArray, List.map_cons, List.map_nil]); first | done | (rw [show (l1.take ((ji28) : Int).toNat).length = (ji28).toNat from (by rw [List.length_take]; have h_ : ((ji28) : Int) ≤ (l1.length : Int) := of_decide_eq_true (by first | (with_reducible assumption) | assumption); omega)] <;> rfl) | (simp only [hji28]; rfl) | rfl | (simp only [List.length_drop, List.length_take]; rfl)) ?_
        with_reducible refine (trim_Words.calls _ _ (l1.take ((ji28) : Int).toNat) t209 _ ?side1 ?side2 A33.out).mono ?_
        (case side1 => repeat (first | exact (Kd.C_below HR208.out HB.out) | (with_reducible refine Kd.C_alloc ?_ _) | (with_reducible refine Kd.C_drewN ?_ _) | (with_reducible refine Kd.C_drew ?_)))
        (case side2 => exact HC208.out)
        rintro e w' ⟨rfl, ⟨nd, rfl⟩⟩
        refine ⟨_, rfl, ?_⟩
        refine hK.out _ _ trivial (fun hHeld => ?_)
        clear hK K
        refine norm_ (a' := ?_) ?_ ?_
        rotate_left
        ·show Act.put _ (some 35) _ = _
         simp only [Act.put, List.setIfInBounds_toArray, List.set_cons_zero, List.set_cons_succ, i64_w, i32_w]
         rfl
        refine one_ (i := 3) (N := some 37) #[true, true, true, true, false, false, false, false, false, false, false, false, false, false, false, false, false, false, false, false, false, false] rfl rfl (one_of HT_.out (by kernel_rfl)) (by decide) (fun K hK => ?_)
        refine goes_ Try.func12 (by kernel_rfl) rfl #[.slice A1 (l1.take ((ji28) : Int).toNat).length c1] (by rfl) rfl rfl (by (try simp only [List.map_toArray, List.map_cons, List.map_nil]); first | done | (rw [show (l1.take ((ji28) : Int).toNat).length = (ji28).toNat from (by rw [List.length_take]; have h_ : ((ji28) : Int) ≤ (l1.length : Int) := of_decide_eq_true (by first | (with_reducible assumption) | assumption); omega)] <;> rfl) | (simp only [hji28]; rfl) | rfl | (simp only [List.length_drop, List.length_take]; rfl)) ?_
        with_reducible refine (capnpref11_Words.calls kj2 _ _ (l1.take ((ji28) : Int).toNat) t210 _ ?side1 ?side2 A34.out).mono ?_
        (case side1 => repeat (first | exact (Kd.C_below HR208.out (by repeat (first | (with_reducible first | exact HB.out | apply below_alloc | apply pw_below_drewN | apply below_drew1 | refine below_set ?_ GE203.out) | exact HB.out))) | (with_reducible refine Kd.C_alloc ?_ _) | (with_reducible refine Kd.C_drewN ?_ _) | (with_reducible refine Kd.C_drew ?_)))
        (case side2 => exact HC208.out)
        rintro e w' ⟨rfl, ⟨nd, rfl⟩⟩
        refine ⟨_, rfl, ?_⟩
        refine hK.out _ _ trivial (fun hHeld => ?_)
        clear hK K
        refine norm_ (a' := ?_) ?_ ?_
        rotate_left
        ·show Act.put _ (some 37) _ = _
         simp only [Act.put, List.setIfInBounds_toArray, List.set_cons_zero, List.set_cons_succ, i64_w, i32_w]
         rfl
        refine pure_ (i := 4) (N := some 38) (v := ?_) (a' := ?_) #[true, true, true, true, true, false, false, false, false, false, false, false, false, false, false, false, false, false, false, false, false, false] rfl rfl (any_of HT_.out (by kernel_rfl)) (fun _ _ _ h => h) (Or.inl ⟨by rfl, ?_⟩) ?_ ?_
        rotate_left
        ·intro w'
         go_simp
         with_reducible rfl
        rotate_left
        ·simp only [Act.put, List.setIfInBounds_toArray, List.set_cons_zero, List.set_cons_succ, i64_w, i32_w]
         rfl
        refine pure_ (i := 5) (N := some 39) (v := ?_) (a' := ?_) #[true, true, true, true, true, true, false, false, false, false, false, false, false, false, false, false, false, false, false, false, false, false] rfl rfl (any_of HT_.out (by kernel_rfl)) (fun _ _ _ h => h) (Or.inl ⟨by rfl, ?_⟩) ?_ ?_
        rotate_left
        ·intro w'
         go_simp
         with_reducible rfl
        rotate_left
        ·simp only [Act.put, List.setIfInBounds_toArray, List.set_cons_zero, List.set_cons_succ, i64_w, i32_w]
         rfl
        refine pure_ (i := 6) (N := some 40) (v := undef) (a' := ?_) #[true, true, true, true, true, true, true, false, false, false, false, false, false, false, false, false, false, false, false, false, false, false] rfl rfl (any_of HT_.out (by kernel_rfl)) (fun _ _ _ h => h) (Or.inr ⟨by rfl, rfl⟩) ?_ ?_
        rotate_left
        ·simp only [Act.put, List.setIfInBounds_toArray, List.set_cons_zero, List.set_cons_succ, i64_w, i32_w]
         rfl
        refine pure_ (i := 7) (N := some 41) (v := undef) (a' := ?_) #[true, true, true, true, true, true, true, true, false, false, false, false, false, false, false, false, false, false, false, false, false, false] rfl rfl (any_of HT_.out (by kernel_rfl)) (fun _ _ _ h => h) (Or.inr ⟨by rfl, rfl⟩) ?_ ?_
        rotate_left
        ·simp only [Act.put, List.setIfInBounds_toArray, List.set_cons_zero, List.set_cons_succ, i64_w, i32_w]
         rfl
        refine pure_ (i := 8) (N := some 42) (v := undef) (a' := ?_) #[true, true, true, true, true, true, true, true, true, false, false, false, false, false, false, false, false, false, false, false, false, false] rfl rfl (any_of HT_.out (by kernel_rfl)) (fun _ _ _ h => h) (Or.inr ⟨by rfl, rfl⟩) ?_ ?_
        rotate_left
        ·simp only [Act.put, List.setIfInBounds_toArray, List.set_cons_zero, List.set_cons_succ, i64_w, i32_w]
         rfl
        refine pure_ (i := 9) (N := some 43) (v := undef) (a' := ?_) #[true, true, true, true, true, true, true, true, true, true, false, false, false, false, false, false, false, false, false, false, false, false] rfl rfl (any_of HT_.out (by kernel_rfl)) (fun _ _ _ h => h) (Or.inr ⟨by rfl, rfl⟩) ?_ ?_
        rotate_left
        ·simp only [Act.put, List.setIfInBounds_toArray, List.set_cons_zero, List.set_cons_succ, i64_w, i32_w]
         rfl
        refine pure_ (i := 10) (N := some 44) (v := undef) (a' := ?_) #[true, true, true, true, true, true, true, true, true, true, true, false, false, false, false, false, false, false, false, false, false, false] rfl rfl (any_of HT_.out (by kernel_rfl)) (fun _ _ _ h => h) (Or.inr ⟨by rfl, rfl⟩) ?_ ?_
        rotate_left
        ·simp only [Act.put, List.setIfInBounds_toArray, List.set_cons_zero, List.set_cons_succ, i64_w, i32_w]
         rfl
        refine pure_ (i := 11) (N := some 45) (v := undef) (a' := ?_) #[true, true, true, true, true, true, true, true, true, true, true, true, false, false, false, false, false, false, false, false, false, false] rfl rfl (any_of HT_.out (by kernel_rfl)) (fun _ _ _ h => h) (Or.inr ⟨by rfl, rfl⟩) ?_ ?_
        rotate_left
        ·simp only [Act.put, List.setIfInBounds_toArray, List.set_cons_zero, List.set_cons_succ, i64_w, i32_w]
         rfl
        refine pure_ (i := 12) (N := some 46) (v := undef) (a' := ?_) #[true, true, true, true, true, true, true, true, true, true, true, true, true, false, false, false, false, false, false, false, false, false] rfl rfl (any_of HT_.out (by kernel_rfl)) (fun _ _ _ h => h) (Or.inr ⟨by rfl, rfl⟩) ?_ ?_
        rotate_left
        ·simp only [Act.put, List.setIfInBounds_toArray, List.set_cons_zero, List.set_cons_succ, i64_w, i32_w]
         rfl
        refine pure_ (i := 13) (N := some 47) (v := ?_) (a' := ?_) #[true, true, true, true, true, true, true, true, true, true, true, true, true, true, false, false, false, false, false, false, false, false] rfl rfl (any_of HT_.out (by kernel_rfl)) (fun _ _ _ h => h) (Or.inl ⟨by rfl, ?_⟩) ?_ ?_
        rotate_left
        ·intro w'
         go_simp
         with_reducible rfl
        rotate_left
        ·simp only [Act.put, List.setIfInBounds_toArray, List.set_cons_zero, List.set_cons_succ, i64_w, i32_w]
         rfl
        refine pure_ (i := 14) (N := some 48) (v := ?_) (a' := ?_) #[true, true, true, true, true, true, true, true, true, true, true, true, true, true, true, false, false, false, false, false, false, false] rfl rfl (any_of HT_.out (by kernel_rfl)) (fun _ _ _ h => h) (Or.inl ⟨by rfl, ?_⟩) ?_ ?_
        rotate_left
        ·intro w'
         go_simp
         with_reducible rfl
        rotate_left
        ·simp only [Act.put, List.setIfInBounds_toArray, List.set_cons_zero, List.set_cons_succ, i64_w, i32_w]
         rfl
        refine pure_ (i := 15) (N := some 49) (v := undef) (a' := ?_) #[true, true, true, true, true, true, true, true, true, true, true, true, true, true, true, true, false, false, false, false, false, false] rfl rfl (any_of HT_.out (by kernel_rfl)) (fun _ _ _ h => h) (Or.inr ⟨by rfl, rfl⟩) ?_ ?_
        rotate_left
        ·simp only [Act.put, List.setIfInBounds_toArray, List.set_cons_zero, List.set_cons_succ, i64_w, i32_w]
         rfl
        refine pure_ (i := 16) (N := some 50) (v := undef) (a' := ?_) #[true, true, true, true, true, true, true, true, true, true, true, true, true, true, true, true, true, false, false, false, false, false] rfl rfl (any_of HT_.out (by kernel_rfl)) (fun _ _ _ h => h) (Or.inr ⟨by rfl, rfl⟩) ?_ ?_
        rotate_left
        ·simp only [Act.put, List.setIfInBounds_toArray, List.set_cons_zero, List.set_cons_succ, i64_w, i32_w]
         rfl
        refine pure_ (i := 17) (N := some 51) (v := undef) (a' := ?_) #[true, true, true, true, true, true, true, true, true, true, true, true, true, true, true, true, true, true, false, false, false, false] rfl rfl (any_of HT_.out (by kernel_rfl)) (fun _ _ _ h => h) (Or.inr ⟨by rfl, rfl⟩) ?_ ?_
        rotate_left
        ·simp only [Act.put, List.setIfInBounds_toArray, List.set_cons_zero, List.set_cons_succ, i64_w, i32_w]
         rfl
        refine pure_ (i := 18) (N := some 52) (v := undef) (a' := ?_) #[true, true, true, true, true, true, true, true, true, true, true, true, true, true, true, true, true, true, true, false, false, false] rfl rfl (any_of HT_.out (by kernel_rfl)) (fun _ _ _ h => h) (Or.inr ⟨by rfl, rfl⟩) ?_ ?_
        rotate_left
        ·simp only [Act.put, List.setIfInBounds_toArray, List.set_cons_zero, List.set_cons_succ, i64_w, i32_w]
         rfl
        refine pure_ (i := 19) (N := some 53) (v := undef) (a' := ?_) #[true, true, true, true, true, true, true, true, true, true, true, true, true, true, true, true, true, true, true, true, false, false] rfl rfl (any_of HT_.out (by kernel_rfl)) (fun _ _ _ h => h) (Or.inr ⟨by rfl, rfl⟩) ?_ ?_
        rotate_left
        ·simp only [Act.put, List.setIfInBounds_toArray, List.set_cons_zero, List.set_cons_succ, i64_w, i32_w]
         rfl
        refine pure_ (i := 20) (N := some 54) (v := undef) (a' := ?_) #[true, true, true, true, true, true, true, true, true, true, true, true, true, true, true, true, true, true, true, true, true, false] rfl rfl (any_of HT_.out (by kernel_rfl)) (fun _ _ _ h => h) (Or.inr ⟨by rfl, rfl⟩) ?_ ?_
        rotate_left
        ·simp only [Act.put, List.setIfInBounds_toArray, List.set_cons_zero, List.set_cons_succ, i64_w, i32_w]
         rfl
        refine pure_ (i := 21) (N := some 55) (v := ?_) (a' := ?_) #[true, true, true, true, true, true, true, true, true, true, true, true, true, true, true, true, true, true, true, true, true, true] rfl rfl (any_of HT_.out (by kernel_rfl)) (fun _ _ _ h => h) (Or.inl ⟨by rfl, ?_⟩) ?_ ?_
        rotate_left
        ·intro w'
         go_simp
         with_reducible rfl
        rotate_left
        ·simp only [Act.put, List.setIfInBounds_toArray, List.set_cons_zero, List.set_cons_succ, i64_w, i32_w]
         rfl
        refine done_ (done_of HT_.out (by kernel_rfl)) ?_
        try go_wp2
        go_meet
        case rel => exact ⟨_, (true), (by first | rfl | (simp; done) | (simp [*]; done)), H', ⟨by have := HJ2.out; first | omega | exact Nat.le_refl _⟩, ⟨by (with_reducible repeat (first | refine blk_drewN ?_ _ | refine blk_drew ?_ | refine blk_alloc ?_ _)); exact BK203.out⟩, ⟨by repeat (first | (with_reducible first | exact HB.out | apply below_alloc | apply pw_below_drewN | apply below_drew1 | refine below_set ?_ GE203.out) | exact HB.out)⟩⟩
      case rest =>
       clear HC31
       try clear c1
       try clear p2
       try clear c3
       try clear c11
       try clear c12
       try clear c13
       try clear c14
       try clear c15
       try clear c16
       try clear c17
       try clear c35
       try clear c35b0
       try clear c35b1
       try clear c38
       try clear c38b0
       try clear c38b1
       obtain ⟨kq, x55_30, rfl, HA, HJ30, BK203, HB⟩ := hcut
       cases kq with
       | zero => exact absurd HA.out (by simp [capnplaw11_TrimMatchesReference.j1])
       | succ kj30 =>
        have H := HA.out
        clear HA
        simp only [capnplaw11_TrimMatchesReference.j1] at H
        by_cases c54 : x55_30 = true
        ·subst c54
         have H1 : (none) = some r := by rw [if_pos rfl] at H; exact H
         clear H
         have H := H1
         clear H1
         exact absurd H (by simp)
        ·replace c54 := Bool.eq_false_iff.mpr c54
         subst c54
         have H1 : (if a0_0 = 2 then (capnplaw11_TrimMatchesReference.j2 kj30 (a0_1 != 7) a0_0 a0_1 a0_2 l0_3 l0_4) else (capnplaw11_TrimMatchesReference.j2 kj30 true a0_0 a0_1 a0_2 l0_3 l0_4)) = some r := by rw [if_neg (show ¬ (false = true) by decide)] at H; exact H
         clear H
         have H := H1
         clear H1
         have HC55 := Aside0.mk H
         clear H
         go_upto_region 6 with (fail)
         go_cut [63] (fun v63 wc => ∃ (kq : Nat) (x63_54 : Bool), v63 = .bool x63_54 ∧ Aside0 (capnplaw11_TrimMatchesReference.j2 kq x63_54 a0_0 a0_1 a0_2 l0_3 l0_4 = some r) ∧ Aside0 (kq ≤ kj30) ∧ Aside0 (wc.heap[gb203]? = some (.cells #[.int .i64 a0_0, .int .i64 a0_1, .int .i64 a0_2, (.slice A0_3 l0_3.length c0_3), (.slice A0_4 l0_4.length c0_4)] 25 (0, 0))) ∧ Aside0 (Below w.heap.size w wc))
         case first =>
          have H := HC55.out
          clear HC55
          by_cases c56 : a0_0 = 2
          ·rw [if_pos c56] at H
           have c56b0 : (a0_0 == 2) = true := beq_iff_eq.mpr c56
           have c56b1 : (a0_0 != 2) = false := bne_eq_false_iff_eq.mpr c56
           clear c56
           (first | rw [c56b0] | (simp only [i64_w, i32_w]; rw [c56b0]) | skip)
           have H' := Aside0.mk H
           clear H
           have hcz57_0 : wc.cell? ⟨gb203, 0, none⟩ = some (.int .i64 a0_0) := (blk_cell BK203.out 0).trans rfl
           have hcz57_1 : wc.cell? ⟨gb203, 1, none⟩ = some (.int .i64 a0_1) := (blk_cell BK203.out 1).trans rfl
           have hcz57_2 : wc.cell? ⟨gb203, 2, none⟩ = some (.int .i64 a0_2) := (blk_cell BK203.out 2).trans rfl
           have hcz57_3 : wc.cell? ⟨gb203, 3, none⟩ = some (.slice A0_3 l0_3.length c0_3) := (blk_cell BK203.out 3).trans rfl
           have hcz57_4 : wc.cell? ⟨gb203, 4, none⟩ = some (.slice A0_4 l0_4.length c0_4) := (blk_cell BK203.out 4).trans rfl
           have hfz57_0 := blk_frozen BK203.out 0
           have hfz57_1 := blk_frozen BK203.out 1
           have hfz57_2 := blk_frozen BK203.out 2
           have hfz57_3 := blk_frozen BK203.out 3
           have hfz57_4 := blk_frozen BK203.out 4
           go_wp2
           go_meet
           case rel => exact ⟨_, ((a0_1 != 7)), (by first | rfl | (simp; done) | (simp [*]; done)), H', ⟨by have := HJ2.out; have := HJ30.out; first | omega | exact Nat.le_refl _⟩, ⟨by (with_reducible repeat (first | refine blk_drewN ?_ _ | refine blk_drew ?_ | refine blk_alloc ?_ _)); exact BK203.out⟩, ⟨by repeat (first | (with_reducible first | exact HB.out | apply below_alloc | apply pw_below_drewN | apply below_drew1 | refine below_set ?_ GE203.out) | exact HB.out)⟩⟩
          ·rw [if_neg c56] at H
           have c56b0 : (a0_0 == 2) = false := beq_eq_false_iff_ne.mpr c56
           have c56b1 : (a0_0 != 2) = true := bne_iff_ne.mpr c56
           (first | rw [c56b0] | (simp only [i64_w, i32_w]; rw [c56b0]) | skip)
           have H' := Aside0.mk H
           clear H
           have hcz58_0 : wc.cell? ⟨gb203, 0, none⟩ = some (.int .i64 a0_0) := (blk_cell BK203.out 0).trans rfl
           have hcz58_1 : wc.cell? ⟨gb203, 1, none⟩ = some (.int .i64 a0_1) := (blk_cell BK203.out 1).trans rfl
           have hcz58_2 : wc.cell? ⟨gb203, 2, none⟩ = some (.int .i64 a0_2) := (blk_cell BK203.out 2).trans rfl
           have hcz58_3 : wc.cell? ⟨gb203, 3, none⟩ = some (.slice A0_3 l0_3.length c0_3) := (blk_cell BK203.out 3).trans rfl
           have hcz58_4 : wc.cell? ⟨gb203, 4, none⟩ = some (.slice A0_4 l0_4.length c0_4) := (blk_cell BK203.out 4).trans rfl
           have hfz58_0 := blk_frozen BK203.out 0
           have hfz58_1 := blk_frozen BK203.out 1
           have hfz58_2 := blk_frozen BK203.out 2
           have hfz58_3 := blk_frozen BK203.out 3
           have hfz58_4 := blk_frozen BK203.out 4
           go_wp2
           go_meet
           case rel => exact ⟨_, (true), (by first | rfl | (simp; done) | (simp [*]; done)), H', ⟨by have := HJ2.out; have := HJ30.out; first | omega | exact Nat.le_refl _⟩, ⟨by (with_reducible repeat (first | refine blk_drewN ?_ _ | refine blk_drew ?_ | refine blk_alloc ?_ _)); exact BK203.out⟩, ⟨by repeat (first | (with_reducible first | exact HB.out | apply below_alloc | apply pw_below_drewN | apply below_drew1 | refine below_set ?_ GE203.out) | exact HB.out)⟩⟩
         case rest =>
          clear HC55
          try clear c1
          try clear p2
          try clear c3
          try clear c5
          try clear c11
          try clear c12
          try clear c13
          try clear c14
          try clear c15
          try clear c16
          try clear c17
          try clear c35
          try clear c35b0
          try clear c35b1
          try clear c38
          try clear c38b0
          try clear c38b1
          try clear c54
          try clear c56
          try clear c56b0
          try clear c56b1
          try clear hcz57_0
          try clear hcz57_1
          try clear hcz57_2
          try clear hcz57_3
          try clear hcz57_4
          try clear hcz58_0
          try clear hcz58_1
          try clear hcz58_2
          try clear hcz58_3
          try clear hcz58_4
          try clear hfz57_0
          try clear hfz57_1
          try clear hfz57_2
          try clear hfz57_3
          try clear hfz57_4
          try clear hfz58_0
          try clear hfz58_1
          try clear hfz58_2
          try clear hfz58_3
          try clear hfz58_4
          try clear p2
          obtain ⟨kq, x63_54, rfl, HA, HJ54, BK203, HB⟩ := hcut
          cases kq with
          | zero => exact absurd HA.out (by simp [capnplaw11_TrimMatchesReference.j2])
          | succ kj54 =>
           have H := HA.out
           clear HA
           simp only [capnplaw11_TrimMatchesReference.j2] at H
           by_cases c59 : x63_54 = true
           ·subst c59
            have H1 : (some true) = some r := by rw [if_pos rfl] at H; exact H
            clear H
            have H := H1
            clear H1
            obtain rfl := Option.some.inj H
            go_wp2
            go_ret
            exact ⟨by first | rfl | (simp [errW_none, errW_some] <;> rfl) | (simp only [← hji28]; first | rfl | (simp [errW_none, errW_some] <;> rfl)) | (simp [*, errW_none, errW_some] <;> rfl), by repeat (first | (with_reducible first | exact HB.out | apply below_alloc | apply pw_below_drewN | apply below_drew1 | refine below_set ?_ GE203.out) | exact HB.out)⟩
           ·replace c59 := Bool.eq_false_iff.mpr c59
            subst c59
            have H1 : ((trim_Uniform.f kj54 a0_0 a0_1 a0_2 l0_3 l0_4).bind fun bt232 => ((capnpref11_Uniform.f kj54 a0_0 a0_1 a0_2 l0_3 l0_4).bind fun bt234 => (if bt232.1 = bt234.1 then (some (bt232.2 == bt234.2)) else (none)))) = some r := by rw [if_neg (show ¬ (false = true) by decide)] at H; exact H
            clear H
            have H := H1
            clear H1
            replace H := Option.bind_eq_some_iff.mp H
            obtain ⟨⟨t232, t233⟩, A600, H⟩ := H
            replace H : ((capnpref11_Uniform.f kj54 a0_0 a0_1 a0_2 l0_3 l0_4).bind fun bt234 => (if t232 = bt234.1 then (some (t233 == bt234.2)) else (none))) = some r := H
            have A60 := Aside0.mk A600
            clear A600
            replace H := Option.bind_eq_some_iff.mp H
            obtain ⟨⟨t234, t235⟩, A610, H⟩ := H
            replace H : (if t232 = t234 then (some (t233 == t235)) else (none)) = some r := H
            have A61 := Aside0.mk A610
            clear A610
            by_cases c62 : t232 = t234
            ·rw [if_pos c62] at H
             have c62b0 : (t232 == t234) = true := beq_iff_eq.mpr c62
             have c62b1 : (t232 != t234) = false := bne_eq_false_iff_eq.mpr c62
             clear c62
             obtain rfl := Option.some.inj H
             have hcz63_0 : wc.cell? ⟨gb203, 0, none⟩ = some (.int .i64 a0_0) := (blk_cell BK203.out 0).trans rfl
             have hcz63_1 : wc.cell? ⟨gb203, 1, none⟩ = some (.int .i64 a0_1) := (blk_cell BK203.out 1).trans rfl
             have hcz63_2 : wc.cell? ⟨gb203, 2, none⟩ = some (.int .i64 a0_2) := (blk_cell BK203.out 2).trans rfl
             have hcz63_3 : wc.cell? ⟨gb203, 3, none⟩ = some (.slice A0_3 l0_3.length c0_3) := (blk_cell BK203.out 3).trans rfl
             have hcz63_4 : wc.cell? ⟨gb203, 4, none⟩ = some (.slice A0_4 l0_4.length c0_4) := (blk_cell BK203.out 4).trans rfl
             have hfz63_0 := blk_frozen BK203.out 0
             have hfz63_1 := blk_frozen BK203.out 1
             have hfz63_2 := blk_frozen BK203.out 2
             have hfz63_3 := blk_frozen BK203.out 3
             have hfz63_4 := blk_frozen BK203.out 4
             go_wp2_with (first | ((with_reducible refine gate_callee (f := 18) rfl ?_); refine goesL_ (some 66) rfl rfl Try.func18 (by kernel_rfl) rfl #[.agg #[.int .i64 a0_0, .int .i64 a0_1, .int .i64 a0_2, .slice A0_3 l0_3.length c0_3, .slice A0_4 l0_4.length c0_4]] rfl (by (try simp only [List.map_toArray, List.map_cons, List.map_nil]); first | done | rfl | (simp only [List.length_drop, List.length_take]; rfl)) ?_; (with_reducible refine (trim_Uniform.calls kj54 a0_0 a0_1 a0_2 _ _ l0_3 _ _ l0_4 t232 t233 _ ?side1 ?side2 ?side3 ?side4 A60.out).mono ?_); (case side1 => repeat (first | exact (Kd.C_below HR0_3.out HB.out) | (with_reducible refine Kd.C_alloc ?_ _) | (with_reducible refine Kd.C_drewN ?_ _) | (with_reducible refine Kd.C_drew ?_))); (case side2 => exact HC0_3.out); (case side3 => repeat (first | exact (Kd.C_below HR0_4.out HB.out) | (with_reducible refine Kd.C_alloc ?_ _) | (with_reducible refine Kd.C_drewN ?_ _) | (with_reducible refine Kd.C_drew ?_))); (case side4 => exact HC0_4.out); rintro e w64 ⟨rfl, hb⟩; refine ⟨_, rfl, ?_⟩; have n0_ := Aside0.mk (blk_below (g := gb203) (o := .cells #[.int .i64 a0_0, .int .i64 a0_1, .int .i64 a0_2, .slice A0_3 l0_3.length c0_3, .slice A0_4 l0_4.length c0_4] 25 (0, 0)) (by (with_reducible repeat (first | refine blk_drewN ?_ _ | refine blk_drew ?_ | refine blk_alloc ?_ _)); exact BK203.out) hb); have n1_ := Aside0.mk (below_step (by repeat (first | (with_reducible first | exact HB.out | apply below_alloc | apply pw_below_drewN | apply below_drew1 | refine below_set ?_ GE203.out) | exact HB.out)) hb); clear BK203; clear HB; have BK203 := n0_; have HB := n1_; clear n0_ n1_; (try clear hb); (try clear hb2); (try clear hk); (try clear hi); have hcz65_0 : w64.cell? ⟨gb203, 0, none⟩ = some (.int .i64 a0_0) := (blk_cell BK203.out 0).trans rfl; have hcz65_1 : w64.cell? ⟨gb203, 1, none⟩ = some (.int .i64 a0_1) := (blk_cell BK203.out 1).trans rfl; have hcz65_2 : w64.cell? ⟨gb203, 2, none⟩ = some (.int .i64 a0_2) := (blk_cell BK203.out 2).trans rfl; have hcz65_3 : w64.cell? ⟨gb203, 3, none⟩ = some (.slice A0_3 l0_3.length c0_3) := (blk_cell BK203.out 3).trans rfl; have hcz65_4 : w64.cell? ⟨gb203, 4, none⟩ = some (.slice A0_4 l0_4.length c0_4) := (blk_cell BK203.out 4).trans rfl; have hfz65_0 := blk_frozen BK203.out 0; have hfz65_1 := blk_frozen BK203.out 1; have hfz65_2 := blk_frozen BK203.out 2; have hfz65_3 := blk_frozen BK203.out 3; have hfz65_4 := blk_frozen BK203.out 4) | ((with_reducible refine gate_callee (f := 19) rfl ?_); refine goesL_ (some 71) rfl rfl Try.func19 (by kernel_rfl) rfl #[.agg #[.int .i64 a0_0, .int .i64 a0_1, .int .i64 a0_2, .slice A0_3 l0_3.length c0_3, .slice A0_4 l0_4.length c0_4]] rfl (by (try simp only [List.map_toArray, List.map_cons, List.map_nil]); first | done | rfl | (simp only [List.length_drop, List.length_take]; rfl)) ?_; (with_reducible refine (capnpref11_Uniform.calls kj54 a0_0 a0_1 a0_2 _ _ l0_3 _ _ l0_4 t234 t235 _ ?side1 ?side2 ?side3 ?side4 A61.out).mono ?_); (case side1 => repeat (first | exact (Kd.C_below HR0_3.out HB.out) | (with_reducible refine Kd.C_alloc ?_ _) | (with_reducible refine Kd.C_drewN ?_ _) | (with_reducible refine Kd.C_drew ?_))); (case side2 => exact HC0_3.out); (case side3 => repeat (first | exact (Kd.C_below HR0_4.out HB.out) | (with_reducible refine Kd.C_alloc ?_ _) | (with_reducible refine Kd.C_drewN ?_ _) | (with_reducible refine Kd.C_drew ?_))); (case side4 => exact HC0_4.out); rintro e w66 ⟨rfl, hb⟩; refine ⟨_, rfl, ?_⟩; have n0_ := Aside0.mk (blk_below (g := gb203) (o := .cells #[.int .i64 a0_0, .int .i64 a0_1, .int .i64 a0_2, .slice A0_3 l0_3.length c0_3, .slice A0_4 l0_4.length c0_4] 25 (0, 0)) (by (with_reducible repeat (first | refine blk_drewN ?_ _ | refine blk_drew ?_ | refine blk_alloc ?_ _)); exact BK203.out) hb); have n1_ := Aside0.mk (below_step (by repeat (first | (with_reducible first | exact HB.out | apply below_alloc | apply pw_below_drewN | apply below_drew1 | refine below_set ?_ GE203.out) | exact HB.out)) hb); clear BK203; clear HB; have BK203 := n0_; have HB := n1_; clear n0_ n1_; (try clear hb); (try clear hb2); (try clear hk); (try clear hi)))
             go_ret
             exact ⟨by first | rfl | (simp [errW_none, errW_some] <;> rfl) | (simp only [← hji28]; first | rfl | (simp [errW_none, errW_some] <;> rfl)) | (simp [*, errW_none, errW_some] <;> rfl), by repeat (first | (with_reducible first | exact HB.out | apply below_alloc | apply pw_below_drewN | apply below_drew1 | refine below_set ?_ GE203.out) | exact HB.out)⟩
            ·rw [if_neg c62] at H
             exact absurd H (by simp)
     ·rw [if_neg c30] at H
      exact absurd H (by simp)
    ·rw [if_neg c29] at H
     exact absurd H (by simp)
end Go.Proofs.Ytmbockhcmhghlaa.Pr
end
section
namespace Go.Proofs.Ytmbockhcmhghlaa.Pr
open Go.RowKit Go.Proofs.YtmbockhcmhghlaaW.PrintWords Go.Proofs.YtmbockhcmhghlaaW.PrintLast Go.Proofs.YtmbockhcmhghlaaW.PrintMore
set_option linter.unusedVariables false
set_option linter.unusedSimpArgs false
theorem w64 {x : Int} (h0 : -9223372036854775808 ≤ x) (h1 : x ≤ 9223372036854775807) : wrap64 x = x := IntWalk.wrap64_in _ ⟨h0, h1⟩
theorem rd_at (l : List Int) (j : Nat) (h : j < l.length) : rd l (j : Int) = l[j] := by
  unfold rd; simp [List.getD_eq_getElem?_getD, List.getElem?_eq_getElem h]
theorem rdT_at (l : List S25) (j : Nat) (h : j < l.length) : rd_T25 l (j : Int) = l[j] := by
  unfold rd_T25; simp [List.getD_eq_getElem?_getD, List.getElem?_eq_getElem h]
theorem S25.ind {P : S25 → Prop} (h : ∀ a : S25, (∀ x ∈ a.f4, P x) → P a) (a : S25) : P a :=
  S25.rec (motive_1 := P) (motive_2 := fun l => ∀ x ∈ l, P x) (fun k e n d l ih => h ⟨k, e, n, d, l⟩ ih) (fun _ hx => by cases hx) (fun y l hy hl x hx => by
    rcases List.mem_cons.1 hx with rfl | hx
    · exact hy
    · exact hl x hx) a
theorem take_one {α : Type} (l : List α) (j : Nat) (h : j < l.length) : l.take (j + 1) = l.take j ++ [l[j]] := List.take_succ_eq_append_getElem h
theorem S25.same {a b : S25} (h0 : a.f0 = b.f0) (h1 : a.f1 = b.f1) (h2 : a.f2 = b.f2) (h3 : a.f3 = b.f3) (h4 : a.f4 = b.f4) : a = b := by
  cases a; cases b; simp at h0 h1 h2 h3 h4; simp [h0, h1, h2, h3, h4]
inductive AllT (p : S25 → Prop) : S25 → Prop
  | mk {a : S25} (h : p a) (hk : ∀ x ∈ a.f4, AllT p x) : AllT p a
theorem AllT.here {p : S25 → Prop} {a : S25} (h : AllT p a) : p a := by cases h; assumption
theorem AllT.kids {p : S25 → Prop} {a : S25} (h : AllT p a) : ∀ x ∈ a.f4, AllT p x := by cases h; assumption
def okT : S25 → Prop := AllT fun a => ∀ x ∈ a.f3, 0 ≤ x ∧ x ≤ 255
mutual
def tsize : S25 → Nat
  | ⟨_, _, _, d, l⟩ => 1 + d.length + tsizes l
def tsizes : List S25 → Nat
  | [] => 0
  | k :: l => tsize k + tsizes l
end
mutual
def tnest : S25 → Nat
  | ⟨_, _, _, _, l⟩ => tnests l + 1
def tnests : List S25 → Nat
  | [] => 0
  | k :: l => max (tnest k) (tnests l)
end
theorem tsize_eq (a : S25) : tsize a = 1 + a.f3.length + tsizes a.f4 := by cases a; rfl
theorem tnest_eq (a : S25) : tnest a = tnests a.f4 + 1 := by cases a; rfl
theorem tsizes_append : ∀ (l m : List S25), tsizes (l ++ m) = tsizes l + tsizes m
  | [], m => by simp [tsizes]
  | k :: l, m => by simp [tsizes, tsizes_append l m]; omega
theorem tnests_append : ∀ (l m : List S25), tnests (l ++ m) = max (tnests l) (tnests m)
  | [], m => by simp [tnests]
  | k :: l, m => by simp [tnests, tnests_append l m, Nat.max_assoc]
theorem tsizes_take (l : List S25) (j : Nat) (h : j < l.length) : tsizes (l.take (j + 1)) = tsizes (l.take j) + tsize l[j] := by
  rw [take_one l j h, tsizes_append]; simp [tsizes]
theorem tnests_take (l : List S25) (j : Nat) (h : j < l.length) : tnests (l.take (j + 1)) = max (tnests (l.take j)) (tnest l[j]) := by
  rw [take_one l j h, tnests_append]; simp [tnests]
theorem tsizes_le (l : List S25) (j : Nat) : tsizes (l.take j) ≤ tsizes l := by
  have := tsizes_append (l.take j) (l.drop j)
  rw [List.take_append_drop] at this
  omega
theorem length_tsizes : ∀ l : List S25, l.length ≤ tsizes l
  | [] => by simp
  | k :: l => by
    have := length_tsizes l
    have := tsize_eq k
    simp [tsizes]; omega
theorem tsize_mem {l : List S25} {x : S25} (h : x ∈ l) : tsize x ≤ tsizes l := by
  induction l with
  | nil => cases h
  | cons k l ih =>
    simp only [tsizes]
    rcases List.mem_cons.1 h with rfl | h
    · omega
    · have := ih h; omega
theorem tsize_kid {a x : S25} (h : x ∈ a.f4) : tsize x < tsize a := by
  have := tsize_mem h
  have := tsize_eq a
  omega
theorem tnests_bound {l : List S25} {B : Nat} (h : ∀ x ∈ l, tnest x ≤ B) : tnests l ≤ B := by
  induction l with
  | nil => simp [tnests]
  | cons k l ih =>
    simp only [tnests]
    have := h k List.mem_cons_self
    have := ih (fun x hx => h x (List.mem_cons_of_mem _ hx))
    omega
theorem tnest_le (a : S25) : tnest a ≤ tsize a := by
  refine S25.ind (P := fun a => tnest a ≤ tsize a) (fun a ih => ?_) a
  have h1 := tnest_eq a
  have h2 := tsize_eq a
  have h3 : tnests a.f4 ≤ tsizes a.f4 := tnests_bound fun x hx => Nat.le_trans (ih x hx) (tsize_mem hx)
  omega
theorem size_ev (a : S25) : tsize a ≤ 4611686018427387904 → Ev (fun k => capnpref10_Size.f k a.f0 a.f1 a.f2 a.f3 a.f4) (tsize a : Int) := by
  refine S25.ind (P := fun a => tsize a ≤ 4611686018427387904 → Ev (fun k => capnpref10_Size.f k a.f0 a.f1 a.f2 a.f3 a.f4) (tsize a : Int)) (fun a ih hs => ?_) a
  have he := tsize_eq a
  have hl := length_tsizes a.f4
  have loop : ∀ d j : Nat, a.f4.length - j = d → j ≤ a.f4.length → Ev (fun k => capnpref10_Size.l0 k ((1 + a.f3.length + tsizes (a.f4.take j) : Nat) : Int) (j : Int) a.f0 a.f1 a.f2 a.f3 a.f4) (tsize a : Int) := by
    intro d
    induction d with
    | zero =>
      intro j hd hj
      refine Ev.step (f := fun _ => some (tsize a : Int)) (fun k => ?_) (Ev.now _)
      simp only [capnpref10_Size.l0]
      rw [if_neg (by omega), List.take_of_length_le (by omega), he]
    | succ d ihd =>
      intro j hd hj
      have hlt : j < a.f4.length := by omega
      have ht := tsizes_take a.f4 j hlt
      have ht2 := tsizes_le a.f4 (j + 1)
      refine Ev.step (f := fun k => (capnpref10_Size.f k a.f4[j].f0 a.f4[j].f1 a.f4[j].f2 a.f4[j].f3 a.f4[j].f4).bind fun t => capnpref10_Size.l0 k (wrap64 (((1 + a.f3.length + tsizes (a.f4.take j) : Nat) : Int) + t)) (wrap64 ((j : Int) + 1)) a.f0 a.f1 a.f2 a.f3 a.f4) (fun k => ?_) ?_
      · simp only [capnpref10_Size.l0]
        rw [if_pos (by omega), if_pos (by omega), rdT_at _ _ hlt]
      · have hk := tsize_kid (List.getElem_mem hlt : a.f4[j] ∈ a.f4)
        refine Ev.bind (ih _ (List.getElem_mem hlt) (by omega)) ?_
        rw [w64 (by omega) (by omega), w64 (by omega) (by omega)]
        have := ihd (j + 1) (by omega) (by omega)
        rw [ht] at this
        have e1 : ((1 + a.f3.length + (tsizes (a.f4.take j) + tsize a.f4[j]) : Nat) : Int) = ((1 + a.f3.length + tsizes (a.f4.take j) : Nat) : Int) + (tsize a.f4[j] : Int) := by omega
        have e2 : ((j + 1 : Nat) : Int) = (j : Int) + 1 := by omega
        rw [e1, e2] at this
        exact this
  refine Ev.step (f := fun k => capnpref10_Size.l0 k (wrap64 (1 + (a.f3.length : Int))) 0 a.f0 a.f1 a.f2 a.f3 a.f4) (fun k => by simp only [capnpref10_Size.f]) ?_
  rw [w64 (by omega) (by omega)]
  have := loop a.f4.length 0 (by omega) (by omega)
  have e1 : ((1 + a.f3.length + tsizes (a.f4.take 0) : Nat) : Int) = 1 + (a.f3.length : Int) := by simp [tsizes]
  rw [e1] at this
  exact this
theorem mx_max (a b : Int) : mx a b = max a b := by unfold mx; omega
theorem nest_ev (a : S25) : tsize a ≤ 4611686018427387904 → Ev (fun k => capnpref10_Nesting.f k a.f0 a.f1 a.f2 a.f3 a.f4) (tnest a : Int) := by
  refine S25.ind (P := fun a => tsize a ≤ 4611686018427387904 → Ev (fun k => capnpref10_Nesting.f k a.f0 a.f1 a.f2 a.f3 a.f4) (tnest a : Int)) (fun a ih hs => ?_) a
  have he := tsize_eq a
  have hn := tnest_eq a
  have hnl := tnest_le a
  have hl := length_tsizes a.f4
  have loop : ∀ d j : Nat, a.f4.length - j = d → j ≤ a.f4.length → Ev (fun k => capnpref10_Nesting.l0 k (tnests (a.f4.take j) : Int) (j : Int) a.f0 a.f1 a.f2 a.f3 a.f4) (tnest a : Int) := by
    intro d
    induction d with
    | zero =>
      intro j hd hj
      refine Ev.step (f := fun _ => some (tnest a : Int)) (fun k => ?_) (Ev.now _)
      simp only [capnpref10_Nesting.l0]
      rw [if_neg (by omega), List.take_of_length_le (by omega), w64 (by omega) (by omega), hn]
      congr 1
    | succ d ihd =>
      intro j hd hj
      have hlt : j < a.f4.length := by omega
      have ht := tnests_take a.f4 j hlt
      refine Ev.step (f := fun k => (capnpref10_Nesting.f k a.f4[j].f0 a.f4[j].f1 a.f4[j].f2 a.f4[j].f3 a.f4[j].f4).bind fun t => capnpref10_Nesting.l0 k (mx (tnests (a.f4.take j) : Int) t) (wrap64 ((j : Int) + 1)) a.f0 a.f1 a.f2 a.f3 a.f4) (fun k => ?_) ?_
      · simp only [capnpref10_Nesting.l0]
        rw [if_pos (by omega), if_pos (by omega), rdT_at _ _ hlt]
      · have hk := tsize_kid (List.getElem_mem hlt : a.f4[j] ∈ a.f4)
        refine Ev.bind (ih _ (List.getElem_mem hlt) (by omega)) ?_
        rw [mx_max, w64 (by omega) (by omega)]
        have := ihd (j + 1) (by omega) (by omega)
        rw [ht] at this
        have e1 : ((max (tnests (a.f4.take j)) (tnest a.f4[j]) : Nat) : Int) = max (tnests (a.f4.take j) : Int) (tnest a.f4[j] : Int) := by omega
        have e2 : ((j + 1 : Nat) : Int) = (j : Int) + 1 := by omega
        rw [e1, e2] at this
        exact this
  refine Ev.step (f := fun k => capnpref10_Nesting.l0 k 0 0 a.f0 a.f1 a.f2 a.f3 a.f4) (fun k => by simp only [capnpref10_Nesting.f]) ?_
  have := loop a.f4.length 0 (by omega) (by omega)
  have e1 : ((tnests (a.f4.take 0) : Nat) : Int) = 0 := by simp [tnests]
  rw [e1] at this
  exact this
def tfew (a : S25) : Bool := decide (tsize a ≤ 3000) && decide (tnest a ≤ 40)
theorem few_ev (a : S25) (h : tsize a ≤ 4611686018427387904) : Ev (fun k => capnpref10_Few.f k a.f0 a.f1 a.f2 a.f3 a.f4) (tfew a) := by
  unfold capnpref10_Few.f
  refine Ev.bind (size_ev a h) ?_
  unfold tfew
  by_cases h1 : tsize a ≤ 3000
  · refine Ev.congr (f := fun k => (capnpref10_Nesting.f k a.f0 a.f1 a.f2 a.f3 a.f4).bind fun t => some (decide (t ≤ 40))) (fun k => by rw [if_pos (by omega)]) ?_
    refine Ev.bind (nest_ev a h) ?_
    have e : (decide (tsize a ≤ 3000) && decide (tnest a ≤ 40)) = decide ((tnest a : Int) ≤ 40) := by
      rw [decide_eq_true h1, Bool.true_and]; exact decide_eq_decide.2 (by omega)
    rw [e]
    exact Ev.now _
  · refine Ev.congr (f := fun k => some false) (fun k => by rw [if_neg (by omega)]) ?_
    rw [decide_eq_false h1, Bool.false_and]
    exact Ev.now _
theorem take_next {α : Type} {l m : List α} {j : Nat} (hl : j < l.length) (hm : j < m.length) (h : l.take j = m.take j) (e : l[j] = m[j]) : l.take (j + 1) = m.take (j + 1) := by
  rw [take_one l j hl, take_one m j hm, h, e]
theorem same_ev (xs ys : List Int) (h : xs.length ≤ 4611686018427387904) : Ev (fun k => capnpref01_Same.f k xs ys) (decide (xs = ys)) := by
  unfold capnpref01_Same.f
  by_cases hl : xs.length = ys.length
  · refine Ev.congr (f := fun k => capnpref01_Same.l0 k xs ys 0) (fun k => by rw [if_pos (by omega)]) ?_
    have loop : ∀ d j : Nat, xs.length - j = d → j ≤ xs.length → xs.take j = ys.take j → Ev (fun k => capnpref01_Same.l0 k xs ys (j : Int)) (decide (xs = ys)) := by
      intro d
      induction d with
      | zero =>
        intro j hd hj ht
        refine Ev.step (f := fun _ => some (decide (xs = ys))) (fun k => ?_) (Ev.now _)
        simp only [capnpref01_Same.l0]
        rw [if_neg (by omega)]
        rw [List.take_of_length_le (by omega), List.take_of_length_le (by omega)] at ht
        simp [ht]
      | succ d ihd =>
        intro j hd hj ht
        have hlt : j < xs.length := by omega
        by_cases e : xs[j] = ys[j]'(by omega)
        · refine Ev.step (f := fun k => capnpref01_Same.l0 k xs ys (wrap64 ((j : Int) + 1))) (fun k => ?_) ?_
          · simp only [capnpref01_Same.l0]
            rw [if_pos (by omega), if_pos (by omega), if_pos (by omega), rd_at _ _ hlt, rd_at _ _ (by omega), if_pos e]
          · rw [w64 (by omega) (by omega)]
            exact ihd (j + 1) (by omega) (by omega) (take_next hlt (by omega) ht e)
        · have hne : ¬ xs = ys := fun h => e (by subst h; rfl)
          refine Ev.step (f := fun _ => some (decide (xs = ys))) (fun k => ?_) (Ev.now _)
          simp only [capnpref01_Same.l0]
          rw [if_pos (by omega), if_pos (by omega), if_pos (by omega), rd_at _ _ hlt, rd_at _ _ (by omega), if_neg e, decide_eq_false hne]
    exact loop xs.length 0 (by omega) (by omega) rfl
  · have hne : ¬ xs = ys := fun h => hl (by rw [h])
    refine Ev.congr (f := fun _ => some false) (fun k => by rw [if_neg (by omega)]) ?_
    rw [decide_eq_false hne]
    exact Ev.now _
noncomputable def eqT (a b : S25) : Bool := @decide (a = b) (Classical.propDecidable _)
theorem eqT_true {a b : S25} (h : a = b) : eqT a b = true := by unfold eqT; simp [h]
theorem eqT_false {a b : S25} (h : ¬ a = b) : eqT a b = false := by unfold eqT; simp [h]
theorem equal_ev (a : S25) : ∀ b : S25, tsize a ≤ 4611686018427387904 → Ev (fun k => capnpref10_Equal.f k a.f0 a.f1 a.f2 a.f3 a.f4 b.f0 b.f1 b.f2 b.f3 b.f4) (eqT a b) := by
  refine S25.ind (P := fun a => ∀ b : S25, tsize a ≤ 4611686018427387904 → Ev (fun k => capnpref10_Equal.f k a.f0 a.f1 a.f2 a.f3 a.f4 b.f0 b.f1 b.f2 b.f3 b.f4) (eqT a b)) (fun a ih b hs => ?_) a
  have he := tsize_eq a
  have hl := length_tsizes a.f4
  have bad : (¬ a = b) → Ev (fun k => capnpref10_Equal.j0 k true a.f0 a.f1 a.f2 a.f3 a.f4 b.f0 b.f1 b.f2 b.f3 b.f4) (eqT a b) := fun hne => by
    rw [eqT_false hne]
    refine Ev.step (f := fun _ => some false) (fun k => ?_) (Ev.now _)
    simp only [capnpref10_Equal.j0]
    rw [if_pos trivial]
  by_cases h0 : a.f0 = b.f0
  · by_cases h1 : a.f1 = b.f1
    · by_cases h2 : a.f2 = b.f2
      · refine Ev.step (f := fun k => (capnpref01_Same.f k a.f3 b.f3).bind fun t => if t = true then capnpref10_Equal.j0 k ((a.f4.length : Int) != (b.f4.length : Int)) a.f0 a.f1 a.f2 a.f3 a.f4 b.f0 b.f1 b.f2 b.f3 b.f4 else capnpref10_Equal.j0 k true a.f0 a.f1 a.f2 a.f3 a.f4 b.f0 b.f1 b.f2 b.f3 b.f4) (fun k => by simp only [capnpref10_Equal.f]; rw [if_pos h0, if_pos h1, if_pos h2]) ?_
        refine Ev.bind (same_ev a.f3 b.f3 (by omega)) ?_
        by_cases h3 : a.f3 = b.f3
        · refine Ev.congr (f := fun k => capnpref10_Equal.j0 k ((a.f4.length : Int) != (b.f4.length : Int)) a.f0 a.f1 a.f2 a.f3 a.f4 b.f0 b.f1 b.f2 b.f3 b.f4) (fun k => by rw [if_pos (by simp [h3])]) ?_
          by_cases h4 : a.f4.length = b.f4.length
          · have e4 : ((a.f4.length : Int) != (b.f4.length : Int)) = false := by simp [h4]
            rw [e4]
            refine Ev.step (f := fun k => capnpref10_Equal.l0 k 0 a.f0 a.f1 a.f2 a.f3 a.f4 b.f0 b.f1 b.f2 b.f3 b.f4) (fun k => by simp only [capnpref10_Equal.j0]; rw [if_neg (by simp)]) ?_
            have loop : ∀ d j : Nat, a.f4.length - j = d → j ≤ a.f4.length → a.f4.take j = b.f4.take j → Ev (fun k => capnpref10_Equal.l0 k (j : Int) a.f0 a.f1 a.f2 a.f3 a.f4 b.f0 b.f1 b.f2 b.f3 b.f4) (eqT a b) := by
              intro d
              induction d with
              | zero =>
                intro j hd hj ht
                rw [List.take_of_length_le (by omega), List.take_of_length_le (by omega)] at ht
                rw [eqT_true (S25.same h0 h1 h2 h3 ht)]
                refine Ev.step (f := fun _ => some true) (fun k => ?_) (Ev.now _)
                simp only [capnpref10_Equal.l0]
                rw [if_neg (by omega)]
              | succ d ihd =>
                intro j hd hj ht
                have hlt : j < a.f4.length := by omega
                have hlt2 : j < b.f4.length := by omega
                refine Ev.step (f := fun k => (capnpref10_Equal.f k a.f4[j].f0 a.f4[j].f1 a.f4[j].f2 a.f4[j].f3 a.f4[j].f4 b.f4[j].f0 b.f4[j].f1 b.f4[j].f2 b.f4[j].f3 b.f4[j].f4).bind fun t => if t = true then capnpref10_Equal.l0 k (wrap64 ((j : Int) + 1)) a.f0 a.f1 a.f2 a.f3 a.f4 b.f0 b.f1 b.f2 b.f3 b.f4 else some false) (fun k => ?_) ?_
                · simp only [capnpref10_Equal.l0]
                  rw [if_pos (by omega), if_pos (by omega), if_pos (by omega), rdT_at _ _ hlt, rdT_at _ _ hlt2]
                · have hk := tsize_kid (List.getElem_mem hlt : a.f4[j] ∈ a.f4)
                  refine Ev.bind (ih _ (List.getElem_mem hlt) b.f4[j] (by omega)) ?_
                  by_cases e : a.f4[j] = b.f4[j]
                  · rw [w64 (by omega) (by omega)]
                    refine Ev.congr (f := fun k => capnpref10_Equal.l0 k ((j + 1 : Nat) : Int) a.f0 a.f1 a.f2 a.f3 a.f4 b.f0 b.f1 b.f2 b.f3 b.f4) (fun k => by rw [if_pos (eqT_true e)]; rfl) ?_
                    exact ihd (j + 1) (by omega) (by omega) (take_next hlt hlt2 ht e)
                  · have hne : ¬ a = b := fun h => e (by subst h; rfl)
                    rw [eqT_false hne]
                    refine Ev.congr (f := fun k => some false) (fun k => by rw [if_neg (by rw [eqT_false e]; simp)]) (Ev.now _)
            exact loop a.f4.length 0 (by omega) (by omega) rfl
          · have e4 : ((a.f4.length : Int) != (b.f4.length : Int)) = true := by simp; omega
            rw [e4]
            exact bad fun h => h4 (by rw [h])
        · exact Ev.congr (fun k => by rw [if_neg (by simp [h3])]) (bad fun h => h3 (by rw [h]))
      · exact Ev.step (fun k => by simp only [capnpref10_Equal.f]; rw [if_pos h0, if_pos h1, if_neg h2]) (bad fun h => h2 (by rw [h]))
    · exact Ev.step (fun k => by simp only [capnpref10_Equal.f]; rw [if_pos h0, if_neg h1]) (bad fun h => h1 (by rw [h]))
  · exact Ev.step (fun k => by simp only [capnpref10_Equal.f]; rw [if_neg h0]) (bad fun h => h0 (by rw [h]))
end Go.Proofs.Ytmbockhcmhghlaa.Pr
end
section
namespace Go.Proofs.Ytmbockhcmhghlaa.Pr
open Go.RowKit Go.Proofs.YtmbockhcmhghlaaW.PrintWords Go.Proofs.YtmbockhcmhghlaaW.PrintLast Go.Proofs.YtmbockhcmhghlaaW.PrintMore
set_option linter.unusedVariables false
set_option linter.unusedSimpArgs false
def bitsOf (e : Int) : Int := if e = 1 then 1 else if e = 2 then 8 else if e = 3 then 16 else if e = 4 then 32 else if e = 5 then 64 else if e = 6 then 64 else 0
theorem bitsOf_range (e : Int) : 0 ≤ bitsOf e ∧ bitsOf e ≤ 64 := by unfold bitsOf; repeat' split <;> omega
theorem bits_f (e : Int) : capnpref06_Bits.f e = some (bitsOf e) := by
  unfold capnpref06_Bits.f bitsOf
  repeat' split
  all_goals rfl
def bytesOf (e c : Int) : Int := (bitsOf e * c + 7) / 8
theorem bitsOf_mul (e c : Int) (h0 : 0 ≤ c) (h1 : c ≤ 4294967296) : 0 ≤ bitsOf e * c ∧ bitsOf e * c ≤ 274877906944 := by
  obtain ⟨a, b⟩ := bitsOf_range e
  refine ⟨Int.mul_nonneg a h0, ?_⟩
  have := Int.mul_le_mul b h1 h0 (by omega : (0:Int) ≤ 64)
  omega
theorem bytes_f (e c : Int) (h0 : 0 ≤ c) (h1 : c ≤ 4294967296) : capnpref06_Bytes.f e c = some (bytesOf e c) := by
  obtain ⟨a, b⟩ := bitsOf_mul e c h0 h1
  unfold capnpref06_Bytes.f
  rw [bits_f]
  simp only [Option.bind_some]
  unfold bytesOf
  generalize bitsOf e * c = x at *
  rw [w64 (x := x) (by omega) (by omega), Int.tdiv_eq_ediv_of_nonneg a, w64 (x := x / 8) (by omega) (by omega), w64 (x := x / 8 * 8) (by omega) (by omega), w64 (x := x / 8 + 1) (by omega) (by omega)]
  split
  · congr 1; omega
  · congr 1; omega
theorem bytesOf_le (e c : Int) (h0 : 0 ≤ c) (h1 : c ≤ 4294967296) : bytesOf e c ≤ 34359738368 := by
  have := bitsOf_mul e c h0 h1
  unfold bytesOf; omega
def rT (e c : Int) (xs : List Int) (j : Nat) : Int := if e = 1 ∧ c < 8 * j + 8 then xs.getD j 0 % 2 ^ (c - 8 * j).toNat else xs.getD j 0
def rL (e c : Int) (xs : List Int) (k : Nat) : List Int := (List.range k).map (rT e c xs)
theorem rL_succ (e c : Int) (xs : List Int) (k : Nat) : rL e c xs (k + 1) = rL e c xs k ++ [rT e c xs k] := by simp [rL, List.range_succ]
theorem rL_length (e c : Int) (xs : List Int) (k : Nat) : (rL e c xs k).length = k := by simp [rL]
theorem getD_at (xs : List Int) (j : Nat) (h : j < xs.length) : xs.getD j 0 = xs[j] := by simp [List.getD_eq_getElem?_getD, List.getElem?_eq_getElem h]
theorem trim_ev (e c : Int) (h0 : 0 ≤ c) (h1 : c ≤ 4294967296) (xs : List Int) (hx : ∀ x ∈ xs, 0 ≤ x ∧ x ≤ 255) (m : Nat) (hm : (m : Int) = bytesOf e c) (hmx : m ≤ xs.length) :
    Ev (fun k => capnpref06_Trim.f k e c xs) (rL e c xs m) := by
  unfold capnpref06_Trim.f
  have hb := bytesOf_le e c h0 h1
  have hbits := bitsOf_mul e c h0 h1
  have loop : ∀ d j : Nat, m - j = d → j ≤ m → Ev (fun k => capnpref06_Trim.l0 k e c xs (rL e c xs j) (j : Int)) (rL e c xs m) := by
    intro d
    induction d with
    | zero =>
      intro j hd hj
      obtain rfl : j = m := by omega
      refine Ev.step (f := fun _ => some (rL e c xs j)) (fun k => ?_) (Ev.now _)
      simp only [capnpref06_Trim.l0]
      rw [bytes_f e c h0 h1, Option.bind_some, if_neg (by omega)]
    | succ d ihd =>
      intro j hd hj
      have hlt : j < xs.length := by omega
      have hnext := ihd (j + 1) (by omega) (by omega)
      have e2 : ((j + 1 : Nat) : Int) = (j : Int) + 1 := by omega
      rw [rL_succ, e2] at hnext
      have hxr := hx _ (List.getElem_mem hlt)
      have plain : rT e c xs j = xs[j] → Ev (fun k => capnpref06_Trim.j1 k e c xs (rL e c xs j) (j : Int) (xs[j]) false) (rL e c xs m) := fun hp => by
        refine Ev.step (f := fun k => capnpref06_Trim.l0 k e c xs (rL e c xs j ++ [xs[j]]) (wrap64 ((j : Int) + 1))) (fun k => ?_) ?_
        · simp only [capnpref06_Trim.j1]
          rw [if_neg (by simp), if_pos (by rw [rL_length]; omega)]
        · rw [w64 (by omega) (by omega), ← hp]
          exact hnext
      by_cases he : e = 1
      · subst he
        refine Ev.step (f := fun k => capnpref06_Trim.j1 k 1 c xs (rL 1 c xs j) (j : Int) xs[j] (decide (wrap64 (wrap64 (8 * (j : Int)) + 8) > c))) (fun k => ?_) ?_
        · simp only [capnpref06_Trim.l0]
          rw [bytes_f 1 c h0 h1, Option.bind_some, if_pos (by omega), if_pos (by omega), if_pos (by omega), if_pos trivial, rd_at _ _ hlt]
        · rw [w64 (x := 8 * (j : Int)) (by omega) (by omega), w64 (by omega) (by omega)]
          have hcm : 8 * (j : Int) < c := by
            have : bytesOf 1 c = (c + 7) / 8 := by unfold bytesOf; rw [show bitsOf 1 = 1 from rfl, Int.one_mul]
            omega
          by_cases hc : c < 8 * (j : Int) + 8
          · rw [decide_eq_true hc]
            obtain ⟨q, hq⟩ : ∃ q : Nat, c - 8 * (j : Int) = q := ⟨(c - 8 * (j : Int)).toNat, by omega⟩
            have hp : rT 1 c xs j = xs[j] % 2 ^ q := by
              unfold rT
              rw [if_pos ⟨rfl, hc⟩, getD_at _ _ hlt, hq]
              rfl
            rw [hp] at hnext
            refine Ev.step (f := fun k => capnpref06_Trim.l1 k 1 c xs (rL 1 c xs j) (j : Int) xs[j] (wrap64 (c - wrap64 (8 * (j : Int)))) 1 0) (fun k => ?_) ?_
            · simp only [capnpref06_Trim.j1]
              rw [if_pos trivial]
            · rw [w64 (x := 8 * (j : Int)) (by omega) (by omega), w64 (by omega) (by omega), hq]
              have hq7 : q ≤ 7 := by omega
              have pow7 : ∀ i : Nat, i ≤ 7 → (1 : Int) ≤ 2 ^ i ∧ (2 : Int) ^ i ≤ 128 := fun i hi => by
                rcases (by omega : i = 0 ∨ i = 1 ∨ i = 2 ∨ i = 3 ∨ i = 4 ∨ i = 5 ∨ i = 6 ∨ i = 7) with rfl | rfl | rfl | rfl | rfl | rfl | rfl | rfl <;> decide
              have pows : ∀ d i : Nat, q - i = d → i ≤ q → Ev (fun k => capnpref06_Trim.l1 k 1 c xs (rL 1 c xs j) (j : Int) xs[j] (q : Int) (2 ^ i) (i : Int)) (rL 1 c xs m) := by
                intro d
                induction d with
                | zero =>
                  intro i hd hi
                  obtain rfl : i = q := by omega
                  have hp2 := pow7 i hq7
                  refine Ev.step (f := fun k => capnpref06_Trim.l0 k 1 c xs (rL 1 c xs j ++ [Int.tmod (wrap64 xs[j]) (2 ^ i) % 256]) (wrap64 ((j : Int) + 1))) (fun k => ?_) ?_
                  · simp only [capnpref06_Trim.l1]
                    rw [if_neg (by omega), if_neg (by omega), if_pos (by rw [rL_length]; omega)]
                  · rw [w64 (x := xs[j]) (by omega) (by omega), w64 (by omega) (by omega), Int.tmod_eq_emod_of_nonneg hxr.1]
                    have r1 : 0 ≤ xs[j] % 2 ^ i := Int.emod_nonneg _ (by omega)
                    have r2 : xs[j] % 2 ^ i < 2 ^ i := Int.emod_lt_of_pos _ (by omega)
                    rw [Int.emod_eq_of_lt (a := xs[j] % 2 ^ i) (b := 256) r1 (by omega)]
                    exact hnext
                | succ d ihp =>
                  intro i hd hi
                  have hp2 := pow7 i (by omega)
                  refine Ev.step (f := fun k => capnpref06_Trim.l1 k 1 c xs (rL 1 c xs j) (j : Int) xs[j] (q : Int) (wrap64 (2 ^ i * 2)) (wrap64 ((i : Int) + 1))) (fun k => ?_) ?_
                  · simp only [capnpref06_Trim.l1]
                    rw [if_pos (by omega)]
                  · rw [w64 (x := 2 ^ i * 2) (by omega) (by omega), w64 (by omega) (by omega)]
                    have := ihp (i + 1) (by omega) (by omega)
                    rw [Int.pow_succ] at this
                    exact this
              exact pows q 0 (by omega) (by omega)
          · rw [decide_eq_false (by omega)]
            refine plain ?_
            unfold rT
            rw [if_neg (by rintro ⟨_, h⟩; omega), getD_at _ _ hlt]
      · refine Ev.step (f := fun k => capnpref06_Trim.j1 k e c xs (rL e c xs j) (j : Int) xs[j] false) (fun k => ?_) (plain ?_)
        · simp only [capnpref06_Trim.l0]
          rw [bytes_f e c h0 h1, Option.bind_some, if_pos (by omega), if_pos (by omega), if_pos (by omega), if_neg he, rd_at _ _ hlt]
        · unfold rT
          rw [if_neg (by rintro ⟨h, _⟩; exact he h), getD_at _ _ hlt]
  exact loop m 0 (by omega) (by omega)
def topV (k e n : Int) (d : List Int) (m : Nat) : Bool :=
  if k = 0 then (e == 0) && ((n == 0) && (((d.length : Int) == 0) && ((m : Int) == 0)))
  else if k = 1 then (e == 0) && ((n == 0) && (((d.length : Int) % 8 == 0) && (decide ((d.length : Int) ≤ 524280) && decide ((m : Int) ≤ 65535))))
  else if k = 2 then
    if n < 0 ∨ 536870911 < n ∨ e < 0 ∨ 7 < e then false
    else if 6 ≤ e then ((d.length : Int) == 0) && ((m : Int) == n)
    else if ¬ m = 0 ∨ ¬ (d.length : Int) = bytesOf e n then false else decide (rL e n d d.length = d)
  else false
mutual
def tvalid : S25 → Bool
  | ⟨k, e, n, d, l⟩ => tvalids (k == 2 && e == 7) l && topV k e n d l.length
def tvalids (c : Bool) : List S25 → Bool
  | [] => true
  | x :: l => (tvalid x && !(c && x.f0 != 1)) && tvalids c l
end
theorem tvalid_eq (a : S25) : tvalid a = (tvalids (a.f0 == 2 && a.f1 == 7) a.f4 && topV a.f0 a.f1 a.f2 a.f3 a.f4.length) := by cases a; rfl
theorem tvalids_append (c : Bool) : ∀ (l m : List S25), tvalids c (l ++ m) = (tvalids c l && tvalids c m)
  | [], m => by simp [tvalids]
  | k :: l, m => by simp [tvalids, tvalids_append c l m, Bool.and_assoc]
theorem tvalids_take (c : Bool) (l : List S25) (j : Nat) (h : j < l.length) : tvalids c (l.take (j + 1)) = (tvalids c (l.take j) && (tvalid l[j] && !(c && l[j].f0 != 1))) := by
  rw [take_one l j h, tvalids_append]
  simp [tvalids]
theorem tvalids_bad (c : Bool) (l : List S25) (j : Nat) (h : j < l.length) (hb : (tvalid l[j] && !(c && l[j].f0 != 1)) = false) : tvalids c l = false := by
  have h1 := tvalids_append c (l.take (j + 1)) (l.drop (j + 1))
  rw [List.take_append_drop, tvalids_take c l j h, hb] at h1
  simpa using h1
theorem tvalids_all (c : Bool) (l : List S25) : tvalids c l = true ↔ ∀ x ∈ l, tvalid x = true ∧ (c = true → x.f0 = 1) := by
  induction l with
  | nil => simp [tvalids]
  | cons k l ih =>
    simp only [tvalids, Bool.and_eq_true, ih, List.mem_cons, forall_eq_or_imp]
    constructor
    · rintro ⟨⟨a, b⟩, h⟩
      refine ⟨⟨a, fun hc => ?_⟩, h⟩
      subst hc
      simpa using b
    · rintro ⟨⟨a, b⟩, h⟩
      refine ⟨⟨a, ?_⟩, h⟩
      cases c with
      | false => rfl
      | true => simp [b rfl]
theorem valid_ev (a : S25) : okT a → tsize a ≤ 4611686018427387904 → Ev (fun k => capnpref10_Valid.f k a.f0 a.f1 a.f2 a.f3 a.f4) (tvalid a) := by
  refine S25.ind (P := fun a => okT a → tsize a ≤ 4611686018427387904 → Ev (fun k => capnpref10_Valid.f k a.f0 a.f1 a.f2 a.f3 a.f4) (tvalid a)) (fun a ih hok hs => ?_) a
  have he := tsize_eq a
  have hl := length_tsizes a.f4
  have hx := AllT.here hok
  obtain ⟨C, hC⟩ : ∃ C : Bool, (a.f0 == 2 && a.f1 == 7) = C := ⟨_, rfl⟩
  have HV : tvalid a = (tvalids C a.f4 && topV a.f0 a.f1 a.f2 a.f3 a.f4.length) := by rw [tvalid_eq, hC]
  have yes : ∀ k, capnpref10_Valid.j1 (k + 1) true a.f0 a.f1 a.f2 a.f3 a.f4 = some false := fun k => by
    simp only [capnpref10_Valid.j1]; rw [if_pos trivial]
  have top : Ev (fun k => capnpref10_Valid.l0 k (a.f4.length : Int) a.f0 a.f1 a.f2 a.f3 a.f4) (topV a.f0 a.f1 a.f2 a.f3 a.f4.length) := by
    by_cases k0 : a.f0 = 0
    · refine Ev.step (f := fun _ => some (topV a.f0 a.f1 a.f2 a.f3 a.f4.length)) (fun k => ?_) (Ev.now _)
      simp only [capnpref10_Valid.l0]
      rw [if_neg (by omega), if_pos k0]
      unfold topV
      rw [if_pos k0]
      by_cases a1 : a.f1 = 0
      · by_cases a2 : a.f2 = 0
        · by_cases a3 : (a.f3.length : Int) = 0
          · rw [if_pos a1, if_pos a2, if_pos a3, a1, a2, a3]; rfl
          · rw [if_pos a1, if_pos a2, if_neg a3, a1, a2]
            have : ((a.f3.length : Int) == 0) = false := by simpa using a3
            rw [this]; rfl
        · rw [if_pos a1, if_neg a2, a1]
          have : (a.f2 == 0) = false := by simpa using a2
          rw [this]; rfl
      · rw [if_neg a1]
        have : (a.f1 == 0) = false := by simpa using a1
        rw [this]; rfl
    by_cases k1 : a.f0 = 1
    · refine Ev.step (f := fun _ => some (topV a.f0 a.f1 a.f2 a.f3 a.f4.length)) (fun k => ?_) (Ev.now _)
      simp only [capnpref10_Valid.l0]
      rw [if_neg (by omega), if_neg k0, if_pos k1]
      unfold topV
      rw [if_neg k0, if_pos k1]
      by_cases a1 : a.f1 = 0
      · by_cases a2 : a.f2 = 0
        · by_cases a3 : (a.f3.length : Int) % 8 = 0
          · by_cases a4 : (a.f3.length : Int) ≤ 524280
            · rw [if_pos a1, if_pos a2, if_pos a3, if_pos a4, a1, a2, a3, decide_eq_true a4]; rfl
            · rw [if_pos a1, if_pos a2, if_pos a3, if_neg a4, a1, a2, a3, decide_eq_false a4]; rfl
          · rw [if_pos a1, if_pos a2, if_neg a3, a1, a2]
            have : ((a.f3.length : Int) % 8 == 0) = false := by simpa using a3
            rw [this]; rfl
        · rw [if_pos a1, if_neg a2, a1]
          have : (a.f2 == 0) = false := by simpa using a2
          rw [this]; rfl
      · rw [if_neg a1]
        have : (a.f1 == 0) = false := by simpa using a1
        rw [this]; rfl
    by_cases k2 : a.f0 = 2
    · have bad : (a.f2 < 0 ∨ 536870911 < a.f2 ∨ a.f1 < 0 ∨ 7 < a.f1) → topV a.f0 a.f1 a.f2 a.f3 a.f4.length = false := fun h => by
        unfold topV; rw [if_neg k0, if_neg k1, if_pos k2, if_pos h]
      have go : ∀ b : Bool, (b = true → topV a.f0 a.f1 a.f2 a.f3 a.f4.length = false) → (b = false → Ev (fun k => capnpref10_Valid.j1 k false a.f0 a.f1 a.f2 a.f3 a.f4) (topV a.f0 a.f1 a.f2 a.f3 a.f4.length)) → Ev (fun k => capnpref10_Valid.j1 k b a.f0 a.f1 a.f2 a.f3 a.f4) (topV a.f0 a.f1 a.f2 a.f3 a.f4.length) := fun b h1 h2 => by
        cases b with
        | true => rw [h1 rfl]; exact Ev.step yes (Ev.now _)
        | false => exact h2 rfl
      by_cases a1 : a.f2 < 0
      · refine Ev.step (f := fun k => capnpref10_Valid.j1 k true a.f0 a.f1 a.f2 a.f3 a.f4) (fun k => ?_) (go true (fun _ => bad (.inl a1)) (fun h => by cases h))
        simp only [capnpref10_Valid.l0]
        rw [if_neg (by omega), if_neg k0, if_neg k1, if_pos k2, if_pos a1]
      by_cases a2 : 536870911 < a.f2
      · refine Ev.step (f := fun k => capnpref10_Valid.j1 k true a.f0 a.f1 a.f2 a.f3 a.f4) (fun k => ?_) (go true (fun _ => bad (.inr (.inl a2))) (fun h => by cases h))
        simp only [capnpref10_Valid.l0]
        rw [if_neg (by omega), if_neg k0, if_neg k1, if_pos k2, if_neg a1, if_pos a2]
      by_cases a3 : a.f1 < 0
      · refine Ev.step (f := fun k => capnpref10_Valid.j1 k true a.f0 a.f1 a.f2 a.f3 a.f4) (fun k => ?_) (go true (fun _ => bad (.inr (.inr (.inl a3)))) (fun h => by cases h))
        simp only [capnpref10_Valid.l0]
        rw [if_neg (by omega), if_neg k0, if_neg k1, if_pos k2, if_neg a1, if_neg (by omega), if_pos a3]
      refine Ev.step (f := fun k => capnpref10_Valid.j1 k (decide (a.f1 > 7)) a.f0 a.f1 a.f2 a.f3 a.f4) (fun k => ?_) (go _ (fun h => bad (.inr (.inr (.inr (of_decide_eq_true h))))) (fun h => ?_))
      · simp only [capnpref10_Valid.l0]
        rw [if_neg (by omega), if_neg k0, if_neg k1, if_pos k2, if_neg a1, if_neg (by omega), if_neg a3]
      have a4 : a.f1 ≤ 7 := by have := of_decide_eq_false h; omega
      have hT : topV a.f0 a.f1 a.f2 a.f3 a.f4.length = if 6 ≤ a.f1 then ((a.f3.length : Int) == 0) && ((a.f4.length : Int) == a.f2)
          else if ¬ a.f4.length = 0 ∨ ¬ (a.f3.length : Int) = bytesOf a.f1 a.f2 then false else decide (rL a.f1 a.f2 a.f3 a.f3.length = a.f3) := by
        unfold topV; rw [if_neg k0, if_neg k1, if_pos k2, if_neg (by omega)]
      rw [hT]
      by_cases a5 : 6 ≤ a.f1
      · rw [if_pos a5]
        refine Ev.step (f := fun _ => some (((a.f3.length : Int) == 0) && ((a.f4.length : Int) == a.f2))) (fun k => ?_) (Ev.now _)
        simp only [capnpref10_Valid.j1]
        rw [if_neg (by simp), if_pos (by omega)]
        by_cases a6 : (a.f3.length : Int) = 0
        · rw [if_pos a6, a6]; rfl
        · rw [if_neg a6]
          have : ((a.f3.length : Int) == 0) = false := by simpa using a6
          rw [this]; rfl
      · rw [if_neg a5]
        have no2 : (¬ a.f4.length = 0 ∨ ¬ (a.f3.length : Int) = bytesOf a.f1 a.f2) → Ev (fun k => capnpref10_Valid.j2 k true a.f0 a.f1 a.f2 a.f3 a.f4) (if ¬ a.f4.length = 0 ∨ ¬ (a.f3.length : Int) = bytesOf a.f1 a.f2 then false else decide (rL a.f1 a.f2 a.f3 a.f3.length = a.f3)) := fun h => by
          rw [if_pos h]
          refine Ev.step (fun k => ?_) (Ev.now _)
          simp only [capnpref10_Valid.j2]
          rw [if_pos trivial]
        by_cases a6 : a.f4.length = 0
        · refine Ev.step (f := fun k => capnpref10_Valid.j2 k ((a.f3.length : Int) != bytesOf a.f1 a.f2) a.f0 a.f1 a.f2 a.f3 a.f4) (fun k => ?_) ?_
          · simp only [capnpref10_Valid.j1]
            rw [if_neg (by simp), if_neg (by omega), if_pos (by omega), bytes_f _ _ (by omega) (by omega)]
            rfl
          · by_cases a7 : (a.f3.length : Int) = bytesOf a.f1 a.f2
            · have e7 : ((a.f3.length : Int) != bytesOf a.f1 a.f2) = false := by rw [a7]; simp
              rw [e7, if_neg (by rintro (h | h); exact h a6; exact h a7)]
              refine Ev.step (f := fun k => (capnpref06_Trim.f k a.f1 a.f2 a.f3).bind fun t => (capnpref01_Same.f k t a.f3).bind fun u => some u) (fun k => ?_) ?_
              · simp only [capnpref10_Valid.j2]
                rw [if_neg (by simp)]
              · refine Ev.bind (trim_ev a.f1 a.f2 (by omega) (by omega) a.f3 hx a.f3.length a7 (Nat.le_refl _)) ?_
                exact Ev.bind (same_ev _ _ (by rw [rL_length]; omega)) (Ev.now _)
            · have e7 : ((a.f3.length : Int) != bytesOf a.f1 a.f2) = true := by simpa using a7
              rw [e7]
              exact no2 (.inr a7)
        · refine Ev.step (f := fun k => capnpref10_Valid.j2 k true a.f0 a.f1 a.f2 a.f3 a.f4) (fun k => ?_) (no2 (.inl a6))
          simp only [capnpref10_Valid.j1]
          rw [if_neg (by simp), if_neg (by omega), if_neg (by omega)]
    · refine Ev.step (f := fun _ => some (topV a.f0 a.f1 a.f2 a.f3 a.f4.length)) (fun k => ?_) (Ev.now _)
      simp only [capnpref10_Valid.l0]
      rw [if_neg (by omega), if_neg k0, if_neg k1, if_neg k2]
      unfold topV
      rw [if_neg k0, if_neg k1, if_neg k2]
  have loop : ∀ d j : Nat, a.f4.length - j = d → j ≤ a.f4.length → tvalids C (a.f4.take j) = true → Ev (fun k => capnpref10_Valid.l0 k (j : Int) a.f0 a.f1 a.f2 a.f3 a.f4) (tvalid a) := by
    intro d
    induction d with
    | zero =>
      intro j hd hj ht
      obtain rfl : j = a.f4.length := by omega
      rw [List.take_length] at ht
      rw [HV, ht, Bool.true_and]
      exact top
    | succ d ihd =>
      intro j hd hj ht
      have hlt : j < a.f4.length := by omega
      have hmem : a.f4[j] ∈ a.f4 := List.getElem_mem hlt
      have hk := tsize_kid hmem
      have ha := ih _ hmem (AllT.kids hok _ hmem) (by omega)
      have hst := tvalids_take C a.f4 j hlt
      have hbad := tvalids_bad C a.f4 j hlt
      have e2 : wrap64 ((j : Int) + 1) = ((j + 1 : Nat) : Int) := by rw [w64 (by omega) (by omega)]; omega
      refine Ev.step (f := fun k => (capnpref10_Valid.f k a.f4[j].f0 a.f4[j].f1 a.f4[j].f2 a.f4[j].f3 a.f4[j].f4).bind fun t => if t = true then (if a.f0 = 2 then (if a.f1 = 7 then (if a.f4[j].f0 = 1 then capnpref10_Valid.l0 k (wrap64 ((j : Int) + 1)) a.f0 a.f1 a.f2 a.f3 a.f4 else some false) else capnpref10_Valid.l0 k (wrap64 ((j : Int) + 1)) a.f0 a.f1 a.f2 a.f3 a.f4) else capnpref10_Valid.l0 k (wrap64 ((j : Int) + 1)) a.f0 a.f1 a.f2 a.f3 a.f4) else some false) (fun k => ?_) ?_
      · simp only [capnpref10_Valid.l0]
        rw [if_pos (by omega), if_pos (by omega), rdT_at _ _ hlt]
      refine Ev.bind ha ?_
      cases hv : tvalid a.f4[j] with
      | false =>
        rw [HV, hbad (by rw [hv]; rfl), Bool.false_and]
        exact Ev.now _
      | true =>
        have cont : (!(C && a.f4[j].f0 != 1)) = true → Ev (fun k => capnpref10_Valid.l0 k (wrap64 ((j : Int) + 1)) a.f0 a.f1 a.f2 a.f3 a.f4) (tvalid a) := fun hc => by
          rw [e2]
          exact ihd (j + 1) (by omega) (by omega) (by rw [hst, ht, hv, hc]; rfl)
        by_cases b0 : a.f0 = 2
        · by_cases b1 : a.f1 = 7
          · have hCt : C = true := by rw [← hC, b0, b1]; rfl
            by_cases b2 : a.f4[j].f0 = 1
            · exact Ev.congr (fun k => by rw [if_pos rfl, if_pos b0, if_pos b1, if_pos b2]) (cont (by rw [b2]; simp))
            · have hf : tvalid a = false := by
                rw [HV, hbad (by rw [hv, hCt]; simpa using b2), Bool.false_and]
              rw [hf]
              exact Ev.congr (fun k => by rw [if_pos rfl, if_pos b0, if_pos b1, if_neg b2]) (Ev.now _)
          · have hCf : C = false := by rw [← hC, show (a.f1 == 7) = false by simpa using b1, Bool.and_false]
            exact Ev.congr (fun k => by rw [if_pos rfl, if_pos b0, if_neg b1]) (cont (by rw [hCf]; rfl))
        · have hCf : C = false := by rw [← hC, show (a.f0 == 2) = false by simpa using b0, Bool.false_and]
          exact Ev.congr (fun k => by rw [if_pos rfl, if_neg b0]) (cont (by rw [hCf]; rfl))
  refine Ev.step (f := fun k => capnpref10_Valid.l0 k 0 a.f0 a.f1 a.f2 a.f3 a.f4) (fun k => by simp only [capnpref10_Valid.f]) ?_
  exact loop a.f4.length 0 (by omega) (by omega) (by simp [tvalids])
end Go.Proofs.Ytmbockhcmhghlaa.Pr
end
section
namespace Go.Proofs.Ytmbockhcmhghlaa.Pr
open Go.RowKit Go.Proofs.YtmbockhcmhghlaaW.PrintWords Go.Proofs.YtmbockhcmhghlaaW.PrintLast Go.Proofs.YtmbockhcmhghlaaW.PrintMore
set_option linter.unusedVariables false
set_option linter.unusedSimpArgs false
def twords (d : List Int) : Nat := (keptN zeroB d + 7) / 8
def cutD (a : S25) : List Int := if a.f0 = 1 then a.f3.take (8 * twords a.f3) else a.f3
def cutK (a : S25) : List S25 := if a.f0 = 1 then a.f4.take (keptN nullN a.f4) else a.f4
mutual
def ttrim : S25 → S25
  | ⟨k, e, n, d, l⟩ => ⟨k, e, n, if k = 1 then d.take (8 * twords d) else d, if k = 1 then (ttrims l).take (keptN nullN l) else ttrims l⟩
def ttrims : List S25 → List S25
  | [] => []
  | x :: l => ttrim x :: ttrims l
end
theorem ttrims_eq : ∀ l : List S25, ttrims l = l.map ttrim
  | [] => rfl
  | x :: l => by simp [ttrims, ttrims_eq l]
theorem ttrim_eq (a : S25) : ttrim a = ⟨a.f0, a.f1, a.f2, cutD a, (cutK a).map ttrim⟩ := by
  cases a with
  | mk k e n d l =>
    simp only [ttrim, cutD, cutK, ttrims_eq]
    split <;> simp [List.map_take]
theorem ttrim_f3 (a : S25) : (ttrim a).f3 = cutD a := by rw [ttrim_eq]
theorem ttrim_f4 (a : S25) : (ttrim a).f4 = (cutK a).map ttrim := by rw [ttrim_eq]
theorem cutK_sub {a x : S25} (h : x ∈ cutK a) : x ∈ a.f4 := by
  unfold cutK at h
  split at h
  · exact List.mem_of_mem_take h
  · exact h
theorem cutK_len (a : S25) : (cutK a).length ≤ a.f4.length := by
  unfold cutK
  split
  · simp; omega
  · omega
theorem cutD_len (a : S25) : (cutD a).length ≤ a.f3.length := by
  unfold cutD
  split
  · simp; omega
  · omega
def wordsT : S25 → Prop := AllT fun a => a.f0 = 1 → a.f3.length % 8 = 0
theorem valid_words (a : S25) : tvalid a = true → wordsT a := by
  refine S25.ind (P := fun a => tvalid a = true → wordsT a) (fun a ih h => ?_) a
  rw [tvalid_eq, Bool.and_eq_true] at h
  refine .mk (fun h1 => ?_) (fun x hx => ih x hx ((tvalids_all _ _).1 h.1 x hx).1)
  have h2 := h.2
  unfold topV at h2
  rw [if_neg (by omega), if_pos h1] at h2
  simp only [Bool.and_eq_true, beq_iff_eq] at h2
  omega
theorem twords_le (d : List Int) (h : d.length % 8 = 0) : 8 * twords d ≤ d.length := by
  have := keptN_le zeroB d
  unfold twords; omega
theorem rwords_ev (d : List Int) (h : d.length ≤ 1000000000000) : Ev (fun k => capnpref11_Words.f k d) (twords d : Int) := by
  unfold capnpref11_Words.f
  have loop : ∀ n j : Nat, d.length - j = n → j ≤ d.length → Ev (fun k => capnpref11_Words.l0 k d (twords (d.take j) : Int) (j : Int)) (twords d : Int) := by
    intro n
    induction n with
    | zero =>
      intro j hd hj
      refine Ev.step (f := fun _ => some (twords d : Int)) (fun k => ?_) (Ev.now _)
      simp only [capnpref11_Words.l0]
      rw [if_neg (by omega), List.take_of_length_le (by omega)]
    | succ n ih =>
      intro j hd hj
      have hlt : j < d.length := by omega
      have hn := ih (j + 1) (by omega) (by omega)
      have e2 : ((j + 1 : Nat) : Int) = (j : Int) + 1 := by omega
      rw [e2] at hn
      have hk := keptN_snoc zeroB (d.take j) d[j]
      rw [← take_one d j hlt] at hk
      have hjl : (d.take j).length = j := by simp; omega
      by_cases h0 : d[j] = 0
      · rw [if_pos (by simp [zeroB, h0])] at hk
        have : twords (d.take (j + 1)) = twords (d.take j) := by unfold twords; rw [hk]
        rw [this] at hn
        refine Ev.step (f := fun k => capnpref11_Words.l0 k d (twords (d.take j) : Int) (wrap64 ((j : Int) + 1))) (fun k => ?_) (by rw [w64 (by omega) (by omega)]; exact hn)
        simp only [capnpref11_Words.l0]
        rw [if_pos (by omega), if_pos (by omega), rd_at _ _ hlt, if_pos h0]
      · rw [if_neg (by simp [zeroB, h0]), hjl] at hk
        have : (twords (d.take (j + 1)) : Int) = (j : Int) / 8 + 1 := by unfold twords; rw [hk]; omega
        rw [this] at hn
        refine Ev.step (f := fun k => capnpref11_Words.l0 k d (wrap64 (wrap64 (Int.tdiv (j : Int) 8) + 1)) (wrap64 ((j : Int) + 1))) (fun k => ?_) ?_
        · simp only [capnpref11_Words.l0]
          rw [if_pos (by omega), if_pos (by omega), rd_at _ _ hlt, if_neg h0]
        · rw [Int.tdiv_eq_ediv_of_nonneg (by omega), w64 (x := (j : Int) / 8) (by omega) (by omega), w64 (x := (j : Int) / 8 + 1) (by omega) (by omega), w64 (x := (j : Int) + 1) (by omega) (by omega)]
          exact hn
  have h0 := loop d.length 0 (by omega) (by omega)
  rw [show (twords (d.take 0) : Int) = 0 by rw [List.take_zero]; rfl] at h0
  exact h0
theorem rptrs_ev (l : List S25) (h : l.length ≤ 1000000000000) : Ev (fun k => capnpref11_Pointers.f k l) (keptN nullN l : Int) := by
  unfold capnpref11_Pointers.f
  have loop : ∀ n j : Nat, l.length - j = n → j ≤ l.length → Ev (fun k => capnpref11_Pointers.l0 k l (keptN nullN (l.take j) : Int) (j : Int)) (keptN nullN l : Int) := by
    intro n
    induction n with
    | zero =>
      intro j hd hj
      refine Ev.step (f := fun _ => some (keptN nullN l : Int)) (fun k => ?_) (Ev.now _)
      simp only [capnpref11_Pointers.l0]
      rw [if_neg (by omega), List.take_of_length_le (by omega)]
    | succ n ih =>
      intro j hd hj
      have hlt : j < l.length := by omega
      have hn := ih (j + 1) (by omega) (by omega)
      have e2 : ((j + 1 : Nat) : Int) = (j : Int) + 1 := by omega
      have hk := keptN_snoc nullN (l.take j) l[j]
      rw [← take_one l j hlt] at hk
      have hjl : (l.take j).length = j := by simp; omega
      by_cases h0 : l[j].f0 = 0
      · rw [if_pos (by simp [nullN, h0])] at hk
        rw [hk, e2] at hn
        refine Ev.step (f := fun k => capnpref11_Pointers.l0 k l (keptN nullN (l.take j) : Int) (wrap64 ((j : Int) + 1))) (fun k => ?_) (by rw [w64 (by omega) (by omega)]; exact hn)
        simp only [capnpref11_Pointers.l0]
        rw [if_pos (by omega), if_pos (by omega), rdT_at _ _ hlt, if_pos h0]
      · rw [if_neg (by simp [nullN, h0]), hjl] at hk
        rw [hk, e2] at hn
        refine Ev.step (f := fun k => capnpref11_Pointers.l0 k l (wrap64 ((j : Int) + 1)) (wrap64 ((j : Int) + 1))) (fun k => ?_) (by rw [w64 (by omega) (by omega)]; exact hn)
        simp only [capnpref11_Pointers.l0]
        rw [if_pos (by omega), if_pos (by omega), rdT_at _ _ hlt, if_neg h0]
  have h0 := loop l.length 0 (by omega) (by omega)
  rw [show (keptN nullN (l.take 0) : Int) = 0 by rw [List.take_zero]; rfl] at h0
  exact h0
theorem twords_f (d : List Int) (h : d.length ≤ 1000000000000) : trim_Words.f d = some (twords d : Int) := by
  unfold trim_Words.f twords
  rw [if_pos (by omega)]
  congr 1
  omega
theorem tptrs_f (l : List S25) : trim_Pointers.f l = some (keptN nullN l : Int) := rfl
def cellsT (a : S25) : Int × Int × Int × List Int × (List S25) := (a.f0, a.f1, a.f2, a.f3, a.f4)
theorem mkT (a : S25) : (⟨(cellsT a).1, (cellsT a).2.1, (cellsT a).2.2.1, (cellsT a).2.2.2.1, (cellsT a).2.2.2.2⟩ : S25) = a := by cases a; rfl
theorem take_map {α β : Type} (f : α → β) (l : List α) (j : Nat) (h : j < l.length) : (l.take j).map f ++ [f l[j]] = (l.take (j + 1)).map f := by
  rw [take_one l j h, List.map_append]; rfl
theorem trim_loop (L : List S25) (hL : L.length ≤ 1000000000000) (hm : ∀ x ∈ L, Ev (fun k => trim_Trim.f k x.f0 x.f1 x.f2 x.f3 x.f4) (cellsT (ttrim x))) (e n : Int) (kd : Int) (D : List Int) :
    Ev (fun k => trim_Trim.l0 k L (L.length : Int) 0 kd e n D []) (kd, e, n, D, L.map ttrim) := by
  have loop : ∀ d j : Nat, L.length - j = d → j ≤ L.length → Ev (fun k => trim_Trim.l0 k L (L.length : Int) (j : Int) kd e n D ((L.take j).map ttrim)) (kd, e, n, D, L.map ttrim) := by
    intro d
    induction d with
    | zero =>
      intro j hd hj
      refine Ev.step (f := fun _ => some (kd, e, n, D, L.map ttrim)) (fun k => ?_) (Ev.now _)
      simp only [trim_Trim.l0]
      rw [if_neg (by omega), List.take_of_length_le (by omega)]
    | succ d ih =>
      intro j hd hj
      have hlt : j < L.length := by omega
      have hn := ih (j + 1) (by omega) (by omega)
      rw [← take_map _ _ _ hlt, show ((j + 1 : Nat) : Int) = (j : Int) + 1 by omega] at hn
      refine Ev.step (f := fun k => (trim_Trim.f k L[j].f0 L[j].f1 L[j].f2 L[j].f3 L[j].f4).bind fun bt => if ((L.take j).map ttrim).length < 1954687338268 then trim_Trim.l0 k L (L.length : Int) (wrap64 ((j : Int) + 1)) kd e n D ((L.take j).map ttrim ++ [(⟨bt.1, bt.2.1, bt.2.2.1, bt.2.2.2.1, bt.2.2.2.2⟩ : S25)]) else none) (fun k => ?_) ?_
      · simp only [trim_Trim.l0]
        rw [if_pos (by omega), if_pos (by omega), if_pos (by omega), rdT_at _ _ hlt]
      · refine Ev.bind (hm _ (List.getElem_mem hlt)) ?_
        rw [w64 (by omega) (by omega)]
        exact Ev.congr (fun k => by rw [if_pos (by simp; omega), mkT]) hn
  exact loop L.length 0 (by omega) (by omega)
theorem ttrim_ev (a : S25) : wordsT a → tsize a ≤ 1000000000000 → Ev (fun k => trim_Trim.f k a.f0 a.f1 a.f2 a.f3 a.f4) (cellsT (ttrim a)) := by
  refine S25.ind (P := fun a => wordsT a → tsize a ≤ 1000000000000 → Ev (fun k => trim_Trim.f k a.f0 a.f1 a.f2 a.f3 a.f4) (cellsT (ttrim a))) (fun a ih hw hs => ?_) a
  have he := tsize_eq a
  have hl := length_tsizes a.f4
  have hm : ∀ x ∈ a.f4, Ev (fun k => trim_Trim.f k x.f0 x.f1 x.f2 x.f3 x.f4) (cellsT (ttrim x)) := fun x hx => ih x hx (AllT.kids hw x hx) (by have := tsize_kid hx; omega)
  have hc : cellsT (ttrim a) = (a.f0, a.f1, a.f2, cutD a, (cutK a).map ttrim) := by unfold cellsT; rw [ttrim_eq]
  have hj : Ev (fun k => trim_Trim.j0 k (cutD a) (cutK a) a.f0 a.f1 a.f2) (cellsT (ttrim a)) := by
    rw [hc]
    have hcl := cutD_len a
    have hck := cutK_len a
    refine Ev.step (f := fun k => trim_Trim.l0 k (cutK a) ((cutK a).length : Int) 0 a.f0 a.f1 a.f2 (cutD a) []) (fun k => ?_) (trim_loop (cutK a) (by omega) (fun x hx => hm x (cutK_sub hx)) _ _ _ _)
    simp only [trim_Trim.j0]
    rw [if_pos (by simp; omega), List.nil_append]
  by_cases h0 : a.f0 = 1
  · have hlen := AllT.here hw h0
    have hwl := twords_le a.f3 hlen
    have hkl := keptN_le nullN a.f4
    refine Ev.step (f := fun k => trim_Trim.j0 k (cutD a) (cutK a) a.f0 a.f1 a.f2) (fun k => ?_) hj
    simp only [trim_Trim.f]
    rw [if_pos h0, twords_f _ (by omega), Option.bind_some, w64 (by omega) (by omega), if_pos (by omega), if_pos (by omega), tptrs_f, Option.bind_some, if_pos (by omega), if_pos (by omega)]
    unfold cutD cutK
    rw [if_pos h0, if_pos h0]
    have e1 : (8 * (twords a.f3 : Int)).toNat = 8 * twords a.f3 := by omega
    rw [e1, Int.toNat_natCast]
  · refine Ev.step (f := fun k => trim_Trim.j0 k (cutD a) (cutK a) a.f0 a.f1 a.f2) (fun k => ?_) hj
    simp only [trim_Trim.f]
    unfold cutD cutK
    rw [if_neg h0, if_neg h0, if_neg h0]
theorem rtrim_ev (a : S25) : wordsT a → tsize a ≤ 1000000000000 → Ev (fun k => capnpref11_Trim.f k a.f0 a.f1 a.f2 a.f3 a.f4) (cellsT (ttrim a)) := by
  refine S25.ind (P := fun a => wordsT a → tsize a ≤ 1000000000000 → Ev (fun k => capnpref11_Trim.f k a.f0 a.f1 a.f2 a.f3 a.f4) (cellsT (ttrim a))) (fun a ih hw hs => ?_) a
  have he := tsize_eq a
  have hl := length_tsizes a.f4
  have hm : ∀ x ∈ a.f4, Ev (fun k => capnpref11_Trim.f k x.f0 x.f1 x.f2 x.f3 x.f4) (cellsT (ttrim x)) := fun x hx => ih x hx (AllT.kids hw x hx) (by have := tsize_kid hx; omega)
  have hc : cellsT (ttrim a) = (a.f0, a.f1, a.f2, cutD a, (cutK a).map ttrim) := by unfold cellsT; rw [ttrim_eq]
  have body : ∀ D K : Nat, D ≤ a.f3.length → K ≤ a.f4.length → Ev (fun k => capnpref11_Trim.j0 k (D : Int) (K : Int) a.f0 a.f1 a.f2 a.f3 a.f4) (a.f0, a.f1, a.f2, a.f3.take D, (a.f4.take K).map ttrim) := by
    intro D K hD hK
    have kids : ∀ d j : Nat, K - j = d → j ≤ K → Ev (fun k => capnpref11_Trim.l1 k (K : Int) (j : Int) a.f0 a.f1 a.f2 a.f3 a.f4 a.f0 a.f1 a.f2 (a.f3.take D) ((a.f4.take j).map ttrim)) (a.f0, a.f1, a.f2, a.f3.take D, (a.f4.take K).map ttrim) := by
      intro d
      induction d with
      | zero =>
        intro j hd hj
        obtain rfl : j = K := by omega
        refine Ev.step (f := fun _ => some (a.f0, a.f1, a.f2, a.f3.take D, (a.f4.take j).map ttrim)) (fun k => ?_) (Ev.now _)
        simp only [capnpref11_Trim.l1]
        rw [if_neg (by omega)]
      | succ d ihd =>
        intro j hd hj
        have hlt : j < a.f4.length := by omega
        have hn := ihd (j + 1) (by omega) (by omega)
        rw [← take_map _ _ _ hlt, show ((j + 1 : Nat) : Int) = (j : Int) + 1 by omega] at hn
        refine Ev.step (f := fun k => (capnpref11_Trim.f k a.f4[j].f0 a.f4[j].f1 a.f4[j].f2 a.f4[j].f3 a.f4[j].f4).bind fun bt => if ((a.f4.take j).map ttrim).length < 1954687338268 then capnpref11_Trim.l1 k (K : Int) (wrap64 ((j : Int) + 1)) a.f0 a.f1 a.f2 a.f3 a.f4 a.f0 a.f1 a.f2 (a.f3.take D) ((a.f4.take j).map ttrim ++ [(⟨bt.1, bt.2.1, bt.2.2.1, bt.2.2.2.1, bt.2.2.2.2⟩ : S25)]) else none) (fun k => ?_) ?_
        · simp only [capnpref11_Trim.l1]
          rw [if_pos (by omega), if_pos (by omega), if_pos (by omega), rdT_at _ _ hlt]
        · refine Ev.bind (hm _ (List.getElem_mem hlt)) ?_
          rw [w64 (by omega) (by omega)]
          exact Ev.congr (fun k => by rw [if_pos (by simp; omega), mkT]) hn
    have data : ∀ d j : Nat, D - j = d → j ≤ D → Ev (fun k => capnpref11_Trim.l0 k (D : Int) (K : Int) (j : Int) a.f0 a.f1 a.f2 a.f3 a.f4 a.f0 a.f1 a.f2 (a.f3.take j)) (a.f0, a.f1, a.f2, a.f3.take D, (a.f4.take K).map ttrim) := by
      intro d
      induction d with
      | zero =>
        intro j hd hj
        obtain rfl : j = D := by omega
        refine Ev.step (f := fun k => capnpref11_Trim.l1 k (K : Int) 0 a.f0 a.f1 a.f2 a.f3 a.f4 a.f0 a.f1 a.f2 (a.f3.take j) []) (fun k => ?_) (kids K 0 (by omega) (by omega))
        simp only [capnpref11_Trim.l0]
        rw [if_neg (by omega)]
      | succ d ihd =>
        intro j hd hj
        have hlt : j < a.f3.length := by omega
        have hn := ihd (j + 1) (by omega) (by omega)
        rw [take_one _ _ hlt] at hn
        refine Ev.step (f := fun k => capnpref11_Trim.l0 k (D : Int) (K : Int) (wrap64 ((j : Int) + 1)) a.f0 a.f1 a.f2 a.f3 a.f4 a.f0 a.f1 a.f2 (a.f3.take j ++ [a.f3[j]])) (fun k => ?_) (by rw [w64 (by omega) (by omega)]; exact hn)
        simp only [capnpref11_Trim.l0]
        rw [if_pos (by omega), if_pos (by omega), if_pos (by omega), if_pos (by simp; omega), rd_at _ _ hlt]
    refine Ev.step (f := fun k => capnpref11_Trim.l0 k (D : Int) (K : Int) 0 a.f0 a.f1 a.f2 a.f3 a.f4 a.f0 a.f1 a.f2 []) (fun k => by simp only [capnpref11_Trim.j0]) (data D 0 (by omega) (by omega))
  rw [hc]
  by_cases h0 : a.f0 = 1
  · have hlen := AllT.here hw h0
    have hwl := twords_le a.f3 hlen
    have hkl := keptN_le nullN a.f4
    refine Ev.step (f := fun k => (capnpref11_Words.f k a.f3).bind fun t => (capnpref11_Pointers.f k a.f4).bind fun u => capnpref11_Trim.j0 k (wrap64 (8 * t)) u a.f0 a.f1 a.f2 a.f3 a.f4) (fun k => by simp only [capnpref11_Trim.f]; rw [if_pos h0]) ?_
    refine Ev.bind (rwords_ev _ (by omega)) (Ev.bind (rptrs_ev _ (by omega)) ?_)
    rw [w64 (by omega) (by omega)]
    have := body (8 * twords a.f3) (keptN nullN a.f4) hwl hkl
    have e1 : ((8 * twords a.f3 : Nat) : Int) = 8 * (twords a.f3 : Int) := by omega
    rw [e1] at this
    unfold cutD cutK
    rw [if_pos h0, if_pos h0]
    exact this
  · refine Ev.step (f := fun k => capnpref11_Trim.j0 k (a.f3.length : Int) (a.f4.length : Int) a.f0 a.f1 a.f2 a.f3 a.f4) (fun k => by simp only [capnpref11_Trim.f]; rw [if_neg h0]) ?_
    have := body a.f3.length a.f4.length (Nat.le_refl _) (Nat.le_refl _)
    unfold cutD cutK
    rw [if_neg h0, if_neg h0]
    rwa [List.take_length, List.take_length] at this
def uniD : List S25 → Nat
  | [] => 0
  | x :: l => max (x.f3.length / 8) (uniD l)
def uniP : List S25 → Nat
  | [] => 0
  | x :: l => max x.f4.length (uniP l)
theorem uniD_append : ∀ l m : List S25, uniD (l ++ m) = max (uniD l) (uniD m)
  | [], m => by simp [uniD]
  | x :: l, m => by simp [uniD, uniD_append l m, Nat.max_assoc]
theorem uniP_append : ∀ l m : List S25, uniP (l ++ m) = max (uniP l) (uniP m)
  | [], m => by simp [uniP]
  | x :: l, m => by simp [uniP, uniP_append l m, Nat.max_assoc]
theorem uniD_take (l : List S25) (j : Nat) (h : j < l.length) : uniD (l.take (j + 1)) = max (uniD (l.take j)) (l[j].f3.length / 8) := by
  rw [take_one l j h, uniD_append]; simp [uniD]
theorem uniP_take (l : List S25) (j : Nat) (h : j < l.length) : uniP (l.take (j + 1)) = max (uniP (l.take j)) l[j].f4.length := by
  rw [take_one l j h, uniP_append]; simp [uniP]
theorem uni_ev (a : S25) (hs : tsize a ≤ 1000000000000) : Ev (fun k => trim_Uniform.f k a.f0 a.f1 a.f2 a.f3 a.f4) ((uniD a.f4 : Int), (uniP a.f4 : Int)) := by
  have he := tsize_eq a
  have hl := length_tsizes a.f4
  have loop : ∀ d j : Nat, a.f4.length - j = d → j ≤ a.f4.length → Ev (fun k => trim_Uniform.l0 k (uniD (a.f4.take j) : Int) (uniP (a.f4.take j) : Int) a.f4 (a.f4.length : Int) (j : Int)) ((uniD a.f4 : Int), (uniP a.f4 : Int)) := by
    intro d
    induction d with
    | zero =>
      intro j hd hj
      refine Ev.step (f := fun _ => some ((uniD a.f4 : Int), (uniP a.f4 : Int))) (fun k => ?_) (Ev.now _)
      simp only [trim_Uniform.l0]
      rw [if_neg (by omega), List.take_of_length_le (by omega)]
    | succ d ihd =>
      intro j hd hj
      have hlt : j < a.f4.length := by omega
      have hn := ihd (j + 1) (by omega) (by omega)
      have hk := tsize_kid (List.getElem_mem hlt : a.f4[j] ∈ a.f4)
      have hke := tsize_eq a.f4[j]
      have hkl := length_tsizes a.f4[j].f4
      rw [uniD_take _ _ hlt, uniP_take _ _ hlt] at hn
      have e1 : ((max (uniD (a.f4.take j)) (a.f4[j].f3.length / 8) : Nat) : Int) = max (uniD (a.f4.take j) : Int) ((a.f4[j].f3.length : Int) / 8) := by omega
      have e3 : ((max (uniP (a.f4.take j)) a.f4[j].f4.length : Nat) : Int) = max (uniP (a.f4.take j) : Int) (a.f4[j].f4.length : Int) := by omega
      have e2 : ((j + 1 : Nat) : Int) = (j : Int) + 1 := by omega
      rw [e1, e2, e3] at hn
      refine Ev.step (f := fun k => trim_Uniform.l0 k (mx (uniD (a.f4.take j) : Int) (wrap64 ((a.f4[j].f3.length : Int) / 8))) (mx (uniP (a.f4.take j) : Int) (a.f4[j].f4.length : Int)) a.f4 (a.f4.length : Int) (wrap64 ((j : Int) + 1))) (fun k => ?_) ?_
      · simp only [trim_Uniform.l0]
        rw [if_pos (by omega), if_pos (by omega), if_pos (by omega), rdT_at _ _ hlt]
      · rw [mx_max, mx_max, w64 (x := (a.f4[j].f3.length : Int) / 8) (by omega) (by omega), w64 (by omega) (by omega)]
        exact hn
  unfold trim_Uniform.f
  exact loop a.f4.length 0 (by omega) (by omega)
theorem runi_ev (a : S25) (hs : tsize a ≤ 1000000000000) : Ev (fun k => capnpref11_Uniform.f k a.f0 a.f1 a.f2 a.f3 a.f4) ((uniD a.f4 : Int), (uniP a.f4 : Int)) := by
  have he := tsize_eq a
  have hl := length_tsizes a.f4
  have loop : ∀ d j : Nat, a.f4.length - j = d → j ≤ a.f4.length → Ev (fun k => capnpref11_Uniform.l0 k (uniD (a.f4.take j) : Int) (uniP (a.f4.take j) : Int) (j : Int) a.f0 a.f1 a.f2 a.f3 a.f4) ((uniD a.f4 : Int), (uniP a.f4 : Int)) := by
    intro d
    induction d with
    | zero =>
      intro j hd hj
      refine Ev.step (f := fun _ => some ((uniD a.f4 : Int), (uniP a.f4 : Int))) (fun k => ?_) (Ev.now _)
      simp only [capnpref11_Uniform.l0]
      rw [if_neg (by omega), List.take_of_length_le (by omega)]
    | succ d ihd =>
      intro j hd hj
      have hlt : j < a.f4.length := by omega
      have hn := ihd (j + 1) (by omega) (by omega)
      have hk := tsize_kid (List.getElem_mem hlt : a.f4[j] ∈ a.f4)
      have hke := tsize_eq a.f4[j]
      have hkl := length_tsizes a.f4[j].f4
      rw [uniD_take _ _ hlt, uniP_take _ _ hlt] at hn
      have e2 : ((j + 1 : Nat) : Int) = (j : Int) + 1 := by omega
      rw [e2] at hn
      by_cases c1 : (a.f4[j].f3.length : Int) / 8 > (uniD (a.f4.take j) : Int)
      · have e1 : ((max (uniD (a.f4.take j)) (a.f4[j].f3.length / 8) : Nat) : Int) = (a.f4[j].f3.length : Int) / 8 := by omega
        rw [e1] at hn
        by_cases c2 : (a.f4[j].f4.length : Int) > (uniP (a.f4.take j) : Int)
        · have e3 : ((max (uniP (a.f4.take j)) a.f4[j].f4.length : Nat) : Int) = (a.f4[j].f4.length : Int) := by omega
          rw [e3] at hn
          refine Ev.step (fun k => ?_) hn
          simp only [capnpref11_Uniform.l0]
          rw [if_pos (by omega), if_pos (by omega), rdT_at _ _ hlt, w64 (x := (a.f4[j].f3.length : Int) / 8) (by omega) (by omega), w64 (x := (j : Int) + 1) (by omega) (by omega), if_pos c1, if_pos c2]
        · have e3 : ((max (uniP (a.f4.take j)) a.f4[j].f4.length : Nat) : Int) = (uniP (a.f4.take j) : Int) := by omega
          rw [e3] at hn
          refine Ev.step (fun k => ?_) hn
          simp only [capnpref11_Uniform.l0]
          rw [if_pos (by omega), if_pos (by omega), rdT_at _ _ hlt, w64 (x := (a.f4[j].f3.length : Int) / 8) (by omega) (by omega), w64 (x := (j : Int) + 1) (by omega) (by omega), if_pos c1, if_neg c2]
      · have e1 : ((max (uniD (a.f4.take j)) (a.f4[j].f3.length / 8) : Nat) : Int) = (uniD (a.f4.take j) : Int) := by omega
        rw [e1] at hn
        by_cases c2 : (a.f4[j].f4.length : Int) > (uniP (a.f4.take j) : Int)
        · have e3 : ((max (uniP (a.f4.take j)) a.f4[j].f4.length : Nat) : Int) = (a.f4[j].f4.length : Int) := by omega
          rw [e3] at hn
          refine Ev.step (fun k => ?_) hn
          simp only [capnpref11_Uniform.l0]
          rw [if_pos (by omega), if_pos (by omega), rdT_at _ _ hlt, w64 (x := (a.f4[j].f3.length : Int) / 8) (by omega) (by omega), w64 (x := (j : Int) + 1) (by omega) (by omega), if_neg c1, if_pos c2]
        · have e3 : ((max (uniP (a.f4.take j)) a.f4[j].f4.length : Nat) : Int) = (uniP (a.f4.take j) : Int) := by omega
          rw [e3] at hn
          refine Ev.step (fun k => ?_) hn
          simp only [capnpref11_Uniform.l0]
          rw [if_pos (by omega), if_pos (by omega), rdT_at _ _ hlt, w64 (x := (a.f4[j].f3.length : Int) / 8) (by omega) (by omega), w64 (x := (j : Int) + 1) (by omega) (by omega), if_neg c1, if_neg c2]
  unfold capnpref11_Uniform.f
  exact loop a.f4.length 0 (by omega) (by omega)
end Go.Proofs.Ytmbockhcmhghlaa.Pr
end
section
namespace Go.Proofs.Ytmbockhcmhghlaa.Pr
open Go.RowKit Go.Proofs.YtmbockhcmhghlaaW.PrintWords Go.Proofs.YtmbockhcmhghlaaW.PrintLast Go.Proofs.YtmbockhcmhghlaaW.PrintMore
set_option linter.unusedVariables false
set_option linter.unusedSimpArgs false
theorem sizes_map_le (l : List S25) (h : ∀ x ∈ l, tsize (ttrim x) ≤ tsize x) : tsizes (l.map ttrim) ≤ tsizes l := by
  induction l with
  | nil => simp [tsizes]
  | cons k l ih =>
    have := h k List.mem_cons_self
    have := ih (fun x hx => h x (List.mem_cons_of_mem _ hx))
    simp only [List.map_cons, tsizes]; omega
theorem cutK_sizes (a : S25) : tsizes (cutK a) ≤ tsizes a.f4 := by
  unfold cutK
  split
  · exact tsizes_le _ _
  · exact Nat.le_refl _
theorem size_trim (a : S25) : tsize (ttrim a) ≤ tsize a := by
  refine S25.ind (P := fun a => tsize (ttrim a) ≤ tsize a) (fun a ih => ?_) a
  rw [tsize_eq, tsize_eq a, ttrim_f3, ttrim_f4]
  have h1 := cutD_len a
  have h2 := sizes_map_le (cutK a) (fun x hx => ih x (cutK_sub hx))
  have h3 := cutK_sizes a
  omega
end Go.Proofs.Ytmbockhcmhghlaa.Pr
end
section
namespace Go.Proofs.Ytmbockhcmhghlaa.Pr
open Go.RowKit Go.Proofs.YtmbockhcmhghlaaW.PrintWords Go.Proofs.YtmbockhcmhghlaaW.PrintLast Go.Proofs.YtmbockhcmhghlaaW.PrintMore
set_option linter.unusedVariables false
set_option linter.unusedSimpArgs false
theorem awake_bind {β : Type} {f : Nat → Bool → Option β} {r : β} (h : Ev (fun k => f k true) r) : Ev (fun k => (capnplaw11_awake.f).bind (f k)) r := h
theorem ev_if {β : Type} {c : Prop} [Decidable c] {f g : Nat → Option β} {r : β} (h1 : c → Ev f r) (h2 : ¬ c → Ev g r) : Ev (fun k => if c then f k else g k) r := by
  by_cases hc : c
  · exact Ev.congr (fun k => by rw [if_pos hc]) (h1 hc)
  · exact Ev.congr (fun k => by rw [if_neg hc]) (h2 hc)
theorem matches_true (n : S25) (d : List Int) (hok : okT n) (hs : tsize n ≤ 2000000) (hd : d.length ≤ 1000000000000) :
    Ev (fun k => capnplaw11_TrimMatchesReference.f k n.f0 n.f1 n.f2 n.f3 n.f4 d) true := by
  have early : Ev (fun k => capnplaw11_TrimMatchesReference.j0 k d true n.f0 n.f1 n.f2 n.f3 n.f4) true := by
    refine Ev.step (f := fun k => some true) (fun k => ?_) (Ev.now _)
    simp only [capnplaw11_TrimMatchesReference.j0]
    rw [if_pos trivial]; rfl
  have he := tsize_eq n
  have hl := length_tsizes n.f4
  unfold capnplaw11_TrimMatchesReference.f
  refine awake_bind (ev_if (fun _ => ?_) (fun _ => early))
  refine Ev.bind (few_ev n (by omega)) (ev_if (fun hf => ?_) (fun _ => early))
  refine Ev.bind (valid_ev n hok (by omega)) (ev_if (fun hv => ?_) (fun _ => early))
  by_cases hc : (d.length : Int) > 1000
  · rw [decide_eq_true hc]; exact early
  · rw [decide_eq_false hc]
    have hw := valid_words n hv
    have e1 : wrap64 (wrap64 ((d.length : Int) / 8) * 8) = (d.length : Int) / 8 * 8 := by
      rw [w64 (x := (d.length : Int) / 8) (by omega) (by omega), w64 (by omega) (by omega)]
    have e2 : ((d.length : Int) / 8 * 8).toNat = d.length / 8 * 8 := by omega
    have j2 : ∀ b : Bool, Ev (fun k => capnplaw11_TrimMatchesReference.j2 k b n.f0 n.f1 n.f2 n.f3 n.f4) true := fun b => by
      cases b with
      | true =>
        refine Ev.step (f := fun _ => some true) (fun k => ?_) (Ev.now _)
        simp only [capnplaw11_TrimMatchesReference.j2]
        rw [if_pos trivial]
      | false =>
        refine Ev.step (f := fun k => (trim_Uniform.f k n.f0 n.f1 n.f2 n.f3 n.f4).bind fun bt1 => (capnpref11_Uniform.f k n.f0 n.f1 n.f2 n.f3 n.f4).bind fun bt2 => if bt1.1 = bt2.1 then some (bt1.2 == bt2.2) else none) (fun k => ?_) ?_
        · simp only [capnplaw11_TrimMatchesReference.j2]
          rw [if_neg (by simp)]
        · refine Ev.bind (uni_ev n (by omega)) (Ev.bind (runi_ev n (by omega)) ?_)
          exact Ev.congr (fun k => by rw [if_pos rfl]; simp) (Ev.now true)
    have j1 : Ev (fun k => capnplaw11_TrimMatchesReference.j1 k false n.f0 n.f1 n.f2 n.f3 n.f4) true := by
      refine Ev.step (f := fun k => if n.f0 = 2 then capnplaw11_TrimMatchesReference.j2 k (n.f1 != 7) n.f0 n.f1 n.f2 n.f3 n.f4 else capnplaw11_TrimMatchesReference.j2 k true n.f0 n.f1 n.f2 n.f3 n.f4) (fun k => ?_) (ev_if (fun _ => j2 _) (fun _ => j2 _))
      simp only [capnplaw11_TrimMatchesReference.j1]
      rw [if_neg (by simp)]
    have hlen : (d.take (d.length / 8 * 8)).length ≤ 1000000000000 := by simp; omega
    refine Ev.step (f := fun k => (trim_Words.f (d.take (d.length / 8 * 8))).bind fun t1 => (capnpref11_Words.f k (d.take (d.length / 8 * 8))).bind fun t2 => if t1 = t2 then ((trim_Pointers.f n.f4).bind fun t3 => (capnpref11_Pointers.f k n.f4).bind fun t4 => if t3 = t4 then ((trim_Trim.f k n.f0 n.f1 n.f2 n.f3 n.f4).bind fun bt1 => (capnpref11_Trim.f k n.f0 n.f1 n.f2 n.f3 n.f4).bind fun bt2 => (capnpref10_Equal.f k bt1.1 bt1.2.1 bt1.2.2.1 bt1.2.2.2.1 bt1.2.2.2.2 bt2.1 bt2.2.1 bt2.2.2.1 bt2.2.2.2.1 bt2.2.2.2.2).bind fun t5 => capnplaw11_TrimMatchesReference.j1 k (!t5) n.f0 n.f1 n.f2 n.f3 n.f4) else capnplaw11_TrimMatchesReference.j1 k true n.f0 n.f1 n.f2 n.f3 n.f4) else capnplaw11_TrimMatchesReference.j1 k true n.f0 n.f1 n.f2 n.f3 n.f4) (fun k => ?_) ?_
    · simp only [capnplaw11_TrimMatchesReference.j0]
      rw [if_neg (by simp), e1, if_pos (by omega), if_pos (by omega), e2]
    · rw [twords_f _ hlen, tptrs_f]
      simp only [Option.bind_some]
      refine Ev.bind (rwords_ev _ hlen) ?_
      refine Ev.congr (f := fun k => (capnpref11_Pointers.f k n.f4).bind fun t4 => if (keptN nullN n.f4 : Int) = t4 then ((trim_Trim.f k n.f0 n.f1 n.f2 n.f3 n.f4).bind fun bt1 => (capnpref11_Trim.f k n.f0 n.f1 n.f2 n.f3 n.f4).bind fun bt2 => (capnpref10_Equal.f k bt1.1 bt1.2.1 bt1.2.2.1 bt1.2.2.2.1 bt1.2.2.2.2 bt2.1 bt2.2.1 bt2.2.2.1 bt2.2.2.2.1 bt2.2.2.2.2).bind fun t5 => capnplaw11_TrimMatchesReference.j1 k (!t5) n.f0 n.f1 n.f2 n.f3 n.f4) else capnplaw11_TrimMatchesReference.j1 k true n.f0 n.f1 n.f2 n.f3 n.f4) (fun k => by rw [if_pos rfl]) ?_
      refine Ev.bind (rptrs_ev _ (by omega)) ?_
      refine Ev.congr (f := fun k => (trim_Trim.f k n.f0 n.f1 n.f2 n.f3 n.f4).bind fun bt1 => (capnpref11_Trim.f k n.f0 n.f1 n.f2 n.f3 n.f4).bind fun bt2 => (capnpref10_Equal.f k bt1.1 bt1.2.1 bt1.2.2.1 bt1.2.2.2.1 bt1.2.2.2.2 bt2.1 bt2.2.1 bt2.2.2.1 bt2.2.2.2.1 bt2.2.2.2.2).bind fun t5 => capnplaw11_TrimMatchesReference.j1 k (!t5) n.f0 n.f1 n.f2 n.f3 n.f4) (fun k => by rw [if_pos rfl]) ?_
      refine Ev.bind (ttrim_ev n hw (by omega)) (Ev.bind (rtrim_ev n hw (by omega)) ?_)
      have hst := size_trim n
      refine Ev.bind (equal_ev (ttrim n) (ttrim n) (by omega)) ?_
      rw [eqT_true rfl]
      exact j1
end Go.Proofs.Ytmbockhcmhghlaa.Pr
end
section
namespace Go.Proofs.Ytmbockhcmhghlaa.Pr
open Go.RowKit Go.ChangeShapes Go.WideShapes Go.ChangeAt Go.Proofs.YtmbockhcmhghlaaW.PrintWords Go.Proofs.YtmbockhcmhghlaaW.PrintLast Go.Proofs.YtmbockhcmhghlaaW.PrintMore
set_option linter.unusedVariables false
set_option linter.unusedSimpArgs false
theorem byte_range {n : Int} (h : (Lit.int .u8 n).wf = true) : 0 ≤ n ∧ n ≤ 255 := by
  simpa [Lit.wf, IntKind.min, IntKind.max, IntKind.signed, IntKind.bits] using h
theorem cells_each {w : World} {base : Nat} {a : Addr} {n : Nat} {cs : List Value} (h : w.cells? base a n = some cs) : cs.length = n ∧ ∀ (i : Nat) (u : Value), cs[i]? = some u → w.cell? (a.add i) = some u := by
  unfold World.cells? at h
  split at h
  · have hl := mapM_some_length h
    refine ⟨by simpa using hl, fun i u hu => ?_⟩
    have hi : i < n := by
      have := (List.getElem?_eq_some_iff.1 hu).1
      simp at hl; omega
    have := mapM_some_get h i i (by simp [hi])
    rw [this, hu]
  · cases h
section
variable {H : Type} {enc : TypeId × Value → H} {w : World} {base : Nat} {held : Bool}
theorem bulk_bytes {fuel : Nat} {cs : List Value} {x : DataW H × List MemPlace} (h : DataW.trod enc Try.prog w base (fun _ => true) held fuel 22 cs = some x) :
    ∃ (A : Option Addr) (c : Nat) (xs : List Int), cs = [.slice A xs.length c] ∧ xs.length ≤ c ∧ (Kd.int .u8).C w A xs.length xs ∧ (∀ n ∈ xs, 0 ≤ n ∧ n ≤ 255) ∧ xs.length + 1 ≤ Rows.uptoBulk x.1 := by
  rcases open_ints Try.underlying22 Try.underlying5 (by kernel_rfl) h with ⟨rfl, rfl⟩ | ⟨ad, len, cap, zs, rfl, hb, hle, hm, hz, rfl, hcell, hwz⟩
  · exact ⟨none, 0, [], rfl, Nat.le_refl _, Kd.C_nil _ _, by simp, by simp [Rows.uptoBulk]⟩
  · have hzl : zs.length = cap := by simpa using hz
    have htl : (zs.take len).length = len := by simp; omega
    have hlits : ∀ l : List Int, Rows.uptoBulkAll (lits (H := H) .u8 l) = l.length := fun l => by
      induction l with
      | nil => simp [lits, Rows.uptoBulkAll]
      | cons y l ih =>
        simp only [lits, List.map_cons, Rows.uptoBulkAll, Rows.uptoBulk, List.length_cons] at ih ⊢
        omega
    refine ⟨some ad, cap, zs.take len, by rw [htl], by omega, ⟨rfl, by rw [htl]; simp only [maxLen] at hm; omega, fun hp => ⟨ad, rfl, fun j p hj => ⟨[.int .u8 p], rfl, rfl, fun i u hu => ?_⟩⟩⟩, fun n hn => byte_range (hwz n (List.mem_of_mem_take hn)), ?_⟩
    · match i with
      | 0 =>
        obtain rfl : Value.int .u8 p = u := by simpa using hu
        have hjl := (List.getElem?_eq_some_iff.1 hj).1
        rw [htl] at hjl
        have := hcell j (by omega)
        rw [List.getElem?_take_of_lt hjl] at hj
        rw [List.getD_eq_getElem?_getD, hj] at this
        show w.cell? (ad.add (j * 1 + 0)) = _
        rw [Nat.mul_one, Nat.add_zero]
        exact this
      | i + 1 => simp at hu
    · simp only [Rows.uptoBulk, hlits]
      omega
theorem sizes_bulk : ∀ (L : List S25) (ds : List (DataW H)), L.length = ds.length → (∀ (i : Nat) (x : S25) (d : DataW H), L[i]? = some x → ds[i]? = some d → tsize x ≤ Rows.uptoBulk d) → tsizes L ≤ Rows.uptoBulkAll ds
  | [], _, _, _ => by simp [tsizes]
  | x :: L, [], h, _ => by simp at h
  | x :: L, d :: ds, h, hx => by
    have h1 := hx 0 x d rfl rfl
    have h2 := sizes_bulk L ds (by simpa using h) (fun i y e h1 h2 => hx (i + 1) y e (by simpa using h1) (by simpa using h2))
    simp only [tsizes, Rows.uptoBulkAll]; omega
theorem open_node : ∀ (fuel : Nat) (cs : List Value) (x : DataW H × List MemPlace), DataW.trod enc Try.prog w base (fun _ => true) held fuel 25 cs = some x → ∃ a : S25, k25.K w a cs ∧ okT a ∧ tsize a ≤ Rows.uptoBulk x.1 := by
  intro fuel
  induction fuel using Nat.strongRecOn with
  | _ fuel ih =>
  intro cs x h
  obtain ⟨xs, n, rfl, rfl, hl, hlen, hf⟩ := DataW.trod_struct Try.underlying25 h
  have z25 : Try.prog.cellsOf 25 = 5 := by kernel_rfl
  have z3 : Try.prog.cellsOf 3 = 1 := by kernel_rfl
  have zb : Try.prog.cellsOf 22 = 1 := by kernel_rfl
  have zn : Try.prog.cellsOf 23 = 1 := by kernel_rfl
  rw [z25] at hl
  match xs, hlen, cs, hl with
  | [y0, y1, y2, y3, y4], _, [c0, c1, c2, c3, c4], _ =>
  have h0 : DataW.trod enc Try.prog w base (fun _ => true) held n 3 [c0] = some y0 := by simpa [z3] using hf 0 _ rfl
  have h1 : DataW.trod enc Try.prog w base (fun _ => true) held n 3 [c1] = some y1 := by simpa [z3] using hf 1 _ rfl
  have h2 : DataW.trod enc Try.prog w base (fun _ => true) held n 3 [c2] = some y2 := by simpa [z3] using hf 2 _ rfl
  have h3 : DataW.trod enc Try.prog w base (fun _ => true) held n 22 [c3] = some y3 := by simpa [zb] using hf 3 _ rfl
  have h4 : DataW.trod enc Try.prog w base (fun _ => true) held n 23 [c4] = some y4 := by simpa [zn] using hf 4 _ rfl
  obtain ⟨n0, e0, rfl, _⟩ := DataW.trod_int Try.underlying3 h0
  obtain ⟨n1, e1, rfl, _⟩ := DataW.trod_int Try.underlying3 h1
  obtain ⟨n2, e2, rfl, _⟩ := DataW.trod_int Try.underlying3 h2
  obtain ⟨A3, k3, zs, e3, l3, g3, hzb, hb3⟩ := bulk_bytes h3
  simp only [List.cons.injEq, and_true] at e0 e1 e2 e3
  subst e0 e1 e2 e3
  have kids : ∃ (A : Option Addr) (c : Nat) (L : List S25), c4 = .slice A L.length c ∧ L.length ≤ c ∧ k25.C w A L.length L ∧ (∀ a ∈ L, okT a) ∧ tsizes L ≤ Rows.uptoBulk y4.1 := by
    rcases DataW.trod_slice Try.underlying23 h4 with ⟨e4, rfl⟩ | ⟨ad, len, cap, elems, rest, m, rfl, e4, rfl, hb, hle, hmax, hel0, hel, _, _⟩
    · simp only [List.cons.injEq, and_true] at e4
      exact ⟨none, 0, [], e4, Nat.le_refl _, Kd.C_nil _ _, by simp, by simp [tsizes]⟩
    · simp only [List.cons.injEq, and_true] at e4
      have each : ∀ i, i < len → ∃ (cs' : List Value) (a : S25), (∀ (j : Nat) (u : Value), cs'[j]? = some u → w.cell? ((ad.add (i * 5)).add j) = some u) ∧ cs'.length = 5 ∧ k25.K w a cs' ∧ okT a ∧ ∀ d, (elems.map (·.1))[i]? = some d → tsize a ≤ Rows.uptoBulk d := fun i hi => by
        have hq := hel i hi
        rw [z25, List.getElem?_eq_getElem (by omega)] at hq
        obtain ⟨cs', hc, ht⟩ := Option.bind_eq_some_iff.1 hq
        obtain ⟨a, hK, hok, hsz⟩ := ih m (by omega) cs' _ ht
        obtain ⟨hlc, hcc⟩ := cells_each hc
        refine ⟨cs', a, hcc, hlc, hK, hok, fun d hd => ?_⟩
        rw [List.getElem?_map, List.getElem?_eq_getElem (by omega)] at hd
        obtain rfl : elems[i].1 = d := by simpa using hd
        exact hsz
      classical
      let f : Nat → S25 := fun i => if hi : i < len then (each i hi).choose_spec.choose else ⟨0, 0, 0, [], []⟩
      have hfs : ∀ i (hi : i < len), f i = (each i hi).choose_spec.choose := fun i hi => dif_pos hi
      have hL : ((List.range len).map f).length = len := by simp
      have hget : ∀ (j : Nat) (p : S25), ((List.range len).map f)[j]? = some p → ∃ hj : j < len, p = (each j hj).choose_spec.choose := fun j p hp => by
        have hj : j < len := by have := (List.getElem?_eq_some_iff.1 hp).1; rwa [hL] at this
        refine ⟨hj, ?_⟩
        rw [← hfs j hj]
        simp [hj] at hp
        exact hp.symm
      refine ⟨some ad, cap, (List.range len).map f, by rw [hL]; exact e4, by rw [hL]; exact hle, ⟨rfl, by rw [hL]; simp only [maxLen] at hmax; omega, fun hp => ⟨ad, rfl, fun j p hj => ?_⟩⟩, fun a ha => ?_, ?_⟩
      · obtain ⟨hjl, rfl⟩ := hget j p hj
        obtain ⟨hc, hlc, hK, _⟩ := (each j hjl).choose_spec.choose_spec
        refine ⟨(each j hjl).choose, hlc, hK, fun i u hu => ?_⟩
        have := hc i u hu
        rw [Addr.add_add] at this
        exact this
      · obtain ⟨j, hj⟩ := List.getElem?_of_mem ha
        obtain ⟨hjl, rfl⟩ := hget j a hj
        exact (each j hjl).choose_spec.choose_spec.2.2.2.1
      · refine Nat.le_trans (sizes_bulk _ (elems.map (·.1)) (by simp; omega) fun i x d hx hd => ?_) (by simp only [Rows.uptoBulk]; omega)
        obtain ⟨hjl, rfl⟩ := hget i x hx
        exact (each i hjl).choose_spec.choose_spec.2.2.2.2 d hd
  obtain ⟨A4, k4, L, rfl, l4, g4, hLok, hb4⟩ := kids
  refine ⟨⟨n0, n1, n2, zs, L⟩, k25_mk w ⟨n0, n1, n2, zs, L⟩ l3 g3 l4 g4, .mk hzb hLok, ?_⟩
  simp only [tsize, Rows.uptoBulk, Rows.uptoBulkAll, List.map_cons, List.map_nil]
  omega
end
end Go.Proofs.Ytmbockhcmhghlaa.Pr
end
section
namespace Go.Proofs.Ytmbockhcmhghlaa.trimMatchesReference
open Go.ChangeShapes Go.WideShapes Go.ChangeAt Go.RowKit Go.Joins Go.Proofs.Ytmbockhcmhghlaa.Pr
set_option linter.unusedVariables false
set_option linter.unusedSimpArgs false
theorem own : ownKnob Try.prog.godebug = none := by kernel_rfl
theorem laidOut : laidOutB Try.prog = true := by kernel_rfl
theorem contract (H : Type) (enc : TypeId × Value → H) (W : World) (base : Nat) (args : Array Value) (ds gs : List (DataW H)) (before : List MemPlace)
    (hval0 : ∀ (j : Nat) t v, Try.f3.params[j]? = some t → args[j]? = some v → Value.okWide Try.prog W .any base t v)
    (hW : DataW.Whole enc Try.prog Try.f3.params.toList Rows.trimMatchesReferenceSpec.vars false W args.toList ds gs before) (hbulk : Rows.uptoSmall H (ds ++ gs) = true) :
    Calls Try.prog 3 args W fun e W' => ∃ v, e = .returned v ∧ Rows.trimMatchesReferenceSpec.post enc Try.prog Try.f3 false true false false W args v W' := by
  have hval : ∀ (j : Nat) t v, Try.f3.params[j]? = some t → args[j]? = some v → Value.okWide Try.prog W .any base t v := hval0
  have hW' := hW
  obtain ⟨p, q, hA0, hV, rfl, hfz, hnd⟩ := hW
  have hA : DataW.TrodAll enc Try.prog W 0 (fun _ => true) true Try.f3.params.toList args.toList ds p := hA0
  rw [Try.params3] at hA hval
  obtain ⟨v0, vs0, d0, ds0, p0, q0, hargs, rfl, rfl, h0, r0⟩ := trodAll_cons hA
  obtain ⟨v1, vs1, d1, ds1, p1, q1, rfl, rfl, rfl, h1, r1⟩ := trodAll_cons r0
  obtain ⟨rfl, rfl, rfl⟩ := trodAll_nil r1
  obtain rfl : args = #[v0, v1] := by cases args; simp_all
  obtain ⟨rfl, rfl⟩ := trodVars_none hV
  have k0 := h0
  have lt0 : ∀ x ∈ p0, x.block < W.heap.size := by obtain ⟨m, hm⟩ := k0; exact DataW.trod_lt m _ _ _ hm
  obtain ⟨cs0, rfl, hn0⟩ := okWide_struct Try.underlying25 (hval 0 25 v0 rfl rfl)
  obtain ⟨fuel0, hf0⟩ := h0
  obtain ⟨a0, K0, ok0, sz0⟩ := open_node _ _ _ hf0
  obtain ⟨A0_3, c0_3, A0_4, c0_4, e0, l0_3, g0_3, l0_4, g0_4⟩ := k25_open K0
  obtain rfl : cs0 = #[.int .i64 a0.f0, .int .i64 a0.f1, .int .i64 a0.f2, .slice A0_3 a0.f3.length c0_3, .slice A0_4 a0.f4.length c0_4] := by
    have e' : cs0.toList = _ := e0
    rw [← Array.toArray_toList (xs := cs0), e']
  clear K0 e0 hf0 hn0
  have sz0 : tsize a0 ≤ Rows.uptoBulk d0 := sz0
  have k1 := h1
  have lt1 : ∀ x ∈ p1, x.block < W.heap.size := by obtain ⟨m, hm⟩ := k1; exact DataW.trod_lt m _ _ _ hm
  obtain ⟨x1, y1, z1, rfl⟩ := okWide_slice Try.underlying22 (hval 1 22 v1 rfl rfl)
  obtain ⟨fuel1, hf1⟩ := h1
  obtain ⟨A1, c1, a1, e1, l1, g1, ok1, sz1⟩ := bulk_bytes hf1
  have e1' : [Value.slice x1 y1 z1] = [Value.slice A1 a1.length c1] := e1
  simp only [List.cons.injEq, Value.slice.injEq, and_true] at e1'
  obtain ⟨rfl, rfl, rfl⟩ := e1'
  clear e1 hf1
  have sz1 : a1.length + 1 ≤ Rows.uptoBulk d1 := sz1
  have hk : Rows.uptoBulk d0 + Rows.uptoBulk d1 ≤ 1048576 := by have h := of_decide_eq_true hbulk; simp only [Rows.uptoBulkAll, List.nil_append, List.append_nil, List.cons_append] at h; omega
  clear hA0 hval0
  refine (let ⟨k, hk⟩ := (matches_true a0 a1 ok0 (by omega) (by omega)).rounds; capnplaw11_TrimMatchesReference.calls k _ _ _ _ _ _ _ _ _ _ _ _ _ W g0_3 l0_3 g0_4 l0_4 g1 l1 hk).mono fun e W' ⟨he, bel⟩ => ?_
  subst he
  exact ⟨_, rfl, _, _, _, [], _, [], hW', trodAll_mk1 (shut_bool Try.underlying4 _), (trodAll_cons_mk (Below.trod laidOut (by kernel_rfl) (of_decide_eq_true (by kernel_rfl)) k0 bel lt0) (trodAll_cons_mk (Below.trod laidOut (by kernel_rfl) (of_decide_eq_true (by kernel_rfl)) k1 bel lt1) trodAll_mk0)), rfl, bel.frame _, fun h => by cases h⟩
set_option maxRecDepth 100000 in
theorem lifted (os : Os) (started : os.Started) (H : Type) (enc : TypeId × Value → H) (F : Stop.Interp) :
    ReturnsInHanded {} Try.checked os 3 .any ((Rows.OpenSpec.upto Rows.trimMatchesReferenceSpec).pre6 enc Try.prog Try.f3 Rows.trimMatchesReferenceUptoRow.domain false) (((Rows.OpenSpec.upto Rows.trimMatchesReferenceSpec).at F).post enc Try.prog Try.f3 false true false false) := by
  refine returnsInHanded_of_cond (C := Try.checked) (s := (Rows.OpenSpec.upto Rows.trimMatchesReferenceSpec)) (k := Rows.uptoSmall) rfl own started (by kernel_rfl) Try.func3
    (OpenSpec.witness (enc := enc) (C := Try.checked) (s := (Rows.OpenSpec.upto Rows.trimMatchesReferenceSpec)) (k := Rows.uptoSmall) rfl false ⟨#[], #[.agg #[.int .i64 0, .int .i64 0, .int .i64 0, .slice none 0 0, .slice none 0 0], .slice none 0 0], []⟩ 8 (by kernel_rfl) (by kernel_rfl) (by kernel_rfl)
      (x := ([.agg [.lit (.int .i64 0), .lit (.int .i64 0), .lit (.int .i64 0), .nil, .nil], .nil], [], [])) (by kernel_rfl) rfl (by kernel_rfl)) ?_
  intro W base args ds gs before hval hW _ hk _
  exact contract H enc W base args ds gs before hval hW hk
theorem over : Rows.trimMatchesReferenceUptoRow.holds Try.pinned (Rows.OpenSpec.upto Rows.trimMatchesReferenceSpec) :=
  OpenClaim.holds_of_cond 3 Try.f3 rfl rfl rfl rfl rfl rfl rfl ⟨rfl, rfl, rfl, rfl, rfl⟩ rfl rfl rfl rfl rfl (by kernel_rfl) Try.func3 (by kernel_rfl)
    (of_decide_eq_true (by kernel_rfl)) (by unfold Func.isWrapper; first | (rw [if_pos (by decide +kernel)]; kernel_rfl) | (rw [if_neg (by decide +kernel)]; exact ⟨rfl, rfl⟩))
    (fun os started H enc _ F => lifted os started H enc F)
theorem proved : Rows.TrimMatchesReferenceUptoSaid := over
#print axioms proved
end Go.Proofs.Ytmbockhcmhghlaa.trimMatchesReference
namespace Go.Proofs.Ytmbockhcmhghlaa
theorem trimMatchesReference_holds : Rows.TrimMatchesReferenceUptoSaid := trimMatchesReference.proved
end Go.Proofs.Ytmbockhcmhghlaa
end
