/- For every node of bulk at most 1048576 a copy is equal to it, and well-formed, of the same depth and number of objects with it: the law answers true and leaves its argument as it was. -/
import Derived.Test.YtmbockhcmhghlaaDoorBNCC
import Derived.Below
import Derived.Deep.Draws
import Derived.Deep.AppendLies
import Derived.Maps.AppendAt
import Derived.OwnWalk
import Derived.Laws.BytesArg
import Derived.Laws.MakeOwn
import Derived.Laws.OwnMore
import Derived.Deep.OwnRows
import Derived.Tactics
import Derived.Lib.ConvBytes
import Derived.Laws.Slices
import Derived.WalkKit
import Derived.KernelRfl
import Derived.RowKit3
import Derived.Deep.LoopGhost
import Derived.Deep.QuietTactic
import Derived.BigQuiet
import Derived.WideLaws
import Derived.Deep.DeepCutAuto
import Derived.Deep.CutBlock
import Derived.Deep.RegionHeld3
import Derived.Laws.Rows
import Derived.Lib.AppendStr
import Derived.ArgAppend
import Derived.Laws.IdiomCopy
import Derived.RowKit
import Derived.OrdersHeld
import Derived.Laws.BitsLemmas
import Derived.Laws.StructEq
import Derived.SizedLaws
import Derived.ChangeSlices
import Derived.Test.YtmbockhcmhghlaaDoorProg
import Derived.Laws.AppendOwn
import Derived.WalkSpells
import Derived.Lib.Hide
import Derived.RangeFuncBox
import Derived.IntWalk
import Derived.OpenShut
import Derived.RangeFuncNested
import Derived.RangeFuncBound
import Derived.RangeFuncCalls
import Derived.RangeFuncLeaves
import Derived.Shelf.Abstract
import Derived.Shelf.RegionOpen
import Derived.OwnWalkIn
import Derived.TacticsInMore
import Derived.LoopNIn
import Derived.LoopIn
import Derived.Test.YtmbockhcmhghlaaDoorRows
import Derived.ProofKit
import Derived.ChangeOld
import Derived.Lib.SmallJoins
import Derived.DataReads
import Derived.Test.YtmbockhcmhghlaaDoorCards
import Derived.Test.YtmbockhcmhghlaaDoorTie
import Derived.ShutString
import Derived.JoinedCond
import Derived.Deep.DeepHandedRow
import Derived.Lib.LaidTab
section
namespace Go.Proofs.YtmbockhcmhghlaaDoor.Pr
open Go.RowKit Go.Proofs.YtmbockhcmhghlaaDoorW.PrintWords Go.Proofs.YtmbockhcmhghlaaDoorW.PrintLast Go.Proofs.YtmbockhcmhghlaaDoorW.PrintMore
attribute [local go_sem] max2_int min2_int max_two min_two max_three min_three max_four min_four
set_option linter.unusedVariables false
set_option linter.unusedSimpArgs false
noncomputable section
mutual
def capnplaw10_NodeCopies.j0 : Nat → Bool → Int → Int → Int → List Int → List (S25) → Option (Bool)
 | 0, _, _, _, _, _, _ => none
 | k + 1, x12, x275000, x275001, x275002, x275003, x275004 => if x12 = true then ((capnplaw10_awake.f).bind fun t277 => (some t277)) else ((capnpref10_Copy.f k x275000 x275001 x275002 x275003 x275004).bind fun bt278 => ((node_Equal.f k bt278.1 bt278.2.1 bt278.2.2.1 bt278.2.2.2.1 bt278.2.2.2.2 x275000 x275001 x275002 x275003 x275004).bind fun t288 => (if t288 = true then ((node_Valid.f k bt278.1 bt278.2.1 bt278.2.2.1 bt278.2.2.2.1 bt278.2.2.2.2).bind fun t289 => ((node_Valid.f k x275000 x275001 x275002 x275003 x275004).bind fun t290 => (if (t289 != t290) = true then (capnplaw10_NodeCopies.j1 k true x275000 x275001 x275002 x275003 x275004 bt278.1 bt278.2.1 bt278.2.2.1 bt278.2.2.2.1 bt278.2.2.2.2) else ((node_Equal.f k x275000 x275001 x275002 x275003 x275004 bt278.1 bt278.2.1 bt278.2.2.1 bt278.2.2.2.1 bt278.2.2.2.2).bind fun t291 => (capnplaw10_NodeCopies.j1 k (!t291) x275000 x275001 x275002 x275003 x275004 bt278.1 bt278.2.1 bt278.2.2.1 bt278.2.2.2.1 bt278.2.2.2.2))))) else (capnplaw10_NodeCopies.j1 k true x275000 x275001 x275002 x275003 x275004 bt278.1 bt278.2.1 bt278.2.2.1 bt278.2.2.2.1 bt278.2.2.2.2))))
def capnplaw10_NodeCopies.j1 : Nat → Bool → Int → Int → Int → List Int → List (S25) → Int → Int → Int → List Int → List (S25) → Option (Bool)
 | 0, _, _, _, _, _, _, _, _, _, _, _ => none
 | k + 1, x32, x275000, x275001, x275002, x275003, x275004, x288000, x288001, x288002, x288003, x288004 => if x32 = true then (none) else ((capnpref10_Valid.f k x275000 x275001 x275002 x275003 x275004).bind fun t292 => (if t292 = true then ((node_Depth.f k x288000 x288001 x288002 x288003 x288004).bind fun t293 => ((node_Objects.f k x288000 x288001 x288002 x288003 x288004).bind fun t294 => ((capnpref10_Equal.f k x288000 x288001 x288002 x288003 x288004 x275000 x275001 x275002 x275003 x275004).bind fun t295 => (if t295 = true then ((node_Depth.f k x275000 x275001 x275002 x275003 x275004).bind fun t296 => (if t293 = t296 then ((node_Objects.f k x275000 x275001 x275002 x275003 x275004).bind fun t297 => (if t294 = t297 then (if t293 ≥ 0 then (if ((t294 == 0) == (t293 == 0)) = true then (some (decide (t293 ≤ t294))) else (none)) else (none)) else (none))) else (none))) else (none))))) else (some true)))
end
def capnplaw10_NodeCopies.f (k : Nat) (a0_0 : Int) (a0_1 : Int) (a0_2 : Int) (l0_3 : List Int) (l0_4 : List (S25)) : Option (Bool) := (capnplaw10_awake.f).bind fun t275 => (if t275 = true then ((capnpref10_Few.f k a0_0 a0_1 a0_2 l0_3 l0_4).bind fun t276 => (capnplaw10_NodeCopies.j0 k (!t276) a0_0 a0_1 a0_2 l0_3 l0_4)) else (capnplaw10_NodeCopies.j0 k true a0_0 a0_1 a0_2 l0_3 l0_4))
def capnplaw10_NodeCopies.T4 : Bool × List (List Nat × List Nat) := (true, [([], []), ([], []), ([0, 1], [0, 1]), ([2], [2]), ([3, 2], [3]), ([4], [4]), ([5, 4, 4], [4, 5]), ([4], [4]), ([7, 6, 4], [4, 7]), ([6, 8, 4], [4, 6, 8]), ([4, 9], [4, 9]), ([10, 8], [10]), ([11], [11]), ([11], [11]), ([12, 13, 11, 11], [11, 12, 13]), ([14, 11], [11, 14]), ([11, 15], [11, 15])])
def capnplaw10_NodeCopies.B4 : List Nat := [0, 0, 3, 7, 15, 31, 63, 31, 255, 511, 1023, 2047, 4095, 4095, 16383, 32767, 65535]
theorem capnplaw10_NodeCopies.tab4 : rtab .any (opsOf Tryd.f7 4) = capnplaw10_NodeCopies.T4 := by kernel_rfl
theorem capnplaw10_NodeCopies.bits4 : waitsOk capnplaw10_NodeCopies.T4.2 capnplaw10_NodeCopies.B4 = true := by kernel_rfl
set_option maxHeartbeats 8000000 in
set_option maxRecDepth 100000 in
theorem capnplaw10_NodeCopies.calls (k : Nat) (a0_0 : Int) (a0_1 : Int) (a0_2 : Int) (A0_3 : Option Addr) (c0_3 : Nat) (l0_3 : List Int) (A0_4 : Option Addr) (c0_4 : Nat) (l0_4 : List (S25)) (r : Bool) (w : World) (HT0 : Ls.Tab w) (hr0_3 : Kd.C (Kd.int .u8) w A0_3 l0_3.length l0_3) (hc0_3 : l0_3.length ≤ c0_3) (hr0_4 : Kd.C k25 w A0_4 l0_4.length l0_4) (hc0_4 : l0_4.length ≤ c0_4) (h : capnplaw10_NodeCopies.f k a0_0 a0_1 a0_2 l0_3 l0_4 = some r) :
  Calls Tryd.prog 7 #[.agg #[.int .i64 a0_0, .int .i64 a0_1, .int .i64 a0_2, .slice A0_3 l0_3.length c0_3, .slice A0_4 l0_4.length c0_4]] w fun e w' => e = .returned (.bool r) ∧ Below w.heap.size w w' := by
 have hu25 := Tryd.underlying25
 have HTAB := Aside0.mk HT0
 have HR0_3 := Aside0.mk hr0_3
 have HC0_3 := Aside0.mk hc0_3
 clear hr0_3 hc0_3
 have HR0_4 := Aside0.mk hr0_4
 have HC0_4 := Aside0.mk hc0_4
 clear hr0_4 hc0_4
 have HB := Aside0.mk (Below.refl w.heap.size w)
 have H : ((capnplaw10_awake.f).bind fun t275 => (if t275 = true then ((capnpref10_Few.f k a0_0 a0_1 a0_2 l0_3 l0_4).bind fun t276 => (capnplaw10_NodeCopies.j0 k (!t276) a0_0 a0_1 a0_2 l0_3 l0_4)) else (capnplaw10_NodeCopies.j0 k true a0_0 a0_1 a0_2 l0_3 l0_4))) = some r := h
 clear h
 have HC2 := Aside0.mk H
 clear H
 go_enter Tryd.func7, Tryd.ntmps7
 go_upto_region 1 with (first | ((with_reducible refine gate_dst (N := 1) rfl ?_); refine box_event ?hg (N := 1) ?hd (cs := #[.int .i64 a0_0, .int .i64 a0_1, .int .i64 a0_2, .slice A0_3 l0_3.length c0_3, .slice A0_4 l0_4.length c0_4]) (t := 25) ?hr ?_; (case hd => rfl); (case hg => rfl); (case hr => first | (go_simp; done) | (go_simp; rfl)); intro gb274 hg w3 hbox hb; have n0_ := Aside0.mk (below_step (by repeat (first | (with_reducible first | exact HB.out | apply below_alloc | apply pw_below_drewN | apply below_drew1) | exact HB.out)) hb); have n1_ := Aside0.mk (hbox); have n2_ := Aside0.mk ((by rw [hg]; exact (below_size (by repeat (first | (with_reducible first | exact HB.out | apply below_alloc | apply pw_below_drewN | apply below_drew1) | exact HB.out))) : w.heap.size ≤ gb274)); have n3_ := Aside0.mk ((by rw [hg]; exact (below_size (by repeat (first | (with_reducible first | exact HB.out | apply below_alloc | apply pw_below_drewN | apply below_drew1) | exact HB.out))) : w.heap.size ≤ gb274)); clear HB; have HB := n0_; have BK274 := n1_; have GW274 := n2_; have GE274 := n3_; clear n0_ n1_ n2_ n3_; clear hb hbox hg))
 (try simp only [Act.put, List.setIfInBounds_toArray, List.set_cons_zero, List.set_cons_succ])
 go_cut [12] (fun v12 wc => ∃ (kq : Nat) (x12_1 : Bool), v12 = .bool x12_1 ∧ Aside0 (capnplaw10_NodeCopies.j0 kq x12_1 a0_0 a0_1 a0_2 l0_3 l0_4 = some r) ∧ Aside0 (kq ≤ k) ∧ Aside0 (wc.heap[gb274]? = some (.cells #[.int .i64 a0_0, .int .i64 a0_1, .int .i64 a0_2, (.slice A0_3 l0_3.length c0_3), (.slice A0_4 l0_4.length c0_4)] 25 (0, 0))) ∧ Aside0 (Below w.heap.size w wc))
 case first =>
  have H := HC2.out
  clear HC2
  replace H := Option.bind_eq_some_iff.mp H
  obtain ⟨t275, A40, H⟩ := H
  replace H : (if t275 = true then ((capnpref10_Few.f k a0_0 a0_1 a0_2 l0_3 l0_4).bind fun t276 => (capnplaw10_NodeCopies.j0 k (!t276) a0_0 a0_1 a0_2 l0_3 l0_4)) else (capnplaw10_NodeCopies.j0 k true a0_0 a0_1 a0_2 l0_3 l0_4)) = some r := H
  have A4 := Aside0.mk A40
  clear A40
  by_cases c5 : t275 = true
  ·subst c5
   have H1 : ((capnpref10_Few.f k a0_0 a0_1 a0_2 l0_3 l0_4).bind fun t276 => (capnplaw10_NodeCopies.j0 k (!t276) a0_0 a0_1 a0_2 l0_3 l0_4)) = some r := by rw [if_pos rfl] at H; exact H
   clear H
   have H := H1
   clear H1
   replace H := Option.bind_eq_some_iff.mp H
   obtain ⟨t276, A60, H⟩ := H
   replace H : (capnplaw10_NodeCopies.j0 k (!t276) a0_0 a0_1 a0_2 l0_3 l0_4) = some r := H
   have A6 := Aside0.mk A60
   clear A60
   have H' := Aside0.mk H
   clear H
   go_wp2_with (first | ((with_reducible refine gate_callee (f := 8) rfl ?_); refine goesL_ (some 6) rfl rfl Tryd.func8 (by kernel_rfl) rfl #[] rfl (by (try simp only [List.map_toArray, List.map_cons, List.map_nil]); first | done | rfl | (simp only [List.length_drop, List.length_take]; rfl)) ?_; (with_reducible refine (capnplaw10_awake.calls  true _ A4.out ?tab).mono ?_); (case tab => exact HTAB.out.below (by repeat (first | (with_reducible first | exact HB.out | apply below_alloc | apply pw_below_drewN | apply below_drew1 | refine below_set ?_ GE274.out) | exact HB.out))); rintro e w7 ⟨rfl, hb⟩; refine ⟨_, rfl, ?_⟩; have n0_ := Aside0.mk (blk_below (g := gb274) (o := .cells #[.int .i64 a0_0, .int .i64 a0_1, .int .i64 a0_2, .slice A0_3 l0_3.length c0_3, .slice A0_4 l0_4.length c0_4] 25 (0, 0)) (by (with_reducible repeat (first | refine blk_drewN ?_ _ | refine blk_drew ?_ | refine blk_alloc ?_ _)); exact BK274.out) hb); have n1_ := Aside0.mk (below_step (by repeat (first | (with_reducible first | exact HB.out | apply below_alloc | apply pw_below_drewN | apply below_drew1 | refine below_set ?_ GE274.out) | exact HB.out)) hb); clear BK274; clear HB; have BK274 := n0_; have HB := n1_; clear n0_ n1_; (try clear hb); (try clear hb2); (try clear hk); (try clear hi); have hcz8_0 : w7.cell? ⟨gb274, 0, none⟩ = some (.int .i64 a0_0) := (blk_cell BK274.out 0).trans rfl; have hcz8_1 : w7.cell? ⟨gb274, 1, none⟩ = some (.int .i64 a0_1) := (blk_cell BK274.out 1).trans rfl; have hcz8_2 : w7.cell? ⟨gb274, 2, none⟩ = some (.int .i64 a0_2) := (blk_cell BK274.out 2).trans rfl; have hcz8_3 : w7.cell? ⟨gb274, 3, none⟩ = some (.slice A0_3 l0_3.length c0_3) := (blk_cell BK274.out 3).trans rfl; have hcz8_4 : w7.cell? ⟨gb274, 4, none⟩ = some (.slice A0_4 l0_4.length c0_4) := (blk_cell BK274.out 4).trans rfl; have hfz8_0 := blk_frozen BK274.out 0; have hfz8_1 := blk_frozen BK274.out 1; have hfz8_2 := blk_frozen BK274.out 2; have hfz8_3 := blk_frozen BK274.out 3; have hfz8_4 := blk_frozen BK274.out 4) | (go_at_call 9; (with_reducible refine (capnpref10_Few.calls k a0_0 a0_1 a0_2 _ _ l0_3 _ _ l0_4 t276 _ ?side1 ?side2 ?side3 ?side4 A6.out).mono ?_); (case side1 => repeat (first | exact (Kd.C_below HR0_3.out HB.out) | (with_reducible refine Kd.C_alloc ?_ _) | (with_reducible refine Kd.C_drewN ?_ _) | (with_reducible refine Kd.C_drew ?_))); (case side2 => exact HC0_3.out); (case side3 => repeat (first | exact (Kd.C_below HR0_4.out HB.out) | (with_reducible refine Kd.C_alloc ?_ _) | (with_reducible refine Kd.C_drewN ?_ _) | (with_reducible refine Kd.C_drew ?_))); (case side4 => exact HC0_4.out); rintro e w9 ⟨rfl, hb⟩; have n0_ := Aside0.mk (blk_below (g := gb274) (o := .cells #[.int .i64 a0_0, .int .i64 a0_1, .int .i64 a0_2, .slice A0_3 l0_3.length c0_3, .slice A0_4 l0_4.length c0_4] 25 (0, 0)) (by (with_reducible repeat (first | refine blk_drewN ?_ _ | refine blk_drew ?_ | refine blk_alloc ?_ _)); exact BK274.out) hb); have n1_ := Aside0.mk (below_step (by repeat (first | (with_reducible first | exact HB.out | apply below_alloc | apply pw_below_drewN | apply below_drew1 | refine below_set ?_ GE274.out) | exact HB.out)) hb); clear BK274; clear HB; have BK274 := n0_; have HB := n1_; clear n0_ n1_; (try clear hb); (try clear hb2); (try clear hk); (try clear hi)))
   go_meet
   case rel => exact ⟨_, (!t276), (by first | rfl | (simp; done) | (simp [*]; done)), H', ⟨by first | omega | exact Nat.le_refl _⟩, ⟨by (with_reducible repeat (first | refine blk_drewN ?_ _ | refine blk_drew ?_ | refine blk_alloc ?_ _)); exact BK274.out⟩, ⟨by repeat (first | (with_reducible first | exact HB.out | apply below_alloc | apply pw_below_drewN | apply below_drew1 | refine below_set ?_ GE274.out) | exact HB.out)⟩⟩
  ·replace c5 := Bool.eq_false_iff.mpr c5
   subst c5
   have H1 : (capnplaw10_NodeCopies.j0 k true a0_0 a0_1 a0_2 l0_3 l0_4) = some r := by rw [if_neg (show ¬ (false = true) by decide)] at H; exact H
   clear H
   have H := H1
   clear H1
   have H' := Aside0.mk H
   clear H
   go_wp2_with (first | ((with_reducible refine gate_callee (f := 8) rfl ?_); refine goesL_ (some 6) rfl rfl Tryd.func8 (by kernel_rfl) rfl #[] rfl (by (try simp only [List.map_toArray, List.map_cons, List.map_nil]); first | done | rfl | (simp only [List.length_drop, List.length_take]; rfl)) ?_; (with_reducible refine (capnplaw10_awake.calls  false _ A4.out ?tab).mono ?_); (case tab => exact HTAB.out.below (by repeat (first | (with_reducible first | exact HB.out | apply below_alloc | apply pw_below_drewN | apply below_drew1 | refine below_set ?_ GE274.out) | exact HB.out))); rintro e w10 ⟨rfl, hb⟩; refine ⟨_, rfl, ?_⟩; have n0_ := Aside0.mk (blk_below (g := gb274) (o := .cells #[.int .i64 a0_0, .int .i64 a0_1, .int .i64 a0_2, .slice A0_3 l0_3.length c0_3, .slice A0_4 l0_4.length c0_4] 25 (0, 0)) (by (with_reducible repeat (first | refine blk_drewN ?_ _ | refine blk_drew ?_ | refine blk_alloc ?_ _)); exact BK274.out) hb); have n1_ := Aside0.mk (below_step (by repeat (first | (with_reducible first | exact HB.out | apply below_alloc | apply pw_below_drewN | apply below_drew1 | refine below_set ?_ GE274.out) | exact HB.out)) hb); clear BK274; clear HB; have BK274 := n0_; have HB := n1_; clear n0_ n1_; (try clear hb); (try clear hb2); (try clear hk); (try clear hi)))
   go_meet
   case rel => exact ⟨_, (true), (by first | rfl | (simp; done) | (simp [*]; done)), H', ⟨by first | omega | exact Nat.le_refl _⟩, ⟨by (with_reducible repeat (first | refine blk_drewN ?_ _ | refine blk_drew ?_ | refine blk_alloc ?_ _)); exact BK274.out⟩, ⟨by repeat (first | (with_reducible first | exact HB.out | apply below_alloc | apply pw_below_drewN | apply below_drew1 | refine below_set ?_ GE274.out) | exact HB.out)⟩⟩
 case rest =>
  clear HC2
  try clear p2
  try clear c5
  try clear c7
  try clear c8
  try clear hcz8_0
  try clear hcz8_1
  try clear hcz8_2
  try clear hcz8_3
  try clear hcz8_4
  try clear hfz8_0
  try clear hfz8_1
  try clear hfz8_2
  try clear hfz8_3
  try clear hfz8_4
  obtain ⟨kq, x12_1, rfl, HA, HJ1, BK274, HB⟩ := hcut
  cases kq with
  | zero => exact absurd HA.out (by simp [capnplaw10_NodeCopies.j0])
  | succ kj1 =>
   have H := HA.out
   clear HA
   simp only [capnplaw10_NodeCopies.j0] at H
   by_cases c11 : x12_1 = true
   ·subst c11
    have H1 : ((capnplaw10_awake.f).bind fun t277 => (some t277)) = some r := by rw [if_pos rfl] at H; exact H
    clear H
    have H := H1
    clear H1
    replace H := Option.bind_eq_some_iff.mp H
    obtain ⟨t277, A120, H⟩ := H
    replace H : (some t277) = some r := H
    have A12 := Aside0.mk A120
    clear A120
    obtain rfl := Option.some.inj H
    go_wp2_with (first | ((with_reducible refine gate_callee (f := 8) rfl ?_); refine goesL_ (some 13) rfl rfl Tryd.func8 (by kernel_rfl) rfl #[] rfl (by (try simp only [List.map_toArray, List.map_cons, List.map_nil]); first | done | rfl | (simp only [List.length_drop, List.length_take]; rfl)) ?_; (with_reducible refine (capnplaw10_awake.calls  t277 _ A12.out ?tab).mono ?_); (case tab => exact HTAB.out.below (by repeat (first | (with_reducible first | exact HB.out | apply below_alloc | apply pw_below_drewN | apply below_drew1 | refine below_set ?_ GE274.out) | exact HB.out))); rintro e w13 ⟨rfl, hb⟩; refine ⟨_, rfl, ?_⟩; have n0_ := Aside0.mk (blk_below (g := gb274) (o := .cells #[.int .i64 a0_0, .int .i64 a0_1, .int .i64 a0_2, .slice A0_3 l0_3.length c0_3, .slice A0_4 l0_4.length c0_4] 25 (0, 0)) (by (with_reducible repeat (first | refine blk_drewN ?_ _ | refine blk_drew ?_ | refine blk_alloc ?_ _)); exact BK274.out) hb); have n1_ := Aside0.mk (below_step (by repeat (first | (with_reducible first | exact HB.out | apply below_alloc | apply pw_below_drewN | apply below_drew1 | refine below_set ?_ GE274.out) | exact HB.out)) hb); clear BK274; clear HB; have BK274 := n0_; have HB := n1_; clear n0_ n1_; (try clear hb); (try clear hb2); (try clear hk); (try clear hi)))
    go_ret
    exact ⟨by first | rfl | (simp [errW_none, errW_some] <;> rfl) | (simp [*, errW_none, errW_some] <;> rfl), by repeat (first | (with_reducible first | exact HB.out | apply below_alloc | apply pw_below_drewN | apply below_drew1 | refine below_set ?_ GE274.out) | exact HB.out)⟩
   ·replace c11 := Bool.eq_false_iff.mpr c11
    subst c11
    have H1 : ((capnpref10_Copy.f kj1 a0_0 a0_1 a0_2 l0_3 l0_4).bind fun bt278 => ((node_Equal.f kj1 bt278.1 bt278.2.1 bt278.2.2.1 bt278.2.2.2.1 bt278.2.2.2.2 a0_0 a0_1 a0_2 l0_3 l0_4).bind fun t288 => (if t288 = true then ((node_Valid.f kj1 bt278.1 bt278.2.1 bt278.2.2.1 bt278.2.2.2.1 bt278.2.2.2.2).bind fun t289 => ((node_Valid.f kj1 a0_0 a0_1 a0_2 l0_3 l0_4).bind fun t290 => (if (t289 != t290) = true then (capnplaw10_NodeCopies.j1 kj1 true a0_0 a0_1 a0_2 l0_3 l0_4 bt278.1 bt278.2.1 bt278.2.2.1 bt278.2.2.2.1 bt278.2.2.2.2) else ((node_Equal.f kj1 a0_0 a0_1 a0_2 l0_3 l0_4 bt278.1 bt278.2.1 bt278.2.2.1 bt278.2.2.2.1 bt278.2.2.2.2).bind fun t291 => (capnplaw10_NodeCopies.j1 kj1 (!t291) a0_0 a0_1 a0_2 l0_3 l0_4 bt278.1 bt278.2.1 bt278.2.2.1 bt278.2.2.2.1 bt278.2.2.2.2))))) else (capnplaw10_NodeCopies.j1 kj1 true a0_0 a0_1 a0_2 l0_3 l0_4 bt278.1 bt278.2.1 bt278.2.2.1 bt278.2.2.2.1 bt278.2.2.2.2)))) = some r := by rw [if_neg (show ¬ (false = true) by decide)] at H; exact H
    clear H
    have H := H1
    clear H1
    replace H := Option.bind_eq_some_iff.mp H
    obtain ⟨⟨t278, t279, t280, t281, t284⟩, A140, H⟩ := H
    replace H : ((node_Equal.f kj1 t278 t279 t280 t281 t284 a0_0 a0_1 a0_2 l0_3 l0_4).bind fun t288 => (if t288 = true then ((node_Valid.f kj1 t278 t279 t280 t281 t284).bind fun t289 => ((node_Valid.f kj1 a0_0 a0_1 a0_2 l0_3 l0_4).bind fun t290 => (if (t289 != t290) = true then (capnplaw10_NodeCopies.j1 kj1 true a0_0 a0_1 a0_2 l0_3 l0_4 t278 t279 t280 t281 t284) else ((node_Equal.f kj1 a0_0 a0_1 a0_2 l0_3 l0_4 t278 t279 t280 t281 t284).bind fun t291 => (capnplaw10_NodeCopies.j1 kj1 (!t291) a0_0 a0_1 a0_2 l0_3 l0_4 t278 t279 t280 t281 t284))))) else (capnplaw10_NodeCopies.j1 kj1 true a0_0 a0_1 a0_2 l0_3 l0_4 t278 t279 t280 t281 t284))) = some r := H
    have A14 := Aside0.mk A140
    clear A140
    have HC15 := Aside0.mk H
    clear H
    have hcz16_0 : wc.cell? ⟨gb274, 0, none⟩ = some (.int .i64 a0_0) := (blk_cell BK274.out 0).trans rfl
    have hcz16_1 : wc.cell? ⟨gb274, 1, none⟩ = some (.int .i64 a0_1) := (blk_cell BK274.out 1).trans rfl
    have hcz16_2 : wc.cell? ⟨gb274, 2, none⟩ = some (.int .i64 a0_2) := (blk_cell BK274.out 2).trans rfl
    have hcz16_3 : wc.cell? ⟨gb274, 3, none⟩ = some (.slice A0_3 l0_3.length c0_3) := (blk_cell BK274.out 3).trans rfl
    have hcz16_4 : wc.cell? ⟨gb274, 4, none⟩ = some (.slice A0_4 l0_4.length c0_4) := (blk_cell BK274.out 4).trans rfl
    have hfz16_0 := blk_frozen BK274.out 0
    have hfz16_1 := blk_frozen BK274.out 1
    have hfz16_2 := blk_frozen BK274.out 2
    have hfz16_3 := blk_frozen BK274.out 3
    have hfz16_4 := blk_frozen BK274.out 4
    go_upto_region 4 with (first | ((with_reducible refine gate_callee (f := 18) rfl ?_); refine goesL_ (some 15) rfl rfl Tryd.func18 (by kernel_rfl) rfl #[.agg #[.int .i64 a0_0, .int .i64 a0_1, .int .i64 a0_2, .slice A0_3 l0_3.length c0_3, .slice A0_4 l0_4.length c0_4]] rfl (by (try simp only [List.map_toArray, List.map_cons, List.map_nil]); first | done | rfl | (simp only [List.length_drop, List.length_take]; rfl)) ?_; (with_reducible refine (capnpref10_Copy.calls kj1 a0_0 a0_1 a0_2 _ _ l0_3 _ _ l0_4 t278 t279 t280 t281 t284 _ ?side1 ?side2 ?side3 ?side4 A14.out).mono ?_); (case side1 => repeat (first | exact (Kd.C_below HR0_3.out HB.out) | (with_reducible refine Kd.C_alloc ?_ _) | (with_reducible refine Kd.C_drewN ?_ _) | (with_reducible refine Kd.C_drew ?_))); (case side2 => exact HC0_3.out); (case side3 => repeat (first | exact (Kd.C_below HR0_4.out HB.out) | (with_reducible refine Kd.C_alloc ?_ _) | (with_reducible refine Kd.C_drewN ?_ _) | (with_reducible refine Kd.C_drew ?_))); (case side4 => exact HC0_4.out); rintro e w17 ⟨v282, v285, rfl, ho0, ho1, hb⟩; refine ⟨_, rfl, ?_⟩; have n0_ := Aside0.mk (Kd.R_lower ho0 (below_size (by repeat (first | (with_reducible first | exact HB.out | apply below_alloc | apply pw_below_drewN | apply below_drew1 | refine below_set ?_ GE274.out) | exact HB.out)))); have n1_ := Aside0.mk (Kd.R_lower (Kd.R_newB ho1 (g := gb274) (o := .cells #[.int .i64 a0_0, .int .i64 a0_1, .int .i64 a0_2, .slice A0_3 l0_3.length c0_3, .slice A0_4 l0_4.length c0_4] 25 (0, 0)) (by (with_reducible repeat (first | refine blk_drewN ?_ _ | refine blk_drew ?_ | refine blk_alloc ?_ _)); exact BK274.out)) (below_size (by repeat (first | (with_reducible first | exact HB.out | apply below_alloc | apply pw_below_drewN | apply below_drew1 | refine below_set ?_ GE274.out) | exact HB.out)))); have n2_ := Aside0.mk (blk_below (g := gb274) (o := .cells #[.int .i64 a0_0, .int .i64 a0_1, .int .i64 a0_2, .slice A0_3 l0_3.length c0_3, .slice A0_4 l0_4.length c0_4] 25 (0, 0)) (by (with_reducible repeat (first | refine blk_drewN ?_ _ | refine blk_drew ?_ | refine blk_alloc ?_ _)); exact BK274.out) hb); have n3_ := Aside0.mk (below_step (by repeat (first | (with_reducible first | exact HB.out | apply below_alloc | apply pw_below_drewN | apply below_drew1 | refine below_set ?_ GE274.out) | exact HB.out)) hb); clear BK274; clear HB; have HO283 := n0_; have HO286 := n1_; have BK274 := n2_; have HB := n3_; clear n0_ n1_ n2_ n3_; (try clear hb); (try clear hb2); (try clear hk); (try clear hi); (try clear ho0); (try clear ho1)) | ((with_reducible refine gate_dst (N := 3) rfl ?_); refine box_event ?hg (N := 3) ?hd (cs := #[.int .i64 0, .int .i64 0, .int .i64 0, .slice none 0 0, .slice none 0 0]) (t := 25) ?hr ?_; (case hd => rfl); (case hg => rfl); (case hr => first | (go_simp; done) | (go_simp; rfl)); intro gb287 hg w18 hbox hb; have n0_ := Aside0.mk (Kd.R_below (by (with_reducible repeat (first | apply Kd.R_alloc | apply Kd.R_drewN | apply Kd.R_drew)); exact HO283.out) hb); have n1_ := Aside0.mk (Kd.R_below (Kd.R_elderB (by (with_reducible repeat (first | apply Kd.R_alloc | apply Kd.R_drewN | apply Kd.R_drew)); exact HO286.out) gb287 (Nat.le_of_eq hg.symm)) hb); have n2_ := Aside0.mk (blk_below (g := gb274) (o := .cells #[.int .i64 a0_0, .int .i64 a0_1, .int .i64 a0_2, .slice A0_3 l0_3.length c0_3, .slice A0_4 l0_4.length c0_4] 25 (0, 0)) (by (with_reducible repeat (first | refine blk_drewN ?_ _ | refine blk_drew ?_ | refine blk_alloc ?_ _)); exact BK274.out) hb); have n3_ := Aside0.mk (below_step (by repeat (first | (with_reducible first | exact HB.out | apply below_alloc | apply pw_below_drewN | apply below_drew1 | refine below_set ?_ GE274.out) | exact HB.out)) hb); have n4_ := Aside0.mk (hbox); have n5_ := Aside0.mk ((by rw [hg]; exact (below_size (by repeat (first | (with_reducible first | exact HB.out | apply below_alloc | apply pw_below_drewN | apply below_drew1 | refine below_set ?_ GE274.out) | exact HB.out))) : w.heap.size ≤ gb287)); have n6_ := Aside0.mk ((by rw [hg]; exact (below_size (by repeat (first | (with_reducible first | exact HB.out | apply below_alloc | apply pw_below_drewN | apply below_drew1 | refine below_set ?_ GE274.out) | exact HB.out))) : w.heap.size ≤ gb287)); have n7_ := Aside0.mk ((by rw [hg]; exact Nat.ne_of_lt (blk_lt (g := gb274) (o := .cells #[.int .i64 a0_0, .int .i64 a0_1, .int .i64 a0_2, .slice A0_3 l0_3.length c0_3, .slice A0_4 l0_4.length c0_4] 25 (0, 0)) (by (with_reducible repeat (first | refine blk_drewN ?_ _ | refine blk_drew ?_ | refine blk_alloc ?_ _)); exact BK274.out)) : gb274 ≠ gb287)); have n8_ := Aside0.mk ((by rw [hg]; exact Nat.ne_of_gt (blk_lt (g := gb274) (o := .cells #[.int .i64 a0_0, .int .i64 a0_1, .int .i64 a0_2, .slice A0_3 l0_3.length c0_3, .slice A0_4 l0_4.length c0_4] 25 (0, 0)) (by (with_reducible repeat (first | refine blk_drewN ?_ _ | refine blk_drew ?_ | refine blk_alloc ?_ _)); exact BK274.out)) : gb287 ≠ gb274)); clear HO283; clear HO286; clear BK274; clear HB; have HO283 := n0_; have HO286 := n1_; have BK274 := n2_; have HB := n3_; have BK287 := n4_; have GW287 := n5_; have GE287 := n6_; have NB274_287 := n7_; have NB287_274 := n8_; clear n0_ n1_ n2_ n3_ n4_ n5_ n6_ n7_ n8_; clear hb hbox hg; have hnb19 := NB287_274.out; have hnc19 := NB274_287.out; have hcz20_0 : w18.cell? ⟨gb287, 0, none⟩ = some (.int .i64 0) := (blk_cell BK287.out 0).trans rfl; have hcz20_1 : w18.cell? ⟨gb287, 1, none⟩ = some (.int .i64 0) := (blk_cell BK287.out 1).trans rfl; have hcz20_2 : w18.cell? ⟨gb287, 2, none⟩ = some (.int .i64 0) := (blk_cell BK287.out 2).trans rfl; have hcz20_3 : w18.cell? ⟨gb287, 3, none⟩ = some (.slice none 0 0) := (blk_cell BK287.out 3).trans rfl; have hcz20_4 : w18.cell? ⟨gb287, 4, none⟩ = some (.slice none 0 0) := (blk_cell BK287.out 4).trans rfl; have hfz20_0 := blk_frozen BK287.out 0; have hfz20_1 := blk_frozen BK287.out 1; have hfz20_2 := blk_frozen BK287.out 2; have hfz20_3 := blk_frozen BK287.out 3; have hfz20_4 := blk_frozen BK287.out 4; obtain ⟨Ao21, co21, eo21⟩ := Kd.R_slice HO283.out; subst eo21; obtain ⟨Ao22, co22, eo22⟩ := Kd.R_slice HO286.out; subst eo22))
    (try simp only [Act.put, List.setIfInBounds_toArray, List.set_cons_zero, List.set_cons_succ])
    go_cut [32] (fun v32 wc => ∃ (kq : Nat) (x32_14 : Bool), v32 = .bool x32_14 ∧ Aside0 (capnplaw10_NodeCopies.j1 kq x32_14 a0_0 a0_1 a0_2 l0_3 l0_4 t278 t279 t280 t281 t284 = some r) ∧ Aside0 (kq ≤ kj1) ∧ Aside0 (Kd.R (Kd.int .u8) 5 wc w.heap.size (fun _ => True) (.slice Ao21 t281.length co21) t281) ∧ Aside0 (Kd.R k25 25 wc w.heap.size (fun k_ => some k_ ≠ ((.slice Ao21 t281.length co21) : Value).ownBlock ∧ k_ ≠ gb274 ∧ k_ ≠ gb287) (.slice Ao22 t284.length co22) t284) ∧ Aside0 (wc.heap[gb274]? = some (.cells #[.int .i64 a0_0, .int .i64 a0_1, .int .i64 a0_2, (.slice A0_3 l0_3.length c0_3), (.slice A0_4 l0_4.length c0_4)] 25 (0, 0))) ∧ Aside0 (wc.heap[gb287]? = some (.cells #[.int .i64 t278, .int .i64 t279, .int .i64 t280, (.slice Ao21 t281.length co21), (.slice Ao22 t284.length co22)] 25 (0, 0))) ∧ Aside0 (Below w.heap.size w wc))
    case first =>
     have H := HC15.out
     clear HC15
     replace H := Option.bind_eq_some_iff.mp H
     obtain ⟨t288, A230, H⟩ := H
     replace H : (if t288 = true then ((node_Valid.f kj1 t278 t279 t280 t281 t284).bind fun t289 => ((node_Valid.f kj1 a0_0 a0_1 a0_2 l0_3 l0_4).bind fun t290 => (if (t289 != t290) = true then (capnplaw10_NodeCopies.j1 kj1 true a0_0 a0_1 a0_2 l0_3 l0_4 t278 t279 t280 t281 t284) else ((node_Equal.f kj1 a0_0 a0_1 a0_2 l0_3 l0_4 t278 t279 t280 t281 t284).bind fun t291 => (capnplaw10_NodeCopies.j1 kj1 (!t291) a0_0 a0_1 a0_2 l0_3 l0_4 t278 t279 t280 t281 t284))))) else (capnplaw10_NodeCopies.j1 kj1 true a0_0 a0_1 a0_2 l0_3 l0_4 t278 t279 t280 t281 t284)) = some r := H
     have A23 := Aside0.mk A230
     clear A230
     by_cases c24 : t288 = true
     ·subst c24
      have H1 : ((node_Valid.f kj1 t278 t279 t280 t281 t284).bind fun t289 => ((node_Valid.f kj1 a0_0 a0_1 a0_2 l0_3 l0_4).bind fun t290 => (if (t289 != t290) = true then (capnplaw10_NodeCopies.j1 kj1 true a0_0 a0_1 a0_2 l0_3 l0_4 t278 t279 t280 t281 t284) else ((node_Equal.f kj1 a0_0 a0_1 a0_2 l0_3 l0_4 t278 t279 t280 t281 t284).bind fun t291 => (capnplaw10_NodeCopies.j1 kj1 (!t291) a0_0 a0_1 a0_2 l0_3 l0_4 t278 t279 t280 t281 t284))))) = some r := by rw [if_pos rfl] at H; exact H
      clear H
      have H := H1
      clear H1
      replace H := Option.bind_eq_some_iff.mp H
      obtain ⟨t289, A250, H⟩ := H
      replace H : ((node_Valid.f kj1 a0_0 a0_1 a0_2 l0_3 l0_4).bind fun t290 => (if (t289 != t290) = true then (capnplaw10_NodeCopies.j1 kj1 true a0_0 a0_1 a0_2 l0_3 l0_4 t278 t279 t280 t281 t284) else ((node_Equal.f kj1 a0_0 a0_1 a0_2 l0_3 l0_4 t278 t279 t280 t281 t284).bind fun t291 => (capnplaw10_NodeCopies.j1 kj1 (!t291) a0_0 a0_1 a0_2 l0_3 l0_4 t278 t279 t280 t281 t284)))) = some r := H
      have A25 := Aside0.mk A250
      clear A250
      replace H := Option.bind_eq_some_iff.mp H
      obtain ⟨t290, A260, H⟩ := H
      replace H : (if (t289 != t290) = true then (capnplaw10_NodeCopies.j1 kj1 true a0_0 a0_1 a0_2 l0_3 l0_4 t278 t279 t280 t281 t284) else ((node_Equal.f kj1 a0_0 a0_1 a0_2 l0_3 l0_4 t278 t279 t280 t281 t284).bind fun t291 => (capnplaw10_NodeCopies.j1 kj1 (!t291) a0_0 a0_1 a0_2 l0_3 l0_4 t278 t279 t280 t281 t284))) = some r := H
      have A26 := Aside0.mk A260
      clear A260
      by_cases c27 : (t289 != t290) = true
      ·rw [if_pos c27] at H
       have c27b0 : (t289 != t290) = true := c27
       (try (have c27b1 : decide (t289 = t290) = false := by simpa using c27))
       (try (have c27b2 : (t289 == t290) = false := by simpa using c27))
       (try (have c27b3 : ¬ (t289 = t290) := by simpa using c27))
       clear c27
       (first | rw [c27b0] | (simp only [i64_w, i32_w]; rw [c27b0]) | skip)
       have H' := Aside0.mk H
       clear H
       try go_wp2
       have n0_ : Aside0 (Kd.R (Kd.int .u8) 5 (((((w18.setCell ⟨gb287, 0, none⟩ (.int .i64 t278)).setCell ⟨gb287, 1, none⟩ (.int .i64 t279)).setCell ⟨gb287, 2, none⟩ (.int .i64 t280)).setCell ⟨gb287, 3, none⟩ (.slice Ao21 t281.length co21)).setCell ⟨gb287, 4, none⟩ (.slice Ao22 t284.length co22)) w.heap.size (fun _ => True) (.slice Ao21 t281.length co21) t281) := ⟨by (with_reducible repeat (first | apply Kd.R_alloc | apply Kd.R_drewN | apply Kd.R_drew)); exact Kd.R_mono (Kd.R_far (p := ⟨gb287, 4, none⟩) (Kd.R_far (p := ⟨gb287, 3, none⟩) (Kd.R_far (p := ⟨gb287, 2, none⟩) (Kd.R_far (p := ⟨gb287, 1, none⟩) (Kd.R_far (p := ⟨gb287, 0, none⟩) (Kd.R_types HO283.out BK287.out (by decide)) (fun _ hk => hk.2) (.int .i64 t278)) (fun _ hk => hk.2) (.int .i64 t279)) (fun _ hk => hk.2) (.int .i64 t280)) (fun _ hk => hk.2) (.slice Ao21 t281.length co21)) (fun _ hk => hk.2) (.slice Ao22 t284.length co22)) (fun _ hk => trivial)⟩
       have n1_ : Aside0 (Kd.R k25 25 (((((w18.setCell ⟨gb287, 0, none⟩ (.int .i64 t278)).setCell ⟨gb287, 1, none⟩ (.int .i64 t279)).setCell ⟨gb287, 2, none⟩ (.int .i64 t280)).setCell ⟨gb287, 3, none⟩ (.slice Ao21 t281.length co21)).setCell ⟨gb287, 4, none⟩ (.slice Ao22 t284.length co22)) w.heap.size (fun k_ => some k_ ≠ (.slice Ao21 t281.length co21 : Value).ownBlock ∧ k_ ≠ gb274 ∧ k_ ≠ gb287) (.slice Ao22 t284.length co22) t284) := ⟨by (with_reducible repeat (first | apply Kd.R_alloc | apply Kd.R_drewN | apply Kd.R_drew)); exact Kd.R_mono (Kd.R_far (p := ⟨gb287, 4, none⟩) (Kd.R_far (p := ⟨gb287, 3, none⟩) (Kd.R_far (p := ⟨gb287, 2, none⟩) (Kd.R_far (p := ⟨gb287, 1, none⟩) (Kd.R_far (p := ⟨gb287, 0, none⟩) (Kd.R_mono HO286.out (fun k_ hk => (⟨hk, hk.2⟩ : _ ∧ k_ ≠ gb287))) (fun _ hk => hk.2) (.int .i64 t278)) (fun _ hk => hk.2) (.int .i64 t279)) (fun _ hk => hk.2) (.int .i64 t280)) (fun _ hk => hk.2) (.slice Ao21 t281.length co21)) (fun _ hk => hk.2) (.slice Ao22 t284.length co22)) (fun _ hk => ⟨hk.1.1.1, ⟨hk.1.1.2, hk.1.2⟩⟩)⟩
       have n2_ : Aside0 ((((((w18.setCell ⟨gb287, 0, none⟩ (.int .i64 t278)).setCell ⟨gb287, 1, none⟩ (.int .i64 t279)).setCell ⟨gb287, 2, none⟩ (.int .i64 t280)).setCell ⟨gb287, 3, none⟩ (.slice Ao21 t281.length co21)).setCell ⟨gb287, 4, none⟩ (.slice Ao22 t284.length co22)).heap[gb274]? = some (.cells #[.int .i64 a0_0, .int .i64 a0_1, .int .i64 a0_2, .slice A0_3 l0_3.length c0_3, .slice A0_4 l0_4.length c0_4] 25 (0, 0))) := ⟨by (with_reducible repeat (first | refine blk_drewN ?_ _ | refine blk_drew ?_ | refine blk_alloc ?_ _)); refine blk_far ?_ NB274_287.out _; (with_reducible repeat (first | refine blk_drewN ?_ _ | refine blk_drew ?_ | refine blk_alloc ?_ _)); refine blk_far ?_ NB274_287.out _; (with_reducible repeat (first | refine blk_drewN ?_ _ | refine blk_drew ?_ | refine blk_alloc ?_ _)); refine blk_far ?_ NB274_287.out _; (with_reducible repeat (first | refine blk_drewN ?_ _ | refine blk_drew ?_ | refine blk_alloc ?_ _)); refine blk_far ?_ NB274_287.out _; (with_reducible repeat (first | refine blk_drewN ?_ _ | refine blk_drew ?_ | refine blk_alloc ?_ _)); refine blk_far ?_ NB274_287.out _; (with_reducible repeat (first | refine blk_drewN ?_ _ | refine blk_drew ?_ | refine blk_alloc ?_ _)); exact BK274.out⟩
       have n3_ : Aside0 ((((((w18.setCell ⟨gb287, 0, none⟩ (.int .i64 t278)).setCell ⟨gb287, 1, none⟩ (.int .i64 t279)).setCell ⟨gb287, 2, none⟩ (.int .i64 t280)).setCell ⟨gb287, 3, none⟩ (.slice Ao21 t281.length co21)).setCell ⟨gb287, 4, none⟩ (.slice Ao22 t284.length co22)).heap[gb287]? = some (.cells #[.int .i64 t278, .int .i64 t279, .int .i64 t280, .slice Ao21 t281.length co21, .slice Ao22 t284.length co22] 25 (0, 0))) := ⟨by (with_reducible repeat (first | refine blk_drewN ?_ _ | refine blk_drew ?_ | refine blk_alloc ?_ _)); refine blk_put (cs := #[.int .i64 t278, .int .i64 t279, .int .i64 t280, .slice Ao21 t281.length co21, .slice none 0 0]) ?_ 4 _ rfl; (with_reducible repeat (first | refine blk_drewN ?_ _ | refine blk_drew ?_ | refine blk_alloc ?_ _)); refine blk_put (cs := #[.int .i64 t278, .int .i64 t279, .int .i64 t280, .slice none 0 0, .slice none 0 0]) ?_ 3 _ rfl; (with_reducible repeat (first | refine blk_drewN ?_ _ | refine blk_drew ?_ | refine blk_alloc ?_ _)); refine blk_put (cs := #[.int .i64 t278, .int .i64 t279, .int .i64 0, .slice none 0 0, .slice none 0 0]) ?_ 2 _ rfl; (with_reducible repeat (first | refine blk_drewN ?_ _ | refine blk_drew ?_ | refine blk_alloc ?_ _)); refine blk_put (cs := #[.int .i64 t278, .int .i64 0, .int .i64 0, .slice none 0 0, .slice none 0 0]) ?_ 1 _ rfl; (with_reducible repeat (first | refine blk_drewN ?_ _ | refine blk_drew ?_ | refine blk_alloc ?_ _)); refine blk_put (cs := #[.int .i64 0, .int .i64 0, .int .i64 0, .slice none 0 0, .slice none 0 0]) ?_ 0 _ rfl; (with_reducible repeat (first | refine blk_drewN ?_ _ | refine blk_drew ?_ | refine blk_alloc ?_ _)); exact BK287.out⟩
       have n4_ : Aside0 (Below w.heap.size w (((((w18.setCell ⟨gb287, 0, none⟩ (.int .i64 t278)).setCell ⟨gb287, 1, none⟩ (.int .i64 t279)).setCell ⟨gb287, 2, none⟩ (.int .i64 t280)).setCell ⟨gb287, 3, none⟩ (.slice Ao21 t281.length co21)).setCell ⟨gb287, 4, none⟩ (.slice Ao22 t284.length co22))) := ⟨by repeat (first | (with_reducible first | exact HB.out | apply below_alloc | apply pw_below_drewN | apply below_drew1 | refine below_set ?_ GE274.out | refine below_set ?_ GE287.out) | exact HB.out)⟩
       (try clear HO283)
       (try clear HO286)
       (try clear BK274)
       (try clear BK287)
       (try clear HB)
       generalize (((((w18.setCell ⟨gb287, 0, none⟩ (.int .i64 t278)).setCell ⟨gb287, 1, none⟩ (.int .i64 t279)).setCell ⟨gb287, 2, none⟩ (.int .i64 t280)).setCell ⟨gb287, 3, none⟩ (.slice Ao21 t281.length co21)).setCell ⟨gb287, 4, none⟩ (.slice Ao22 t284.length co22)) = w28 at n0_ n1_ n2_ n3_ n4_ ⊢
       have HO283 := n0_
       have HO286 := n1_
       have BK274 := n2_
       have BK287 := n3_
       have HB := n4_
       clear n0_ n1_ n2_ n3_ n4_
       have n0_ := Aside0.mk (Kd.R_drew HO283.out)
       have n1_ := Aside0.mk (Kd.R_drew HO286.out)
       have n2_ := Aside0.mk (blk_drew BK274.out)
       have n3_ := Aside0.mk (blk_drew BK287.out)
       have n4_ := Aside0.mk (below_drew1 HB.out)
       clear HO283
       clear HO286
       clear BK274
       clear BK287
       clear HB
       have HO283 := n0_
       have HO286 := n1_
       have BK274 := n2_
       have BK287 := n3_
       have HB := n4_
       clear n0_ n1_ n2_ n3_ n4_
       refine start_ (n := 17) (S := fun w' => w'.cell? ⟨gb287, 0, none⟩ = some (.int .i64 t278) ∧ w'.cell? ⟨gb287, 1, none⟩ = some (.int .i64 t279) ∧ w'.cell? ⟨gb287, 2, none⟩ = some (.int .i64 t280) ∧ w'.cell? ⟨gb287, 3, none⟩ = some (.slice Ao21 t281.length co21) ∧ w'.cell? ⟨gb287, 4, none⟩ = some (.slice Ao22 t284.length co22) ∧ w'.cell? ⟨gb274, 0, none⟩ = some (.int .i64 a0_0) ∧ w'.cell? ⟨gb274, 1, none⟩ = some (.int .i64 a0_1) ∧ w'.cell? ⟨gb274, 2, none⟩ = some (.int .i64 a0_2) ∧ w'.cell? ⟨gb274, 3, none⟩ = some (.slice A0_3 l0_3.length c0_3) ∧ w'.cell? ⟨gb274, 4, none⟩ = some (.slice A0_4 l0_4.length c0_4)) (ds := []) #[false, false, false, false, false, false, false, false, false, false, false, false, false, false, false, false, false] (by kernel_rfl) rfl rfl ⟨(blk_cell BK287.out 0).trans rfl, (blk_cell BK287.out 1).trans rfl, (blk_cell BK287.out 2).trans rfl, (blk_cell BK287.out 3).trans rfl, (blk_cell BK287.out 4).trans rfl, (blk_cell BK274.out 0).trans rfl, (blk_cell BK274.out 1).trans rfl, (blk_cell BK274.out 2).trans rfl, (blk_cell BK274.out 3).trans rfl, (blk_cell BK274.out 4).trans rfl⟩ (fun hHeld => ?_); refine with_tabW capnplaw10_NodeCopies.tab4 capnplaw10_NodeCopies.bits4 (fun HT_ HW_ => ?_)
       generalize w28.drew = w29 at HO283 HO286 BK274 BK287 HB hHeld ⊢
       refine take_ (i := 0) (N := some 16) (v := ?_) (a' := ?_) #[true, false, false, false, false, false, false, false, false, false, false, false, false, false, false, false, false] rfl rfl (take_ofW HT_.out HW_.out (by kernel_rfl)) (fun _ _ _ h => h) (Or.inl ⟨by rfl, ?_⟩) hHeld ?_ ?_
       rotate_left
       ·rintro w' ⟨s0, s1, s2, s3, s4, s5, s6, s7, s8, s9⟩
        go_simp
        with_reducible rfl
       rotate_left
       ·simp only [Act.put, List.setIfInBounds_toArray, List.set_cons_zero, List.set_cons_succ, i64_w, i32_w]
        rfl
       refine take_ (i := 1) (N := some 17) (v := ?_) (a' := ?_) #[true, true, false, false, false, false, false, false, false, false, false, false, false, false, false, false, false] rfl rfl (take_ofW HT_.out HW_.out (by kernel_rfl)) (fun _ _ _ h => h) (Or.inl ⟨by rfl, ?_⟩) hHeld ?_ ?_
       rotate_left
       ·rintro w' ⟨s0, s1, s2, s3, s4, s5, s6, s7, s8, s9⟩
        go_simp
        with_reducible rfl
       rotate_left
       ·simp only [Act.put, List.setIfInBounds_toArray, List.set_cons_zero, List.set_cons_succ, i64_w, i32_w]
        rfl
       refine one_ (i := 2) (N := some 18) #[true, true, true, false, false, false, false, false, false, false, false, false, false, false, false, false, false] rfl rfl (one_of HT_.out (by kernel_rfl)) (by decide) (fun K hK => ?_)
       refine goes_ Tryd.func12 (by kernel_rfl) rfl #[.agg #[.int .i64 t278, .int .i64 t279, .int .i64 t280, .slice Ao21 t281.length co21, .slice Ao22 t284.length co22], .agg #[.int .i64 a0_0, .int .i64 a0_1, .int .i64 a0_2, .slice A0_3 l0_3.length c0_3, .slice A0_4 l0_4.length c0_4]] (by rfl) rfl rfl (by (try simp only [List.map_toArray, List.map_cons, List.map_nil]); first | done | rfl | (simp only [List.length_drop, List.length_take]; rfl)) ?_
       with_reducible refine (node_Equal.calls kj1 t278 t279 t280 _ _ t281 _ _ t284 a0_0 a0_1 a0_2 _ _ l0_3 _ _ l0_4 true _ ?side1 ?side2 ?side3 ?side4 ?side5 ?side6 ?side7 ?side8 A23.out).mono ?_
       (case side1 => repeat (first | exact (Kd.R_reads' HO283.out).2.2 | (with_reducible refine Kd.C_alloc ?_ _) | (with_reducible refine Kd.C_drewN ?_ _) | (with_reducible refine Kd.C_drew ?_)))
       (case side2 => exact (Kd.R_reads' HO283.out).2.1)
       (case side3 => repeat (first | exact (Kd.R_reads' HO286.out).2.2 | (with_reducible refine Kd.C_alloc ?_ _) | (with_reducible refine Kd.C_drewN ?_ _) | (with_reducible refine Kd.C_drew ?_)))
       (case side4 => exact (Kd.R_reads' HO286.out).2.1)
       (case side5 => repeat (first | exact (Kd.C_below HR0_3.out HB.out) | (with_reducible refine Kd.C_alloc ?_ _) | (with_reducible refine Kd.C_drewN ?_ _) | (with_reducible refine Kd.C_drew ?_)))
       (case side6 => exact HC0_3.out)
       (case side7 => repeat (first | exact (Kd.C_below HR0_4.out HB.out) | (with_reducible refine Kd.C_alloc ?_ _) | (with_reducible refine Kd.C_drewN ?_ _) | (with_reducible refine Kd.C_drew ?_)))
       (case side8 => exact HC0_4.out)
       rintro e w30 ⟨rfl, hb⟩
       refine ⟨_, rfl, ?_⟩
       have n0_ := Aside0.mk (Kd.R_below (by (with_reducible repeat (first | apply Kd.R_alloc | apply Kd.R_drewN | apply Kd.R_drew)); exact HO283.out) hb)
       have n1_ := Aside0.mk (Kd.R_below (by (with_reducible repeat (first | apply Kd.R_alloc | apply Kd.R_drewN | apply Kd.R_drew)); exact HO286.out) hb)
       have n2_ := Aside0.mk (blk_below (g := gb274) (o := .cells #[.int .i64 a0_0, .int .i64 a0_1, .int .i64 a0_2, .slice A0_3 l0_3.length c0_3, .slice A0_4 l0_4.length c0_4] 25 (0, 0)) (by (with_reducible repeat (first | refine blk_drewN ?_ _ | refine blk_drew ?_ | refine blk_alloc ?_ _)); exact BK274.out) hb)
       have n3_ := Aside0.mk (blk_below (g := gb287) (o := .cells #[.int .i64 t278, .int .i64 t279, .int .i64 t280, .slice Ao21 t281.length co21, .slice Ao22 t284.length co22] 25 (0, 0)) (by (with_reducible repeat (first | refine blk_drewN ?_ _ | refine blk_drew ?_ | refine blk_alloc ?_ _)); exact BK287.out) hb)
       have n4_ := Aside0.mk (below_step (by repeat (first | (with_reducible first | exact HB.out | apply below_alloc | apply pw_below_drewN | apply below_drew1 | refine below_set ?_ GE274.out | refine below_set ?_ GE287.out) | exact HB.out)) hb)
       clear HO283
       clear HO286
       clear BK274
       clear BK287
       clear HB
       have HO283 := n0_
       have HO286 := n1_
       have BK274 := n2_
       have BK287 := n3_
       have HB := n4_
       clear n0_ n1_ n2_ n3_ n4_
       (try clear hb)
       (try clear hb2)
       (try clear hk)
       (try clear hi)
       refine hK.out _ _ ⟨(blk_cell BK287.out 0).trans rfl, (blk_cell BK287.out 1).trans rfl, (blk_cell BK287.out 2).trans rfl, (blk_cell BK287.out 3).trans rfl, (blk_cell BK287.out 4).trans rfl, (blk_cell BK274.out 0).trans rfl, (blk_cell BK274.out 1).trans rfl, (blk_cell BK274.out 2).trans rfl, (blk_cell BK274.out 3).trans rfl, (blk_cell BK274.out 4).trans rfl⟩ (fun hHeld => ?_)
       clear hK K
       refine norm_ (a' := ?_) ?_ ?_
       rotate_left
       ·show Act.put _ (some 18) _ = _
        simp only [Act.put, List.setIfInBounds_toArray, List.set_cons_zero, List.set_cons_succ, i64_w, i32_w]
        rfl
       refine pure_ (i := 3) (N := some 19) (v := ?_) (a' := ?_) #[true, true, true, true, false, false, false, false, false, false, false, false, false, false, false, false, false] rfl rfl (any_of HT_.out (by kernel_rfl)) (fun _ _ _ h => h) (Or.inl ⟨by rfl, ?_⟩) ?_ ?_
       rotate_left
       ·intro w'
        go_simp
        with_reducible rfl
       rotate_left
       ·simp only [Act.put, List.setIfInBounds_toArray, List.set_cons_zero, List.set_cons_succ, i64_w, i32_w]
        rfl
       refine pure_ (i := 4) (N := some 20) (v := ?_) (a' := ?_) #[true, true, true, true, true, false, false, false, false, false, false, false, false, false, false, false, false] rfl rfl (any_of HT_.out (by kernel_rfl)) (fun _ _ _ h => h) (Or.inl ⟨by rfl, ?_⟩) ?_ ?_
       rotate_left
       ·intro w'
        go_simp
        with_reducible rfl
       rotate_left
       ·simp only [Act.put, List.setIfInBounds_toArray, List.set_cons_zero, List.set_cons_succ, i64_w, i32_w]
        rfl
       refine take_ (i := 5) (N := some 21) (v := ?_) (a' := ?_) #[true, true, true, true, true, true, false, false, false, false, false, false, false, false, false, false, false] rfl rfl (take_ofW HT_.out HW_.out (by kernel_rfl)) (fun _ _ _ h => h) (Or.inl ⟨by rfl, ?_⟩) hHeld ?_ ?_
       rotate_left
       ·rintro w' ⟨s0, s1, s2, s3, s4, s5, s6, s7, s8, s9⟩
        go_simp
        with_reducible rfl
       rotate_left
       ·simp only [Act.put, List.setIfInBounds_toArray, List.set_cons_zero, List.set_cons_succ, i64_w, i32_w]
        rfl
       refine take_ (i := 7) (N := some 23) (v := ?_) (a' := ?_) #[true, true, true, true, true, true, false, true, false, false, false, false, false, false, false, false, false] rfl rfl (take_ofW HT_.out HW_.out (by kernel_rfl)) (fun _ _ _ h => h) (Or.inl ⟨by rfl, ?_⟩) hHeld ?_ ?_
       rotate_left
       ·rintro w' ⟨s0, s1, s2, s3, s4, s5, s6, s7, s8, s9⟩
        go_simp
        with_reducible rfl
       rotate_left
       ·simp only [Act.put, List.setIfInBounds_toArray, List.set_cons_zero, List.set_cons_succ, i64_w, i32_w]
        rfl
       refine one_ (i := 6) (N := some 22) #[true, true, true, true, true, true, true, true, false, false, false, false, false, false, false, false, false] rfl rfl (one_of HT_.out (by kernel_rfl)) (by decide) (fun K hK => ?_)
       refine goes_ Tryd.func10 (by kernel_rfl) rfl #[.agg #[.int .i64 t278, .int .i64 t279, .int .i64 t280, .slice Ao21 t281.length co21, .slice Ao22 t284.length co22]] (by rfl) rfl rfl (by (try simp only [List.map_toArray, List.map_cons, List.map_nil]); first | done | rfl | (simp only [List.length_drop, List.length_take]; rfl)) ?_
       with_reducible refine (node_Valid.calls kj1 t278 t279 t280 _ _ t281 _ _ t284 t289 _ ?side1 ?side2 ?side3 ?side4 A25.out ?tab).mono ?_
       (case tab => exact HTAB.out.below (by repeat (first | (with_reducible first | exact HB.out | apply below_alloc | apply pw_below_drewN | apply below_drew1) | exact HB.out)))
       (case side1 => repeat (first | exact (Kd.R_reads' HO283.out).2.2 | (with_reducible refine Kd.C_alloc ?_ _) | (with_reducible refine Kd.C_drewN ?_ _) | (with_reducible refine Kd.C_drew ?_)))
       (case side2 => exact (Kd.R_reads' HO283.out).2.1)
       (case side3 => repeat (first | exact (Kd.R_reads' HO286.out).2.2 | (with_reducible refine Kd.C_alloc ?_ _) | (with_reducible refine Kd.C_drewN ?_ _) | (with_reducible refine Kd.C_drew ?_)))
       (case side4 => exact (Kd.R_reads' HO286.out).2.1)
       rintro e w31 ⟨rfl, hb⟩
       refine ⟨_, rfl, ?_⟩
       have n0_ := Aside0.mk (Kd.R_below (by (with_reducible repeat (first | apply Kd.R_alloc | apply Kd.R_drewN | apply Kd.R_drew)); exact HO283.out) hb)
       have n1_ := Aside0.mk (Kd.R_below (by (with_reducible repeat (first | apply Kd.R_alloc | apply Kd.R_drewN | apply Kd.R_drew)); exact HO286.out) hb)
       have n2_ := Aside0.mk (blk_below (g := gb274) (o := .cells #[.int .i64 a0_0, .int .i64 a0_1, .int .i64 a0_2, .slice A0_3 l0_3.length c0_3, .slice A0_4 l0_4.length c0_4] 25 (0, 0)) (by (with_reducible repeat (first | refine blk_drewN ?_ _ | refine blk_drew ?_ | refine blk_alloc ?_ _)); exact BK274.out) hb)
       have n3_ := Aside0.mk (blk_below (g := gb287) (o := .cells #[.int .i64 t278, .int .i64 t279, .int .i64 t280, .slice Ao21 t281.length co21, .slice Ao22 t284.length co22] 25 (0, 0)) (by (with_reducible repeat (first | refine blk_drewN ?_ _ | refine blk_drew ?_ | refine blk_alloc ?_ _)); exact BK287.out) hb)
       have n4_ := Aside0.mk (below_step (by repeat (first | (with_reducible first | exact HB.out | apply below_alloc | apply pw_below_drewN | apply below_drew1 | refine below_set ?_ GE274.out | refine below_set ?_ GE287.out) | exact HB.out)) hb)
       clear HO283
       clear HO286
       clear BK274
       clear BK287
       clear HB
       have HO283 := n0_
       have HO286 := n1_
       have BK274 := n2_
       have BK287 := n3_
       have HB := n4_
       clear n0_ n1_ n2_ n3_ n4_
       (try clear hb)
       (try clear hb2)
       (try clear hk)
       (try clear hi)
       refine hK.out _ _ ⟨(blk_cell BK287.out 0).trans rfl, (blk_cell BK287.out 1).trans rfl, (blk_cell BK287.out 2).trans rfl, (blk_cell BK287.out 3).trans rfl, (blk_cell BK287.out 4).trans rfl, (blk_cell BK274.out 0).trans rfl, (blk_cell BK274.out 1).trans rfl, (blk_cell BK274.out 2).trans rfl, (blk_cell BK274.out 3).trans rfl, (blk_cell BK274.out 4).trans rfl⟩ (fun hHeld => ?_)
       clear hK K
       refine norm_ (a' := ?_) ?_ ?_
       rotate_left
       ·show Act.put _ (some 22) _ = _
        simp only [Act.put, List.setIfInBounds_toArray, List.set_cons_zero, List.set_cons_succ, i64_w, i32_w]
        rfl
       refine one_ (i := 8) (N := some 24) #[true, true, true, true, true, true, true, true, true, false, false, false, false, false, false, false, false] rfl rfl (one_of HT_.out (by kernel_rfl)) (by decide) (fun K hK => ?_)
       refine goes_ Tryd.func10 (by kernel_rfl) rfl #[.agg #[.int .i64 a0_0, .int .i64 a0_1, .int .i64 a0_2, .slice A0_3 l0_3.length c0_3, .slice A0_4 l0_4.length c0_4]] (by rfl) rfl rfl (by (try simp only [List.map_toArray, List.map_cons, List.map_nil]); first | done | rfl | (simp only [List.length_drop, List.length_take]; rfl)) ?_
       with_reducible refine (node_Valid.calls kj1 a0_0 a0_1 a0_2 _ _ l0_3 _ _ l0_4 t290 _ ?side1 ?side2 ?side3 ?side4 A26.out ?tab).mono ?_
       (case tab => exact HTAB.out.below (by repeat (first | (with_reducible first | exact HB.out | apply below_alloc | apply pw_below_drewN | apply below_drew1) | exact HB.out)))
       (case side1 => repeat (first | exact (Kd.C_below HR0_3.out HB.out) | (with_reducible refine Kd.C_alloc ?_ _) | (with_reducible refine Kd.C_drewN ?_ _) | (with_reducible refine Kd.C_drew ?_)))
       (case side2 => exact HC0_3.out)
       (case side3 => repeat (first | exact (Kd.C_below HR0_4.out HB.out) | (with_reducible refine Kd.C_alloc ?_ _) | (with_reducible refine Kd.C_drewN ?_ _) | (with_reducible refine Kd.C_drew ?_)))
       (case side4 => exact HC0_4.out)
       rintro e w32 ⟨rfl, hb⟩
       refine ⟨_, rfl, ?_⟩
       have n0_ := Aside0.mk (Kd.R_below (by (with_reducible repeat (first | apply Kd.R_alloc | apply Kd.R_drewN | apply Kd.R_drew)); exact HO283.out) hb)
       have n1_ := Aside0.mk (Kd.R_below (by (with_reducible repeat (first | apply Kd.R_alloc | apply Kd.R_drewN | apply Kd.R_drew)); exact HO286.out) hb)
       have n2_ := Aside0.mk (blk_below (g := gb274) (o := .cells #[.int .i64 a0_0, .int .i64 a0_1, .int .i64 a0_2, .slice A0_3 l0_3.length c0_3, .slice A0_4 l0_4.length c0_4] 25 (0, 0)) (by (with_reducible repeat (first | refine blk_drewN ?_ _ | refine blk_drew ?_ | refine blk_alloc ?_ _)); exact BK274.out) hb)
       have n3_ := Aside0.mk (blk_below (g := gb287) (o := .cells #[.int .i64 t278, .int .i64 t279, .int .i64 t280, .slice Ao21 t281.length co21, .slice Ao22 t284.length co22] 25 (0, 0)) (by (with_reducible repeat (first | refine blk_drewN ?_ _ | refine blk_drew ?_ | refine blk_alloc ?_ _)); exact BK287.out) hb)
       have n4_ := Aside0.mk (below_step (by repeat (first | (with_reducible first | exact HB.out | apply below_alloc | apply pw_below_drewN | apply below_drew1 | refine below_set ?_ GE274.out | refine below_set ?_ GE287.out) | exact HB.out)) hb)
       clear HO283
       clear HO286
       clear BK274
       clear BK287
       clear HB
       have HO283 := n0_
       have HO286 := n1_
       have BK274 := n2_
       have BK287 := n3_
       have HB := n4_
       clear n0_ n1_ n2_ n3_ n4_
       (try clear hb)
       (try clear hb2)
       (try clear hk)
       (try clear hi)
       refine hK.out _ _ ⟨(blk_cell BK287.out 0).trans rfl, (blk_cell BK287.out 1).trans rfl, (blk_cell BK287.out 2).trans rfl, (blk_cell BK287.out 3).trans rfl, (blk_cell BK287.out 4).trans rfl, (blk_cell BK274.out 0).trans rfl, (blk_cell BK274.out 1).trans rfl, (blk_cell BK274.out 2).trans rfl, (blk_cell BK274.out 3).trans rfl, (blk_cell BK274.out 4).trans rfl⟩ (fun hHeld => ?_)
       clear hK K
       refine norm_ (a' := ?_) ?_ ?_
       rotate_left
       ·show Act.put _ (some 24) _ = _
        simp only [Act.put, List.setIfInBounds_toArray, List.set_cons_zero, List.set_cons_succ, i64_w, i32_w]
        rfl
       refine pure_ (i := 9) (N := some 25) (v := ?_) (a' := ?_) #[true, true, true, true, true, true, true, true, true, true, false, false, false, false, false, false, false] rfl rfl (any_of HT_.out (by kernel_rfl)) (fun _ _ _ h => h) (Or.inl ⟨by rfl, ?_⟩) ?_ ?_
       rotate_left
       ·intro w'
        go_simp
        with_reducible rfl
       rotate_left
       ·simp only [Act.put, List.setIfInBounds_toArray, List.set_cons_zero, List.set_cons_succ, i64_w, i32_w]
        rfl
       refine pure_ (i := 10) (N := some 26) (v := ?_) (a' := ?_) #[true, true, true, true, true, true, true, true, true, true, true, false, false, false, false, false, false] rfl rfl (any_of HT_.out (by kernel_rfl)) (fun _ _ _ h => h) (Or.inl ⟨by rfl, ?_⟩) ?_ ?_
       rotate_left
       ·intro w'
        go_simp
        with_reducible rfl
       rotate_left
       ·simp only [Act.put, List.setIfInBounds_toArray, List.set_cons_zero, List.set_cons_succ, i64_w, i32_w]
        rfl
       refine pure_ (i := 11) (N := some 27) (v := ?_) (a' := ?_) #[true, true, true, true, true, true, true, true, true, true, true, true, false, false, false, false, false] rfl rfl (any_of HT_.out (by kernel_rfl)) (fun _ _ _ h => h) (Or.inl ⟨by rfl, ?_⟩) ?_ ?_
       rotate_left
       ·intro w'
        go_simp
        with_reducible rfl
       rotate_left
       ·simp only [Act.put, List.setIfInBounds_toArray, List.set_cons_zero, List.set_cons_succ, i64_w, i32_w]
        rfl
       refine pure_ (i := 12) (N := some 28) (v := undef) (a' := ?_) #[true, true, true, true, true, true, true, true, true, true, true, true, true, false, false, false, false] rfl rfl (any_of HT_.out (by kernel_rfl)) (fun _ _ _ h => h) (Or.inr ⟨by rfl, rfl⟩) ?_ ?_
       rotate_left
       ·simp only [Act.put, List.setIfInBounds_toArray, List.set_cons_zero, List.set_cons_succ, i64_w, i32_w]
        rfl
       refine pure_ (i := 13) (N := some 29) (v := undef) (a' := ?_) #[true, true, true, true, true, true, true, true, true, true, true, true, true, true, false, false, false] rfl rfl (any_of HT_.out (by kernel_rfl)) (fun _ _ _ h => h) (Or.inr ⟨by rfl, rfl⟩) ?_ ?_
       rotate_left
       ·simp only [Act.put, List.setIfInBounds_toArray, List.set_cons_zero, List.set_cons_succ, i64_w, i32_w]
        rfl
       refine pure_ (i := 14) (N := some 30) (v := undef) (a' := ?_) #[true, true, true, true, true, true, true, true, true, true, true, true, true, true, true, false, false] rfl rfl (any_of HT_.out (by kernel_rfl)) (fun _ _ _ h => h) (Or.inr ⟨by rfl, rfl⟩) ?_ ?_
       rotate_left
       ·simp only [Act.put, List.setIfInBounds_toArray, List.set_cons_zero, List.set_cons_succ, i64_w, i32_w]
        rfl
       refine pure_ (i := 15) (N := some 31) (v := undef) (a' := ?_) #[true, true, true, true, true, true, true, true, true, true, true, true, true, true, true, true, false] rfl rfl (any_of HT_.out (by kernel_rfl)) (fun _ _ _ h => h) (Or.inr ⟨by rfl, rfl⟩) ?_ ?_
       rotate_left
       ·simp only [Act.put, List.setIfInBounds_toArray, List.set_cons_zero, List.set_cons_succ, i64_w, i32_w]
        rfl
       refine pure_ (i := 16) (N := some 32) (v := ?_) (a' := ?_) #[true, true, true, true, true, true, true, true, true, true, true, true, true, true, true, true, true] rfl rfl (any_of HT_.out (by kernel_rfl)) (fun _ _ _ h => h) (Or.inl ⟨by rfl, ?_⟩) ?_ ?_
       rotate_left
       ·intro w'
        go_simp
        with_reducible rfl
       rotate_left
       ·simp only [Act.put, List.setIfInBounds_toArray, List.set_cons_zero, List.set_cons_succ, i64_w, i32_w]
        rfl
       refine done_ (done_of HT_.out (by kernel_rfl)) ?_
       try go_wp2
       go_meet
       case rel => exact ⟨_, (true), (by first | rfl | (simp; done) | (simp [*]; done)), H', ⟨by have := HJ1.out; first | omega | exact Nat.le_refl _⟩, ⟨by (with_reducible repeat (first | apply Kd.R_alloc | apply Kd.R_drewN | apply Kd.R_drew)); exact HO283.out⟩, ⟨by (with_reducible repeat (first | apply Kd.R_alloc | apply Kd.R_drewN | apply Kd.R_drew)); exact HO286.out⟩, ⟨by (with_reducible repeat (first | refine blk_drewN ?_ _ | refine blk_drew ?_ | refine blk_alloc ?_ _)); exact BK274.out⟩, ⟨by (with_reducible repeat (first | refine blk_drewN ?_ _ | refine blk_drew ?_ | refine blk_alloc ?_ _)); exact BK287.out⟩, ⟨by repeat (first | (with_reducible first | exact HB.out | apply below_alloc | apply pw_below_drewN | apply below_drew1 | refine below_set ?_ GE274.out | refine below_set ?_ GE287.out) | exact HB.out)⟩⟩
      ·rw [if_neg c27] at H
       have c27b0 : (t289 != t290) = false := by simpa using c27
       (try (have c27b1 : decide (t289 = t290) = true := by simpa using c27))
       (try (have c27b2 : (t289 == t290) = true := by simpa using c27))
       clear c27
       (first | rw [c27b0] | (simp only [i64_w, i32_w]; rw [c27b0]) | skip)
       replace H := Option.bind_eq_some_iff.mp H
       obtain ⟨t291, A330, H⟩ := H
       replace H : (capnplaw10_NodeCopies.j1 kj1 (!t291) a0_0 a0_1 a0_2 l0_3 l0_4 t278 t279 t280 t281 t284) = some r := H
       have A33 := Aside0.mk A330
       clear A330
       have H' := Aside0.mk H
       clear H
       try go_wp2
       have n0_ : Aside0 (Kd.R (Kd.int .u8) 5 (((((w18.setCell ⟨gb287, 0, none⟩ (.int .i64 t278)).setCell ⟨gb287, 1, none⟩ (.int .i64 t279)).setCell ⟨gb287, 2, none⟩ (.int .i64 t280)).setCell ⟨gb287, 3, none⟩ (.slice Ao21 t281.length co21)).setCell ⟨gb287, 4, none⟩ (.slice Ao22 t284.length co22)) w.heap.size (fun _ => True) (.slice Ao21 t281.length co21) t281) := ⟨by (with_reducible repeat (first | apply Kd.R_alloc | apply Kd.R_drewN | apply Kd.R_drew)); exact Kd.R_mono (Kd.R_far (p := ⟨gb287, 4, none⟩) (Kd.R_far (p := ⟨gb287, 3, none⟩) (Kd.R_far (p := ⟨gb287, 2, none⟩) (Kd.R_far (p := ⟨gb287, 1, none⟩) (Kd.R_far (p := ⟨gb287, 0, none⟩) (Kd.R_types HO283.out BK287.out (by decide)) (fun _ hk => hk.2) (.int .i64 t278)) (fun _ hk => hk.2) (.int .i64 t279)) (fun _ hk => hk.2) (.int .i64 t280)) (fun _ hk => hk.2) (.slice Ao21 t281.length co21)) (fun _ hk => hk.2) (.slice Ao22 t284.length co22)) (fun _ hk => trivial)⟩
       have n1_ : Aside0 (Kd.R k25 25 (((((w18.setCell ⟨gb287, 0, none⟩ (.int .i64 t278)).setCell ⟨gb287, 1, none⟩ (.int .i64 t279)).setCell ⟨gb287, 2, none⟩ (.int .i64 t280)).setCell ⟨gb287, 3, none⟩ (.slice Ao21 t281.length co21)).setCell ⟨gb287, 4, none⟩ (.slice Ao22 t284.length co22)) w.heap.size (fun k_ => some k_ ≠ (.slice Ao21 t281.length co21 : Value).ownBlock ∧ k_ ≠ gb274 ∧ k_ ≠ gb287) (.slice Ao22 t284.length co22) t284) := ⟨by (with_reducible repeat (first | apply Kd.R_alloc | apply Kd.R_drewN | apply Kd.R_drew)); exact Kd.R_mono (Kd.R_far (p := ⟨gb287, 4, none⟩) (Kd.R_far (p := ⟨gb287, 3, none⟩) (Kd.R_far (p := ⟨gb287, 2, none⟩) (Kd.R_far (p := ⟨gb287, 1, none⟩) (Kd.R_far (p := ⟨gb287, 0, none⟩) (Kd.R_mono HO286.out (fun k_ hk => (⟨hk, hk.2⟩ : _ ∧ k_ ≠ gb287))) (fun _ hk => hk.2) (.int .i64 t278)) (fun _ hk => hk.2) (.int .i64 t279)) (fun _ hk => hk.2) (.int .i64 t280)) (fun _ hk => hk.2) (.slice Ao21 t281.length co21)) (fun _ hk => hk.2) (.slice Ao22 t284.length co22)) (fun _ hk => ⟨hk.1.1.1, ⟨hk.1.1.2, hk.1.2⟩⟩)⟩
       have n2_ : Aside0 ((((((w18.setCell ⟨gb287, 0, none⟩ (.int .i64 t278)).setCell ⟨gb287, 1, none⟩ (.int .i64 t279)).setCell ⟨gb287, 2, none⟩ (.int .i64 t280)).setCell ⟨gb287, 3, none⟩ (.slice Ao21 t281.length co21)).setCell ⟨gb287, 4, none⟩ (.slice Ao22 t284.length co22)).heap[gb274]? = some (.cells #[.int .i64 a0_0, .int .i64 a0_1, .int .i64 a0_2, .slice A0_3 l0_3.length c0_3, .slice A0_4 l0_4.length c0_4] 25 (0, 0))) := ⟨by (with_reducible repeat (first | refine blk_drewN ?_ _ | refine blk_drew ?_ | refine blk_alloc ?_ _)); refine blk_far ?_ NB274_287.out _; (with_reducible repeat (first | refine blk_drewN ?_ _ | refine blk_drew ?_ | refine blk_alloc ?_ _)); refine blk_far ?_ NB274_287.out _; (with_reducible repeat (first | refine blk_drewN ?_ _ | refine blk_drew ?_ | refine blk_alloc ?_ _)); refine blk_far ?_ NB274_287.out _; (with_reducible repeat (first | refine blk_drewN ?_ _ | refine blk_drew ?_ | refine blk_alloc ?_ _)); refine blk_far ?_ NB274_287.out _; (with_reducible repeat (first | refine blk_drewN ?_ _ | refine blk_drew ?_ | refine blk_alloc ?_ _)); refine blk_far ?_ NB274_287.out _; (with_reducible repeat (first | refine blk_drewN ?_ _ | refine blk_drew ?_ | refine blk_alloc ?_ _)); exact BK274.out⟩
       have n3_ : Aside0 ((((((w18.setCell ⟨gb287, 0, none⟩ (.int .i64 t278)).setCell ⟨gb287, 1, none⟩ (.int .i64 t279)).setCell ⟨gb287, 2, none⟩ (.int .i64 t280)).setCell ⟨gb287, 3, none⟩ (.slice Ao21 t281.length co21)).setCell ⟨gb287, 4, none⟩ (.slice Ao22 t284.length co22)).heap[gb287]? = some (.cells #[.int .i64 t278, .int .i64 t279, .int .i64 t280, .slice Ao21 t281.length co21, .slice Ao22 t284.length co22] 25 (0, 0))) := ⟨by (with_reducible repeat (first | refine blk_drewN ?_ _ | refine blk_drew ?_ | refine blk_alloc ?_ _)); refine blk_put (cs := #[.int .i64 t278, .int .i64 t279, .int .i64 t280, .slice Ao21 t281.length co21, .slice none 0 0]) ?_ 4 _ rfl; (with_reducible repeat (first | refine blk_drewN ?_ _ | refine blk_drew ?_ | refine blk_alloc ?_ _)); refine blk_put (cs := #[.int .i64 t278, .int .i64 t279, .int .i64 t280, .slice none 0 0, .slice none 0 0]) ?_ 3 _ rfl; (with_reducible repeat (first | refine blk_drewN ?_ _ | refine blk_drew ?_ | refine blk_alloc ?_ _)); refine blk_put (cs := #[.int .i64 t278, .int .i64 t279, .int .i64 0, .slice none 0 0, .slice none 0 0]) ?_ 2 _ rfl; (with_reducible repeat (first | refine blk_drewN ?_ _ | refine blk_drew ?_ | refine blk_alloc ?_ _)); refine blk_put (cs := #[.int .i64 t278, .int .i64 0, .int .i64 0, .slice none 0 0, .slice none 0 0]) ?_ 1 _ rfl; (with_reducible repeat (first | refine blk_drewN ?_ _ | refine blk_drew ?_ | refine blk_alloc ?_ _)); refine blk_put (cs := #[.int .i64 0, .int .i64 0, .int .i64 0, .slice none 0 0, .slice none 0 0]) ?_ 0 _ rfl; (with_reducible repeat (first | refine blk_drewN ?_ _ | refine blk_drew ?_ | refine blk_alloc ?_ _)); exact BK287.out⟩
       have n4_ : Aside0 (Below w.heap.size w (((((w18.setCell ⟨gb287, 0, none⟩ (.int .i64 t278)).setCell ⟨gb287, 1, none⟩ (.int .i64 t279)).setCell ⟨gb287, 2, none⟩ (.int .i64 t280)).setCell ⟨gb287, 3, none⟩ (.slice Ao21 t281.length co21)).setCell ⟨gb287, 4, none⟩ (.slice Ao22 t284.length co22))) := ⟨by repeat (first | (with_reducible first | exact HB.out | apply below_alloc | apply pw_below_drewN | apply below_drew1 | refine below_set ?_ GE274.out | refine below_set ?_ GE287.out) | exact HB.out)⟩
       (try clear HO283)
       (try clear HO286)
       (try clear BK274)
       (try clear BK287)
       (try clear HB)
       generalize (((((w18.setCell ⟨gb287, 0, none⟩ (.int .i64 t278)).setCell ⟨gb287, 1, none⟩ (.int .i64 t279)).setCell ⟨gb287, 2, none⟩ (.int .i64 t280)).setCell ⟨gb287, 3, none⟩ (.slice Ao21 t281.length co21)).setCell ⟨gb287, 4, none⟩ (.slice Ao22 t284.length co22)) = w34 at n0_ n1_ n2_ n3_ n4_ ⊢
       have HO283 := n0_
       have HO286 := n1_
       have BK274 := n2_
       have BK287 := n3_
       have HB := n4_
       clear n0_ n1_ n2_ n3_ n4_
       have n0_ := Aside0.mk (Kd.R_drew HO283.out)
       have n1_ := Aside0.mk (Kd.R_drew HO286.out)
       have n2_ := Aside0.mk (blk_drew BK274.out)
       have n3_ := Aside0.mk (blk_drew BK287.out)
       have n4_ := Aside0.mk (below_drew1 HB.out)
       clear HO283
       clear HO286
       clear BK274
       clear BK287
       clear HB
       have HO283 := n0_
       have HO286 := n1_
       have BK274 := n2_
       have BK287 := n3_
       have HB := n4_
       clear n0_ n1_ n2_ n3_ n4_
       refine start_ (n := 17) (S := fun w' => w'.cell? ⟨gb287, 0, none⟩ = some (.int .i64 t278) ∧ w'.cell? ⟨gb287, 1, none⟩ = some (.int .i64 t279) ∧ w'.cell? ⟨gb287, 2, none⟩ = some (.int .i64 t280) ∧ w'.cell? ⟨gb287, 3, none⟩ = some (.slice Ao21 t281.length co21) ∧ w'.cell? ⟨gb287, 4, none⟩ = some (.slice Ao22 t284.length co22) ∧ w'.cell? ⟨gb274, 0, none⟩ = some (.int .i64 a0_0) ∧ w'.cell? ⟨gb274, 1, none⟩ = some (.int .i64 a0_1) ∧ w'.cell? ⟨gb274, 2, none⟩ = some (.int .i64 a0_2) ∧ w'.cell? ⟨gb274, 3, none⟩ = some (.slice A0_3 l0_3.length c0_3) ∧ w'.cell? ⟨gb274, 4, none⟩ = some (.slice A0_4 l0_4.length c0_4)) (ds := []) #[false, false, false, false, false, false, false, false, false, false, false, false, false, false, false, false, false] (by kernel_rfl) rfl rfl ⟨(blk_cell BK287.out 0).trans rfl, (blk_cell BK287.out 1).trans rfl, (blk_cell BK287.out 2).trans rfl, (blk_cell BK287.out 3).trans rfl, (blk_cell BK287.out 4).trans rfl, (blk_cell BK274.out 0).trans rfl, (blk_cell BK274.out 1).trans rfl, (blk_cell BK274.out 2).trans rfl, (blk_cell BK274.out 3).trans rfl, (blk_cell BK274.out 4).trans rfl⟩ (fun hHeld => ?_); refine with_tabW capnplaw10_NodeCopies.tab4 capnplaw10_NodeCopies.bits4 (fun HT_ HW_ => ?_)
       generalize w34.drew = w35 at HO283 HO286 BK274 BK287 HB hHeld ⊢
       refine take_ (i := 0) (N := some 16) (v := ?_) (a' := ?_) #[true, false, false, false, false, false, false, false, false, false, false, false, false, false, false, false, false] rfl rfl (take_ofW HT_.out HW_.out (by kernel_rfl)) (fun _ _ _ h => h) (Or.inl ⟨by rfl, ?_⟩) hHeld ?_ ?_
       rotate_left
       ·rintro w' ⟨s0, s1, s2, s3, s4, s5, s6, s7, s8, s9⟩
        go_simp
        with_reducible rfl
       rotate_left
       ·simp only [Act.put, List.setIfInBounds_toArray, List.set_cons_zero, List.set_cons_succ, i64_w, i32_w]
        rfl
       refine take_ (i := 1) (N := some 17) (v := ?_) (a' := ?_) #[true, true, false, false, false, false, false, false, false, false, false, false, false, false, false, false, false] rfl rfl (take_ofW HT_.out HW_.out (by kernel_rfl)) (fun _ _ _ h => h) (Or.inl ⟨by rfl, ?_⟩) hHeld ?_ ?_
       rotate_left
       ·rintro w' ⟨s0, s1, s2, s3, s4, s5, s6, s7, s8, s9⟩
        go_simp
        with_reducible rfl
       rotate_left
       ·simp only [Act.put, List.setIfInBounds_toArray, List.set_cons_zero, List.set_cons_succ, i64_w, i32_w]
        rfl
       refine one_ (i := 2) (N := some 18) #[true, true, true, false, false, false, false, false, false, false, false, false, false, false, false, false, false] rfl rfl (one_of HT_.out (by kernel_rfl)) (by decide) (fun K hK => ?_)
       refine goes_ Tryd.func12 (by kernel_rfl) rfl #[.agg #[.int .i64 t278, .int .i64 t279, .int .i64 t280, .slice Ao21 t281.length co21, .slice Ao22 t284.length co22], .agg #[.int .i64 a0_0, .int .i64 a0_1, .int .i64 a0_2, .slice A0_3 l0_3.length c0_3, .slice A0_4 l0_4.length c0_4]] (by rfl) rfl rfl (by (try simp only [List.map_toArray, List.map_cons, List.map_nil]); first | done | rfl | (simp only [List.length_drop, List.length_take]; rfl)) ?_
       with_reducible refine (node_Equal.calls kj1 t278 t279 t280 _ _ t281 _ _ t284 a0_0 a0_1 a0_2 _ _ l0_3 _ _ l0_4 true _ ?side1 ?side2 ?side3 ?side4 ?side5 ?side6 ?side7 ?side8 A23.out).mono ?_
       (case side1 => repeat (first | exact (Kd.R_reads' HO283.out).2.2 | (with_reducible refine Kd.C_alloc ?_ _) | (with_reducible refine Kd.C_drewN ?_ _) | (with_reducible refine Kd.C_drew ?_)))
       (case side2 => exact (Kd.R_reads' HO283.out).2.1)
       (case side3 => repeat (first | exact (Kd.R_reads' HO286.out).2.2 | (with_reducible refine Kd.C_alloc ?_ _) | (with_reducible refine Kd.C_drewN ?_ _) | (with_reducible refine Kd.C_drew ?_)))
       (case side4 => exact (Kd.R_reads' HO286.out).2.1)
       (case side5 => repeat (first | exact (Kd.C_below HR0_3.out HB.out) | (with_reducible refine Kd.C_alloc ?_ _) | (with_reducible refine Kd.C_drewN ?_ _) | (with_reducible refine Kd.C_drew ?_)))
       (case side6 => exact HC0_3.out)
       (case side7 => repeat (first | exact (Kd.C_below HR0_4.out HB.out) | (with_reducible refine Kd.C_alloc ?_ _) | (with_reducible refine Kd.C_drewN ?_ _) | (with_reducible refine Kd.C_drew ?_)))
       (case side8 => exact HC0_4.out)
       rintro e w36 ⟨rfl, hb⟩
       refine ⟨_, rfl, ?_⟩
       have n0_ := Aside0.mk (Kd.R_below (by (with_reducible repeat (first | apply Kd.R_alloc | apply Kd.R_drewN | apply Kd.R_drew)); exact HO283.out) hb)
       have n1_ := Aside0.mk (Kd.R_below (by (with_reducible repeat (first | apply Kd.R_alloc | apply Kd.R_drewN | apply Kd.R_drew)); exact HO286.out) hb)
       have n2_ := Aside0.mk (blk_below (g := gb274) (o := .cells #[.int .i64 a0_0, .int .i64 a0_1, .int .i64 a0_2, .slice A0_3 l0_3.length c0_3, .slice A0_4 l0_4.length c0_4] 25 (0, 0)) (by (with_reducible repeat (first | refine blk_drewN ?_ _ | refine blk_drew ?_ | refine blk_alloc ?_ _)); exact BK274.out) hb)
       have n3_ := Aside0.mk (blk_below (g := gb287) (o := .cells #[.int .i64 t278, .int .i64 t279, .int .i64 t280, .slice Ao21 t281.length co21, .slice Ao22 t284.length co22] 25 (0, 0)) (by (with_reducible repeat (first | refine blk_drewN ?_ _ | refine blk_drew ?_ | refine blk_alloc ?_ _)); exact BK287.out) hb)
       have n4_ := Aside0.mk (below_step (by repeat (first | (with_reducible first | exact HB.out | apply below_alloc | apply pw_below_drewN | apply below_drew1 | refine below_set ?_ GE274.out | refine below_set ?_ GE287.out) | exact HB.out)) hb)
       clear HO283
       clear HO286
       clear BK274
       clear BK287
       clear HB
       have HO283 := n0_
       have HO286 := n1_
       have BK274 := n2_
       have BK287 := n3_
       have HB := n4_
       clear n0_ n1_ n2_ n3_ n4_
       (try clear hb)
       (try clear hb2)
       (try clear hk)
       (try clear hi)
       refine hK.out _ _ ⟨(blk_cell BK287.out 0).trans rfl, (blk_cell BK287.out 1).trans rfl, (blk_cell BK287.out 2).trans rfl, (blk_cell BK287.out 3).trans rfl, (blk_cell BK287.out 4).trans rfl, (blk_cell BK274.out 0).trans rfl, (blk_cell BK274.out 1).trans rfl, (blk_cell BK274.out 2).trans rfl, (blk_cell BK274.out 3).trans rfl, (blk_cell BK274.out 4).trans rfl⟩ (fun hHeld => ?_)
       clear hK K
       refine norm_ (a' := ?_) ?_ ?_
       rotate_left
       ·show Act.put _ (some 18) _ = _
        simp only [Act.put, List.setIfInBounds_toArray, List.set_cons_zero, List.set_cons_succ, i64_w, i32_w]
        rfl
       refine pure_ (i := 3) (N := some 19) (v := ?_) (a' := ?_) #[true, true, true, true, false, false, false, false, false, false, false, false, false, false, false, false, false] rfl rfl (any_of HT_.out (by kernel_rfl)) (fun _ _ _ h => h) (Or.inl ⟨by rfl, ?_⟩) ?_ ?_
       rotate_left
       ·intro w'
        go_simp
        with_reducible rfl
       rotate_left
       ·simp only [Act.put, List.setIfInBounds_toArray, List.set_cons_zero, List.set_cons_succ, i64_w, i32_w]
        rfl
       refine pure_ (i := 4) (N := some 20) (v := ?_) (a' := ?_) #[true, true, true, true, true, false, false, false, false, false, false, false, false, false, false, false, false] rfl rfl (any_of HT_.out (by kernel_rfl)) (fun _ _ _ h => h) (Or.inl ⟨by rfl, ?_⟩) ?_ ?_
       rotate_left
       ·intro w'
        go_simp
        with_reducible rfl
       rotate_left
       ·simp only [Act.put, List.setIfInBounds_toArray, List.set_cons_zero, List.set_cons_succ, i64_w, i32_w]
        rfl
       refine take_ (i := 5) (N := some 21) (v := ?_) (a' := ?_) #[true, true, true, true, true, true, false, false, false, false, false, false, false, false, false, false, false] rfl rfl (take_ofW HT_.out HW_.out (by kernel_rfl)) (fun _ _ _ h => h) (Or.inl ⟨by rfl, ?_⟩) hHeld ?_ ?_
       rotate_left
       ·rintro w' ⟨s0, s1, s2, s3, s4, s5, s6, s7, s8, s9⟩
        go_simp
        with_reducible rfl
       rotate_left
       ·simp only [Act.put, List.setIfInBounds_toArray, List.set_cons_zero, List.set_cons_succ, i64_w, i32_w]
        rfl
       refine take_ (i := 7) (N := some 23) (v := ?_) (a' := ?_) #[true, true, true, true, true, true, false, true, false, false, false, false, false, false, false, false, false] rfl rfl (take_ofW HT_.out HW_.out (by kernel_rfl)) (fun _ _ _ h => h) (Or.inl ⟨by rfl, ?_⟩) hHeld ?_ ?_
       rotate_left
       ·rintro w' ⟨s0, s1, s2, s3, s4, s5, s6, s7, s8, s9⟩
        go_simp
        with_reducible rfl
       rotate_left
       ·simp only [Act.put, List.setIfInBounds_toArray, List.set_cons_zero, List.set_cons_succ, i64_w, i32_w]
        rfl
       refine one_ (i := 6) (N := some 22) #[true, true, true, true, true, true, true, true, false, false, false, false, false, false, false, false, false] rfl rfl (one_of HT_.out (by kernel_rfl)) (by decide) (fun K hK => ?_)
       refine goes_ Tryd.func10 (by kernel_rfl) rfl #[.agg #[.int .i64 t278, .int .i64 t279, .int .i64 t280, .slice Ao21 t281.length co21, .slice Ao22 t284.length co22]] (by rfl) rfl rfl (by (try simp only [List.map_toArray, List.map_cons, List.map_nil]); first | done | rfl | (simp only [List.length_drop, List.length_take]; rfl)) ?_
       with_reducible refine (node_Valid.calls kj1 t278 t279 t280 _ _ t281 _ _ t284 t289 _ ?side1 ?side2 ?side3 ?side4 A25.out ?tab).mono ?_
       (case tab => exact HTAB.out.below (by repeat (first | (with_reducible first | exact HB.out | apply below_alloc | apply pw_below_drewN | apply below_drew1) | exact HB.out)))
       (case side1 => repeat (first | exact (Kd.R_reads' HO283.out).2.2 | (with_reducible refine Kd.C_alloc ?_ _) | (with_reducible refine Kd.C_drewN ?_ _) | (with_reducible refine Kd.C_drew ?_)))
       (case side2 => exact (Kd.R_reads' HO283.out).2.1)
       (case side3 => repeat (first | exact (Kd.R_reads' HO286.out).2.2 | (with_reducible refine Kd.C_alloc ?_ _) | (with_reducible refine Kd.C_drewN ?_ _) | (with_reducible refine Kd.C_drew ?_)))
       (case side4 => exact (Kd.R_reads' HO286.out).2.1)
       rintro e w37 ⟨rfl, hb⟩
       refine ⟨_, rfl, ?_⟩
       have n0_ := Aside0.mk (Kd.R_below (by (with_reducible repeat (first | apply Kd.R_alloc | apply Kd.R_drewN | apply Kd.R_drew)); exact HO283.out) hb)
       have n1_ := Aside0.mk (Kd.R_below (by (with_reducible repeat (first | apply Kd.R_alloc | apply Kd.R_drewN | apply Kd.R_drew)); exact HO286.out) hb)
       have n2_ := Aside0.mk (blk_below (g := gb274) (o := .cells #[.int .i64 a0_0, .int .i64 a0_1, .int .i64 a0_2, .slice A0_3 l0_3.length c0_3, .slice A0_4 l0_4.length c0_4] 25 (0, 0)) (by (with_reducible repeat (first | refine blk_drewN ?_ _ | refine blk_drew ?_ | refine blk_alloc ?_ _)); exact BK274.out) hb)
       have n3_ := Aside0.mk (blk_below (g := gb287) (o := .cells #[.int .i64 t278, .int .i64 t279, .int .i64 t280, .slice Ao21 t281.length co21, .slice Ao22 t284.length co22] 25 (0, 0)) (by (with_reducible repeat (first | refine blk_drewN ?_ _ | refine blk_drew ?_ | refine blk_alloc ?_ _)); exact BK287.out) hb)
       have n4_ := Aside0.mk (below_step (by repeat (first | (with_reducible first | exact HB.out | apply below_alloc | apply pw_below_drewN | apply below_drew1 | refine below_set ?_ GE274.out | refine below_set ?_ GE287.out) | exact HB.out)) hb)
       clear HO283
       clear HO286
       clear BK274
       clear BK287
       clear HB
       have HO283 := n0_
       have HO286 := n1_
       have BK274 := n2_
       have BK287 := n3_
       have HB := n4_
       clear n0_ n1_ n2_ n3_ n4_
       (try clear hb)
       (try clear hb2)
       (try clear hk)
       (try clear hi)
       refine hK.out _ _ ⟨(blk_cell BK287.out 0).trans rfl, (blk_cell BK287.out 1).trans rfl, (blk_cell BK287.out 2).trans rfl, (blk_cell BK287.out 3).trans rfl, (blk_cell BK287.out 4).trans rfl, (blk_cell BK274.out 0).trans rfl, (blk_cell BK274.out 1).trans rfl, (blk_cell BK274.out 2).trans rfl, (blk_cell BK274.out 3).trans rfl, (blk_cell BK274.out 4).trans rfl⟩ (fun hHeld => ?_)
       clear hK K
       refine norm_ (a' := ?_) ?_ ?_
       rotate_left
       ·show Act.put _ (some 22) _ = _
        simp only [Act.put, List.setIfInBounds_toArray, List.set_cons_zero, List.set_cons_succ, i64_w, i32_w]
        rfl
       refine one_ (i := 8) (N := some 24) #[true, true, true, true, true, true, true, true, true, false, false, false, false, false, false, false, false] rfl rfl (one_of HT_.out (by kernel_rfl)) (by decide) (fun K hK => ?_)
       refine goes_ Tryd.func10 (by kernel_rfl) rfl #[.agg #[.int .i64 a0_0, .int .i64 a0_1, .int .i64 a0_2, .slice A0_3 l0_3.length c0_3, .slice A0_4 l0_4.length c0_4]] (by rfl) rfl rfl (by (try simp only [List.map_toArray, List.map_cons, List.map_nil]); first | done | rfl | (simp only [List.length_drop, List.length_take]; rfl)) ?_
       with_reducible refine (node_Valid.calls kj1 a0_0 a0_1 a0_2 _ _ l0_3 _ _ l0_4 t290 _ ?side1 ?side2 ?side3 ?side4 A26.out ?tab).mono ?_
       (case tab => exact HTAB.out.below (by repeat (first | (with_reducible first | exact HB.out | apply below_alloc | apply pw_below_drewN | apply below_drew1) | exact HB.out)))
       (case side1 => repeat (first | exact (Kd.C_below HR0_3.out HB.out) | (with_reducible refine Kd.C_alloc ?_ _) | (with_reducible refine Kd.C_drewN ?_ _) | (with_reducible refine Kd.C_drew ?_)))
       (case side2 => exact HC0_3.out)
       (case side3 => repeat (first | exact (Kd.C_below HR0_4.out HB.out) | (with_reducible refine Kd.C_alloc ?_ _) | (with_reducible refine Kd.C_drewN ?_ _) | (with_reducible refine Kd.C_drew ?_)))
       (case side4 => exact HC0_4.out)
       rintro e w38 ⟨rfl, hb⟩
       refine ⟨_, rfl, ?_⟩
       have n0_ := Aside0.mk (Kd.R_below (by (with_reducible repeat (first | apply Kd.R_alloc | apply Kd.R_drewN | apply Kd.R_drew)); exact HO283.out) hb)
       have n1_ := Aside0.mk (Kd.R_below (by (with_reducible repeat (first | apply Kd.R_alloc | apply Kd.R_drewN | apply Kd.R_drew)); exact HO286.out) hb)
       have n2_ := Aside0.mk (blk_below (g := gb274) (o := .cells #[.int .i64 a0_0, .int .i64 a0_1, .int .i64 a0_2, .slice A0_3 l0_3.length c0_3, .slice A0_4 l0_4.length c0_4] 25 (0, 0)) (by (with_reducible repeat (first | refine blk_drewN ?_ _ | refine blk_drew ?_ | refine blk_alloc ?_ _)); exact BK274.out) hb)
       have n3_ := Aside0.mk (blk_below (g := gb287) (o := .cells #[.int .i64 t278, .int .i64 t279, .int .i64 t280, .slice Ao21 t281.length co21, .slice Ao22 t284.length co22] 25 (0, 0)) (by (with_reducible repeat (first | refine blk_drewN ?_ _ | refine blk_drew ?_ | refine blk_alloc ?_ _)); exact BK287.out) hb)
       have n4_ := Aside0.mk (below_step (by repeat (first | (with_reducible first | exact HB.out | apply below_alloc | apply pw_below_drewN | apply below_drew1 | refine below_set ?_ GE274.out | refine below_set ?_ GE287.out) | exact HB.out)) hb)
       clear HO283
       clear HO286
       clear BK274
       clear BK287
       clear HB
       have HO283 := n0_
       have HO286 := n1_
       have BK274 := n2_
       have BK287 := n3_
       have HB := n4_
       clear n0_ n1_ n2_ n3_ n4_
       (try clear hb)
       (try clear hb2)
       (try clear hk)
       (try clear hi)
       refine hK.out _ _ ⟨(blk_cell BK287.out 0).trans rfl, (blk_cell BK287.out 1).trans rfl, (blk_cell BK287.out 2).trans rfl, (blk_cell BK287.out 3).trans rfl, (blk_cell BK287.out 4).trans rfl, (blk_cell BK274.out 0).trans rfl, (blk_cell BK274.out 1).trans rfl, (blk_cell BK274.out 2).trans rfl, (blk_cell BK274.out 3).trans rfl, (blk_cell BK274.out 4).trans rfl⟩ (fun hHeld => ?_)
       clear hK K
       refine norm_ (a' := ?_) ?_ ?_
       rotate_left
       ·show Act.put _ (some 24) _ = _
        simp only [Act.put, List.setIfInBounds_toArray, List.set_cons_zero, List.set_cons_succ, i64_w, i32_w]
        rfl
       refine pure_ (i := 9) (N := some 25) (v := ?_) (a' := ?_) #[true, true, true, true, true, true, true, true, true, true, false, false, false, false, false, false, false] rfl rfl (any_of HT_.out (by kernel_rfl)) (fun _ _ _ h => h) (Or.inl ⟨by rfl, ?_⟩) ?_ ?_
       rotate_left
       ·intro w'
        go_simp
        with_reducible rfl
       rotate_left
       ·simp only [Act.put, List.setIfInBounds_toArray, List.set_cons_zero, List.set_cons_succ, i64_w, i32_w]
        rfl
       refine pure_ (i := 10) (N := some 26) (v := ?_) (a' := ?_) #[true, true, true, true, true, true, true, true, true, true, true, false, false, false, false, false, false] rfl rfl (any_of HT_.out (by kernel_rfl)) (fun _ _ _ h => h) (Or.inl ⟨by rfl, ?_⟩) ?_ ?_
       rotate_left
       ·intro w'
        go_simp
        with_reducible rfl
       rotate_left
       ·simp only [Act.put, List.setIfInBounds_toArray, List.set_cons_zero, List.set_cons_succ, i64_w, i32_w]
        rfl
       refine pure_ (i := 11) (N := some 27) (v := ?_) (a' := ?_) #[true, true, true, true, true, true, true, true, true, true, true, true, false, false, false, false, false] rfl rfl (any_of HT_.out (by kernel_rfl)) (fun _ _ _ h => h) (Or.inl ⟨by rfl, ?_⟩) ?_ ?_
       rotate_left
       ·intro w'
        go_simp
        with_reducible rfl
       rotate_left
       ·simp only [Act.put, List.setIfInBounds_toArray, List.set_cons_zero, List.set_cons_succ, i64_w, i32_w]
        rfl
       refine take_ (i := 12) (N := some 28) (v := ?_) (a' := ?_) #[true, true, true, true, true, true, true, true, true, true, true, true, true, false, false, false, false] rfl rfl (take_ofW HT_.out HW_.out (by kernel_rfl)) (fun _ _ _ h => h) (Or.inl ⟨by rfl, ?_⟩) hHeld ?_ ?_
       rotate_left
       ·rintro w' ⟨s0, s1, s2, s3, s4, s5, s6, s7, s8, s9⟩
        go_simp
        with_reducible rfl
       rotate_left
       ·simp only [Act.put, List.setIfInBounds_toArray, List.set_cons_zero, List.set_cons_succ, i64_w, i32_w]
        rfl
       refine take_ (i := 13) (N := some 29) (v := ?_) (a' := ?_) #[true, true, true, true, true, true, true, true, true, true, true, true, true, true, false, false, false] rfl rfl (take_ofW HT_.out HW_.out (by kernel_rfl)) (fun _ _ _ h => h) (Or.inl ⟨by rfl, ?_⟩) hHeld ?_ ?_
       rotate_left
       ·rintro w' ⟨s0, s1, s2, s3, s4, s5, s6, s7, s8, s9⟩
        go_simp
        with_reducible rfl
       rotate_left
       ·simp only [Act.put, List.setIfInBounds_toArray, List.set_cons_zero, List.set_cons_succ, i64_w, i32_w]
        rfl
       refine one_ (i := 14) (N := some 30) #[true, true, true, true, true, true, true, true, true, true, true, true, true, true, true, false, false] rfl rfl (one_of HT_.out (by kernel_rfl)) (by decide) (fun K hK => ?_)
       refine goes_ Tryd.func12 (by kernel_rfl) rfl #[.agg #[.int .i64 a0_0, .int .i64 a0_1, .int .i64 a0_2, .slice A0_3 l0_3.length c0_3, .slice A0_4 l0_4.length c0_4], .agg #[.int .i64 t278, .int .i64 t279, .int .i64 t280, .slice Ao21 t281.length co21, .slice Ao22 t284.length co22]] (by rfl) rfl rfl (by (try simp only [List.map_toArray, List.map_cons, List.map_nil]); first | done | rfl | (simp only [List.length_drop, List.length_take]; rfl)) ?_
       with_reducible refine (node_Equal.calls kj1 a0_0 a0_1 a0_2 _ _ l0_3 _ _ l0_4 t278 t279 t280 _ _ t281 _ _ t284 t291 _ ?side1 ?side2 ?side3 ?side4 ?side5 ?side6 ?side7 ?side8 A33.out).mono ?_
       (case side1 => repeat (first | exact (Kd.C_below HR0_3.out HB.out) | (with_reducible refine Kd.C_alloc ?_ _) | (with_reducible refine Kd.C_drewN ?_ _) | (with_reducible refine Kd.C_drew ?_)))
       (case side2 => exact HC0_3.out)
       (case side3 => repeat (first | exact (Kd.C_below HR0_4.out HB.out) | (with_reducible refine Kd.C_alloc ?_ _) | (with_reducible refine Kd.C_drewN ?_ _) | (with_reducible refine Kd.C_drew ?_)))
       (case side4 => exact HC0_4.out)
       (case side5 => repeat (first | exact (Kd.R_reads' HO283.out).2.2 | (with_reducible refine Kd.C_alloc ?_ _) | (with_reducible refine Kd.C_drewN ?_ _) | (with_reducible refine Kd.C_drew ?_)))
       (case side6 => exact (Kd.R_reads' HO283.out).2.1)
       (case side7 => repeat (first | exact (Kd.R_reads' HO286.out).2.2 | (with_reducible refine Kd.C_alloc ?_ _) | (with_reducible refine Kd.C_drewN ?_ _) | (with_reducible refine Kd.C_drew ?_)))
       (case side8 => exact (Kd.R_reads' HO286.out).2.1)
       rintro e w39 ⟨rfl, hb⟩
       refine ⟨_, rfl, ?_⟩
       have n0_ := Aside0.mk (Kd.R_below (by (with_reducible repeat (first | apply Kd.R_alloc | apply Kd.R_drewN | apply Kd.R_drew)); exact HO283.out) hb)
       have n1_ := Aside0.mk (Kd.R_below (by (with_reducible repeat (first | apply Kd.R_alloc | apply Kd.R_drewN | apply Kd.R_drew)); exact HO286.out) hb)
       have n2_ := Aside0.mk (blk_below (g := gb274) (o := .cells #[.int .i64 a0_0, .int .i64 a0_1, .int .i64 a0_2, .slice A0_3 l0_3.length c0_3, .slice A0_4 l0_4.length c0_4] 25 (0, 0)) (by (with_reducible repeat (first | refine blk_drewN ?_ _ | refine blk_drew ?_ | refine blk_alloc ?_ _)); exact BK274.out) hb)
       have n3_ := Aside0.mk (blk_below (g := gb287) (o := .cells #[.int .i64 t278, .int .i64 t279, .int .i64 t280, .slice Ao21 t281.length co21, .slice Ao22 t284.length co22] 25 (0, 0)) (by (with_reducible repeat (first | refine blk_drewN ?_ _ | refine blk_drew ?_ | refine blk_alloc ?_ _)); exact BK287.out) hb)
       have n4_ := Aside0.mk (below_step (by repeat (first | (with_reducible first | exact HB.out | apply below_alloc | apply pw_below_drewN | apply below_drew1 | refine below_set ?_ GE274.out | refine below_set ?_ GE287.out) | exact HB.out)) hb)
       clear HO283
       clear HO286
       clear BK274
       clear BK287
       clear HB
       have HO283 := n0_
       have HO286 := n1_
       have BK274 := n2_
       have BK287 := n3_
       have HB := n4_
       clear n0_ n1_ n2_ n3_ n4_
       (try clear hb)
       (try clear hb2)
       (try clear hk)
       (try clear hi)
       refine hK.out _ _ ⟨(blk_cell BK287.out 0).trans rfl, (blk_cell BK287.out 1).trans rfl, (blk_cell BK287.out 2).trans rfl, (blk_cell BK287.out 3).trans rfl, (blk_cell BK287.out 4).trans rfl, (blk_cell BK274.out 0).trans rfl, (blk_cell BK274.out 1).trans rfl, (blk_cell BK274.out 2).trans rfl, (blk_cell BK274.out 3).trans rfl, (blk_cell BK274.out 4).trans rfl⟩ (fun hHeld => ?_)
       clear hK K
       refine norm_ (a' := ?_) ?_ ?_
       rotate_left
       ·show Act.put _ (some 30) _ = _
        simp only [Act.put, List.setIfInBounds_toArray, List.set_cons_zero, List.set_cons_succ, i64_w, i32_w]
        rfl
       refine pure_ (i := 15) (N := some 31) (v := ?_) (a' := ?_) #[true, true, true, true, true, true, true, true, true, true, true, true, true, true, true, true, false] rfl rfl (any_of HT_.out (by kernel_rfl)) (fun _ _ _ h => h) (Or.inl ⟨by rfl, ?_⟩) ?_ ?_
       rotate_left
       ·intro w'
        go_simp
        with_reducible rfl
       rotate_left
       ·simp only [Act.put, List.setIfInBounds_toArray, List.set_cons_zero, List.set_cons_succ, i64_w, i32_w]
        rfl
       refine pure_ (i := 16) (N := some 32) (v := ?_) (a' := ?_) #[true, true, true, true, true, true, true, true, true, true, true, true, true, true, true, true, true] rfl rfl (any_of HT_.out (by kernel_rfl)) (fun _ _ _ h => h) (Or.inl ⟨by rfl, ?_⟩) ?_ ?_
       rotate_left
       ·intro w'
        go_simp
        with_reducible rfl
       rotate_left
       ·simp only [Act.put, List.setIfInBounds_toArray, List.set_cons_zero, List.set_cons_succ, i64_w, i32_w]
        rfl
       refine done_ (done_of HT_.out (by kernel_rfl)) ?_
       try go_wp2
       go_meet
       case rel => exact ⟨_, (!t291), (by first | rfl | (simp; done) | (simp [*]; done)), H', ⟨by have := HJ1.out; first | omega | exact Nat.le_refl _⟩, ⟨by (with_reducible repeat (first | apply Kd.R_alloc | apply Kd.R_drewN | apply Kd.R_drew)); exact HO283.out⟩, ⟨by (with_reducible repeat (first | apply Kd.R_alloc | apply Kd.R_drewN | apply Kd.R_drew)); exact HO286.out⟩, ⟨by (with_reducible repeat (first | refine blk_drewN ?_ _ | refine blk_drew ?_ | refine blk_alloc ?_ _)); exact BK274.out⟩, ⟨by (with_reducible repeat (first | refine blk_drewN ?_ _ | refine blk_drew ?_ | refine blk_alloc ?_ _)); exact BK287.out⟩, ⟨by repeat (first | (with_reducible first | exact HB.out | apply below_alloc | apply pw_below_drewN | apply below_drew1 | refine below_set ?_ GE274.out | refine below_set ?_ GE287.out) | exact HB.out)⟩⟩
     ·replace c24 := Bool.eq_false_iff.mpr c24
      subst c24
      have H1 : (capnplaw10_NodeCopies.j1 kj1 true a0_0 a0_1 a0_2 l0_3 l0_4 t278 t279 t280 t281 t284) = some r := by rw [if_neg (show ¬ (false = true) by decide)] at H; exact H
      clear H
      have H := H1
      clear H1
      have H' := Aside0.mk H
      clear H
      try go_wp2
      have n0_ : Aside0 (Kd.R (Kd.int .u8) 5 (((((w18.setCell ⟨gb287, 0, none⟩ (.int .i64 t278)).setCell ⟨gb287, 1, none⟩ (.int .i64 t279)).setCell ⟨gb287, 2, none⟩ (.int .i64 t280)).setCell ⟨gb287, 3, none⟩ (.slice Ao21 t281.length co21)).setCell ⟨gb287, 4, none⟩ (.slice Ao22 t284.length co22)) w.heap.size (fun _ => True) (.slice Ao21 t281.length co21) t281) := ⟨by (with_reducible repeat (first | apply Kd.R_alloc | apply Kd.R_drewN | apply Kd.R_drew)); exact Kd.R_mono (Kd.R_far (p := ⟨gb287, 4, none⟩) (Kd.R_far (p := ⟨gb287, 3, none⟩) (Kd.R_far (p := ⟨gb287, 2, none⟩) (Kd.R_far (p := ⟨gb287, 1, none⟩) (Kd.R_far (p := ⟨gb287, 0, none⟩) (Kd.R_types HO283.out BK287.out (by decide)) (fun _ hk => hk.2) (.int .i64 t278)) (fun _ hk => hk.2) (.int .i64 t279)) (fun _ hk => hk.2) (.int .i64 t280)) (fun _ hk => hk.2) (.slice Ao21 t281.length co21)) (fun _ hk => hk.2) (.slice Ao22 t284.length co22)) (fun _ hk => trivial)⟩
      have n1_ : Aside0 (Kd.R k25 25 (((((w18.setCell ⟨gb287, 0, none⟩ (.int .i64 t278)).setCell ⟨gb287, 1, none⟩ (.int .i64 t279)).setCell ⟨gb287, 2, none⟩ (.int .i64 t280)).setCell ⟨gb287, 3, none⟩ (.slice Ao21 t281.length co21)).setCell ⟨gb287, 4, none⟩ (.slice Ao22 t284.length co22)) w.heap.size (fun k_ => some k_ ≠ (.slice Ao21 t281.length co21 : Value).ownBlock ∧ k_ ≠ gb274 ∧ k_ ≠ gb287) (.slice Ao22 t284.length co22) t284) := ⟨by (with_reducible repeat (first | apply Kd.R_alloc | apply Kd.R_drewN | apply Kd.R_drew)); exact Kd.R_mono (Kd.R_far (p := ⟨gb287, 4, none⟩) (Kd.R_far (p := ⟨gb287, 3, none⟩) (Kd.R_far (p := ⟨gb287, 2, none⟩) (Kd.R_far (p := ⟨gb287, 1, none⟩) (Kd.R_far (p := ⟨gb287, 0, none⟩) (Kd.R_mono HO286.out (fun k_ hk => (⟨hk, hk.2⟩ : _ ∧ k_ ≠ gb287))) (fun _ hk => hk.2) (.int .i64 t278)) (fun _ hk => hk.2) (.int .i64 t279)) (fun _ hk => hk.2) (.int .i64 t280)) (fun _ hk => hk.2) (.slice Ao21 t281.length co21)) (fun _ hk => hk.2) (.slice Ao22 t284.length co22)) (fun _ hk => ⟨hk.1.1.1, ⟨hk.1.1.2, hk.1.2⟩⟩)⟩
      have n2_ : Aside0 ((((((w18.setCell ⟨gb287, 0, none⟩ (.int .i64 t278)).setCell ⟨gb287, 1, none⟩ (.int .i64 t279)).setCell ⟨gb287, 2, none⟩ (.int .i64 t280)).setCell ⟨gb287, 3, none⟩ (.slice Ao21 t281.length co21)).setCell ⟨gb287, 4, none⟩ (.slice Ao22 t284.length co22)).heap[gb274]? = some (.cells #[.int .i64 a0_0, .int .i64 a0_1, .int .i64 a0_2, .slice A0_3 l0_3.length c0_3, .slice A0_4 l0_4.length c0_4] 25 (0, 0))) := ⟨by (with_reducible repeat (first | refine blk_drewN ?_ _ | refine blk_drew ?_ | refine blk_alloc ?_ _)); refine blk_far ?_ NB274_287.out _; (with_reducible repeat (first | refine blk_drewN ?_ _ | refine blk_drew ?_ | refine blk_alloc ?_ _)); refine blk_far ?_ NB274_287.out _; (with_reducible repeat (first | refine blk_drewN ?_ _ | refine blk_drew ?_ | refine blk_alloc ?_ _)); refine blk_far ?_ NB274_287.out _; (with_reducible repeat (first | refine blk_drewN ?_ _ | refine blk_drew ?_ | refine blk_alloc ?_ _)); refine blk_far ?_ NB274_287.out _; (with_reducible repeat (first | refine blk_drewN ?_ _ | refine blk_drew ?_ | refine blk_alloc ?_ _)); refine blk_far ?_ NB274_287.out _; (with_reducible repeat (first | refine blk_drewN ?_ _ | refine blk_drew ?_ | refine blk_alloc ?_ _)); exact BK274.out⟩
      have n3_ : Aside0 ((((((w18.setCell ⟨gb287, 0, none⟩ (.int .i64 t278)).setCell ⟨gb287, 1, none⟩ (.int .i64 t279)).setCell ⟨gb287, 2, none⟩ (.int .i64 t280)).setCell ⟨gb287, 3, none⟩ (.slice Ao21 t281.length co21)).setCell ⟨gb287, 4, none⟩ (.slice Ao22 t284.length co22)).heap[gb287]? = some (.cells #[.int .i64 t278, .int .i64 t279, .int .i64 t280, .slice Ao21 t281.length co21, .slice Ao22 t284.length co22] 25 (0, 0))) := ⟨by (with_reducible repeat (first | refine blk_drewN ?_ _ | refine blk_drew ?_ | refine blk_alloc ?_ _)); refine blk_put (cs := #[.int .i64 t278, .int .i64 t279, .int .i64 t280, .slice Ao21 t281.length co21, .slice none 0 0]) ?_ 4 _ rfl; (with_reducible repeat (first | refine blk_drewN ?_ _ | refine blk_drew ?_ | refine blk_alloc ?_ _)); refine blk_put (cs := #[.int .i64 t278, .int .i64 t279, .int .i64 t280, .slice none 0 0, .slice none 0 0]) ?_ 3 _ rfl; (with_reducible repeat (first | refine blk_drewN ?_ _ | refine blk_drew ?_ | refine blk_alloc ?_ _)); refine blk_put (cs := #[.int .i64 t278, .int .i64 t279, .int .i64 0, .slice none 0 0, .slice none 0 0]) ?_ 2 _ rfl; (with_reducible repeat (first | refine blk_drewN ?_ _ | refine blk_drew ?_ | refine blk_alloc ?_ _)); refine blk_put (cs := #[.int .i64 t278, .int .i64 0, .int .i64 0, .slice none 0 0, .slice none 0 0]) ?_ 1 _ rfl; (with_reducible repeat (first | refine blk_drewN ?_ _ | refine blk_drew ?_ | refine blk_alloc ?_ _)); refine blk_put (cs := #[.int .i64 0, .int .i64 0, .int .i64 0, .slice none 0 0, .slice none 0 0]) ?_ 0 _ rfl; (with_reducible repeat (first | refine blk_drewN ?_ _ | refine blk_drew ?_ | refine blk_alloc ?_ _)); exact BK287.out⟩
      have n4_ : Aside0 (Below w.heap.size w (((((w18.setCell ⟨gb287, 0, none⟩ (.int .i64 t278)).setCell ⟨gb287, 1, none⟩ (.int .i64 t279)).setCell ⟨gb287, 2, none⟩ (.int .i64 t280)).setCell ⟨gb287, 3, none⟩ (.slice Ao21 t281.length co21)).setCell ⟨gb287, 4, none⟩ (.slice Ao22 t284.length co22))) := ⟨by repeat (first | (with_reducible first | exact HB.out | apply below_alloc | apply pw_below_drewN | apply below_drew1 | refine below_set ?_ GE274.out | refine below_set ?_ GE287.out) | exact HB.out)⟩
      (try clear HO283)
      (try clear HO286)
      (try clear BK274)
      (try clear BK287)
      (try clear HB)
      generalize (((((w18.setCell ⟨gb287, 0, none⟩ (.int .i64 t278)).setCell ⟨gb287, 1, none⟩ (.int .i64 t279)).setCell ⟨gb287, 2, none⟩ (.int .i64 t280)).setCell ⟨gb287, 3, none⟩ (.slice Ao21 t281.length co21)).setCell ⟨gb287, 4, none⟩ (.slice Ao22 t284.length co22)) = w40 at n0_ n1_ n2_ n3_ n4_ ⊢
      have HO283 := n0_
      have HO286 := n1_
      have BK274 := n2_
      have BK287 := n3_
      have HB := n4_
      clear n0_ n1_ n2_ n3_ n4_
      have n0_ := Aside0.mk (Kd.R_drew HO283.out)
      have n1_ := Aside0.mk (Kd.R_drew HO286.out)
      have n2_ := Aside0.mk (blk_drew BK274.out)
      have n3_ := Aside0.mk (blk_drew BK287.out)
      have n4_ := Aside0.mk (below_drew1 HB.out)
      clear HO283
      clear HO286
      clear BK274
      clear BK287
      clear HB
      have HO283 := n0_
      have HO286 := n1_
      have BK274 := n2_
      have BK287 := n3_
      have HB := n4_
      clear n0_ n1_ n2_ n3_ n4_
      refine start_ (n := 17) (S := fun w' => w'.cell? ⟨gb287, 0, none⟩ = some (.int .i64 t278) ∧ w'.cell? ⟨gb287, 1, none⟩ = some (.int .i64 t279) ∧ w'.cell? ⟨gb287, 2, none⟩ = some (.int .i64 t280) ∧ w'.cell? ⟨gb287, 3, none⟩ = some (.slice Ao21 t281.length co21) ∧ w'.cell? ⟨gb287, 4, none⟩ = some (.slice Ao22 t284.length co22) ∧ w'.cell? ⟨gb274, 0, none⟩ = some (.int .i64 a0_0) ∧ w'.cell? ⟨gb274, 1, none⟩ = some (.int .i64 a0_1) ∧ w'.cell? ⟨gb274, 2, none⟩ = some (.int .i64 a0_2) ∧ w'.cell? ⟨gb274, 3, none⟩ = some (.slice A0_3 l0_3.length c0_3) ∧ w'.cell? ⟨gb274, 4, none⟩ = some (.slice A0_4 l0_4.length c0_4)) (ds := []) #[false, false, false, false, false, false, false, false, false, false, false, false, false, false, false, false, false] (by kernel_rfl) rfl rfl ⟨(blk_cell BK287.out 0).trans rfl, (blk_cell BK287.out 1).trans rfl, (blk_cell BK287.out 2).trans rfl, (blk_cell BK287.out 3).trans rfl, (blk_cell BK287.out 4).trans rfl, (blk_cell BK274.out 0).trans rfl, (blk_cell BK274.out 1).trans rfl, (blk_cell BK274.out 2).trans rfl, (blk_cell BK274.out 3).trans rfl, (blk_cell BK274.out 4).trans rfl⟩ (fun hHeld => ?_); refine with_tabW capnplaw10_NodeCopies.tab4 capnplaw10_NodeCopies.bits4 (fun HT_ HW_ => ?_)
      generalize w40.drew = w41 at HO283 HO286 BK274 BK287 HB hHeld ⊢
      refine take_ (i := 0) (N := some 16) (v := ?_) (a' := ?_) #[true, false, false, false, false, false, false, false, false, false, false, false, false, false, false, false, false] rfl rfl (take_ofW HT_.out HW_.out (by kernel_rfl)) (fun _ _ _ h => h) (Or.inl ⟨by rfl, ?_⟩) hHeld ?_ ?_
      rotate_left
      ·rintro w' ⟨s0, s1, s2, s3, s4, s5, s6, s7, s8, s9⟩
       go_simp
       with_reducible rfl
      rotate_left
      ·simp only [Act.put, List.setIfInBounds_toArray, List.set_cons_zero, List.set_cons_succ, i64_w, i32_w]
       rfl
      refine take_ (i := 1) (N := some 17) (v := ?_) (a' := ?_) #[true, true, false, false, false, false, false, false, false, false, false, false, false, false, false, false, false] rfl rfl (take_ofW HT_.out HW_.out (by kernel_rfl)) (fun _ _ _ h => h) (Or.inl ⟨by rfl, ?_⟩) hHeld ?_ ?_
      rotate_left
      ·rintro w' ⟨s0, s1, s2, s3, s4, s5, s6, s7, s8, s9⟩
       go_simp
       with_reducible rfl
      rotate_left
      ·simp only [Act.put, List.setIfInBounds_toArray, List.set_cons_zero, List.set_cons_succ, i64_w, i32_w]
       rfl
      refine one_ (i := 2) (N := some 18) #[true, true, true, false, false, false, false, false, false, false, false, false, false, false, false, false, false] rfl rfl (one_of HT_.out (by kernel_rfl)) (by decide) (fun K hK => ?_)
      refine goes_ Tryd.func12 (by kernel_rfl) rfl #[.agg #[.int .i64 t278, .int .i64 t279, .int .i64 t280, .slice Ao21 t281.length co21, .slice Ao22 t284.length co22], .agg #[.int .i64 a0_0, .int .i64 a0_1, .int .i64 a0_2, .slice A0_3 l0_3.length c0_3, .slice A0_4 l0_4.length c0_4]] (by rfl) rfl rfl (by (try simp only [List.map_toArray, List.map_cons, List.map_nil]); first | done | rfl | (simp only [List.length_drop, List.length_take]; rfl)) ?_
      with_reducible refine (node_Equal.calls kj1 t278 t279 t280 _ _ t281 _ _ t284 a0_0 a0_1 a0_2 _ _ l0_3 _ _ l0_4 false _ ?side1 ?side2 ?side3 ?side4 ?side5 ?side6 ?side7 ?side8 A23.out).mono ?_
      (case side1 => repeat (first | exact (Kd.R_reads' HO283.out).2.2 | (with_reducible refine Kd.C_alloc ?_ _) | (with_reducible refine Kd.C_drewN ?_ _) | (with_reducible refine Kd.C_drew ?_)))
      (case side2 => exact (Kd.R_reads' HO283.out).2.1)
      (case side3 => repeat (first | exact (Kd.R_reads' HO286.out).2.2 | (with_reducible refine Kd.C_alloc ?_ _) | (with_reducible refine Kd.C_drewN ?_ _) | (with_reducible refine Kd.C_drew ?_)))
      (case side4 => exact (Kd.R_reads' HO286.out).2.1)
      (case side5 => repeat (first | exact (Kd.C_below HR0_3.out HB.out) | (with_reducible refine Kd.C_alloc ?_ _) | (with_reducible refine Kd.C_drewN ?_ _) | (with_reducible refine Kd.C_drew ?_)))
      (case side6 => exact HC0_3.out)
      (case side7 => repeat (first | exact (Kd.C_below HR0_4.out HB.out) | (with_reducible refine Kd.C_alloc ?_ _) | (with_reducible refine Kd.C_drewN ?_ _) | (with_reducible refine Kd.C_drew ?_)))
      (case side8 => exact HC0_4.out)
      rintro e w42 ⟨rfl, hb⟩
      refine ⟨_, rfl, ?_⟩
      have n0_ := Aside0.mk (Kd.R_below (by (with_reducible repeat (first | apply Kd.R_alloc | apply Kd.R_drewN | apply Kd.R_drew)); exact HO283.out) hb)
      have n1_ := Aside0.mk (Kd.R_below (by (with_reducible repeat (first | apply Kd.R_alloc | apply Kd.R_drewN | apply Kd.R_drew)); exact HO286.out) hb)
      have n2_ := Aside0.mk (blk_below (g := gb274) (o := .cells #[.int .i64 a0_0, .int .i64 a0_1, .int .i64 a0_2, .slice A0_3 l0_3.length c0_3, .slice A0_4 l0_4.length c0_4] 25 (0, 0)) (by (with_reducible repeat (first | refine blk_drewN ?_ _ | refine blk_drew ?_ | refine blk_alloc ?_ _)); exact BK274.out) hb)
      have n3_ := Aside0.mk (blk_below (g := gb287) (o := .cells #[.int .i64 t278, .int .i64 t279, .int .i64 t280, .slice Ao21 t281.length co21, .slice Ao22 t284.length co22] 25 (0, 0)) (by (with_reducible repeat (first | refine blk_drewN ?_ _ | refine blk_drew ?_ | refine blk_alloc ?_ _)); exact BK287.out) hb)
      have n4_ := Aside0.mk (below_step (by repeat (first | (with_reducible first | exact HB.out | apply below_alloc | apply pw_below_drewN | apply below_drew1 | refine below_set ?_ GE274.out | refine below_set ?_ GE287.out) | exact HB.out)) hb)
      clear HO283
      clear HO286
      clear BK274
      clear BK287
      clear HB
      have HO283 := n0_
      have HO286 := n1_
      have BK274 := n2_
      have BK287 := n3_
      have HB := n4_
      clear n0_ n1_ n2_ n3_ n4_
      (try clear hb)
      (try clear hb2)
      (try clear hk)
      (try clear hi)
      refine hK.out _ _ ⟨(blk_cell BK287.out 0).trans rfl, (blk_cell BK287.out 1).trans rfl, (blk_cell BK287.out 2).trans rfl, (blk_cell BK287.out 3).trans rfl, (blk_cell BK287.out 4).trans rfl, (blk_cell BK274.out 0).trans rfl, (blk_cell BK274.out 1).trans rfl, (blk_cell BK274.out 2).trans rfl, (blk_cell BK274.out 3).trans rfl, (blk_cell BK274.out 4).trans rfl⟩ (fun hHeld => ?_)
      clear hK K
      refine norm_ (a' := ?_) ?_ ?_
      rotate_left
      ·show Act.put _ (some 18) _ = _
       simp only [Act.put, List.setIfInBounds_toArray, List.set_cons_zero, List.set_cons_succ, i64_w, i32_w]
       rfl
      refine pure_ (i := 3) (N := some 19) (v := ?_) (a' := ?_) #[true, true, true, true, false, false, false, false, false, false, false, false, false, false, false, false, false] rfl rfl (any_of HT_.out (by kernel_rfl)) (fun _ _ _ h => h) (Or.inl ⟨by rfl, ?_⟩) ?_ ?_
      rotate_left
      ·intro w'
       go_simp
       with_reducible rfl
      rotate_left
      ·simp only [Act.put, List.setIfInBounds_toArray, List.set_cons_zero, List.set_cons_succ, i64_w, i32_w]
       rfl
      refine pure_ (i := 4) (N := some 20) (v := ?_) (a' := ?_) #[true, true, true, true, true, false, false, false, false, false, false, false, false, false, false, false, false] rfl rfl (any_of HT_.out (by kernel_rfl)) (fun _ _ _ h => h) (Or.inl ⟨by rfl, ?_⟩) ?_ ?_
      rotate_left
      ·intro w'
       go_simp
       with_reducible rfl
      rotate_left
      ·simp only [Act.put, List.setIfInBounds_toArray, List.set_cons_zero, List.set_cons_succ, i64_w, i32_w]
       rfl
      refine pure_ (i := 5) (N := some 21) (v := undef) (a' := ?_) #[true, true, true, true, true, true, false, false, false, false, false, false, false, false, false, false, false] rfl rfl (any_of HT_.out (by kernel_rfl)) (fun _ _ _ h => h) (Or.inr ⟨by rfl, rfl⟩) ?_ ?_
      rotate_left
      ·simp only [Act.put, List.setIfInBounds_toArray, List.set_cons_zero, List.set_cons_succ, i64_w, i32_w]
       rfl
      refine pure_ (i := 6) (N := some 22) (v := undef) (a' := ?_) #[true, true, true, true, true, true, true, false, false, false, false, false, false, false, false, false, false] rfl rfl (any_of HT_.out (by kernel_rfl)) (fun _ _ _ h => h) (Or.inr ⟨by rfl, rfl⟩) ?_ ?_
      rotate_left
      ·simp only [Act.put, List.setIfInBounds_toArray, List.set_cons_zero, List.set_cons_succ, i64_w, i32_w]
       rfl
      refine pure_ (i := 7) (N := some 23) (v := undef) (a' := ?_) #[true, true, true, true, true, true, true, true, false, false, false, false, false, false, false, false, false] rfl rfl (any_of HT_.out (by kernel_rfl)) (fun _ _ _ h => h) (Or.inr ⟨by rfl, rfl⟩) ?_ ?_
      rotate_left
      ·simp only [Act.put, List.setIfInBounds_toArray, List.set_cons_zero, List.set_cons_succ, i64_w, i32_w]
       rfl
      refine pure_ (i := 8) (N := some 24) (v := undef) (a' := ?_) #[true, true, true, true, true, true, true, true, true, false, false, false, false, false, false, false, false] rfl rfl (any_of HT_.out (by kernel_rfl)) (fun _ _ _ h => h) (Or.inr ⟨by rfl, rfl⟩) ?_ ?_
      rotate_left
      ·simp only [Act.put, List.setIfInBounds_toArray, List.set_cons_zero, List.set_cons_succ, i64_w, i32_w]
       rfl
      refine pure_ (i := 9) (N := some 25) (v := undef) (a' := ?_) #[true, true, true, true, true, true, true, true, true, true, false, false, false, false, false, false, false] rfl rfl (any_of HT_.out (by kernel_rfl)) (fun _ _ _ h => h) (Or.inr ⟨by rfl, rfl⟩) ?_ ?_
      rotate_left
      ·simp only [Act.put, List.setIfInBounds_toArray, List.set_cons_zero, List.set_cons_succ, i64_w, i32_w]
       rfl
      refine pure_ (i := 10) (N := some 26) (v := ?_) (a' := ?_) #[true, true, true, true, true, true, true, true, true, true, true, false, false, false, false, false, false] rfl rfl (any_of HT_.out (by kernel_rfl)) (fun _ _ _ h => h) (Or.inl ⟨by rfl, ?_⟩) ?_ ?_
      rotate_left
      ·intro w'
       go_simp
       with_reducible rfl
      rotate_left
      ·simp only [Act.put, List.setIfInBounds_toArray, List.set_cons_zero, List.set_cons_succ, i64_w, i32_w]
       rfl
      refine pure_ (i := 11) (N := some 27) (v := ?_) (a' := ?_) #[true, true, true, true, true, true, true, true, true, true, true, true, false, false, false, false, false] rfl rfl (any_of HT_.out (by kernel_rfl)) (fun _ _ _ h => h) (Or.inl ⟨by rfl, ?_⟩) ?_ ?_
      rotate_left
      ·intro w'
       go_simp
       with_reducible rfl
      rotate_left
      ·simp only [Act.put, List.setIfInBounds_toArray, List.set_cons_zero, List.set_cons_succ, i64_w, i32_w]
       rfl
      refine pure_ (i := 12) (N := some 28) (v := undef) (a' := ?_) #[true, true, true, true, true, true, true, true, true, true, true, true, true, false, false, false, false] rfl rfl (any_of HT_.out (by kernel_rfl)) (fun _ _ _ h => h) (Or.inr ⟨by rfl, rfl⟩) ?_ ?_
      rotate_left
      ·simp only [Act.put, List.setIfInBounds_toArray, List.set_cons_zero, List.set_cons_succ, i64_w, i32_w]
       rfl
      refine pure_ (i := 13) (N := some 29) (v := undef) (a' := ?_) #[true, true, true, true, true, true, true, true, true, true, true, true, true, true, false, false, false] rfl rfl (any_of HT_.out (by kernel_rfl)) (fun _ _ _ h => h) (Or.inr ⟨by rfl, rfl⟩) ?_ ?_
      rotate_left
      ·simp only [Act.put, List.setIfInBounds_toArray, List.set_cons_zero, List.set_cons_succ, i64_w, i32_w]
       rfl
      refine pure_ (i := 14) (N := some 30) (v := undef) (a' := ?_) #[true, true, true, true, true, true, true, true, true, true, true, true, true, true, true, false, false] rfl rfl (any_of HT_.out (by kernel_rfl)) (fun _ _ _ h => h) (Or.inr ⟨by rfl, rfl⟩) ?_ ?_
      rotate_left
      ·simp only [Act.put, List.setIfInBounds_toArray, List.set_cons_zero, List.set_cons_succ, i64_w, i32_w]
       rfl
      refine pure_ (i := 15) (N := some 31) (v := undef) (a' := ?_) #[true, true, true, true, true, true, true, true, true, true, true, true, true, true, true, true, false] rfl rfl (any_of HT_.out (by kernel_rfl)) (fun _ _ _ h => h) (Or.inr ⟨by rfl, rfl⟩) ?_ ?_
      rotate_left
      ·simp only [Act.put, List.setIfInBounds_toArray, List.set_cons_zero, List.set_cons_succ, i64_w, i32_w]
       rfl
      refine pure_ (i := 16) (N := some 32) (v := ?_) (a' := ?_) #[true, true, true, true, true, true, true, true, true, true, true, true, true, true, true, true, true] rfl rfl (any_of HT_.out (by kernel_rfl)) (fun _ _ _ h => h) (Or.inl ⟨by rfl, ?_⟩) ?_ ?_
      rotate_left
      ·intro w'
       go_simp
       with_reducible rfl
      rotate_left
      ·simp only [Act.put, List.setIfInBounds_toArray, List.set_cons_zero, List.set_cons_succ, i64_w, i32_w]
       rfl
      refine done_ (done_of HT_.out (by kernel_rfl)) ?_
      try go_wp2
      go_meet
      case rel => exact ⟨_, (true), (by first | rfl | (simp; done) | (simp [*]; done)), H', ⟨by have := HJ1.out; first | omega | exact Nat.le_refl _⟩, ⟨by (with_reducible repeat (first | apply Kd.R_alloc | apply Kd.R_drewN | apply Kd.R_drew)); exact HO283.out⟩, ⟨by (with_reducible repeat (first | apply Kd.R_alloc | apply Kd.R_drewN | apply Kd.R_drew)); exact HO286.out⟩, ⟨by (with_reducible repeat (first | refine blk_drewN ?_ _ | refine blk_drew ?_ | refine blk_alloc ?_ _)); exact BK274.out⟩, ⟨by (with_reducible repeat (first | refine blk_drewN ?_ _ | refine blk_drew ?_ | refine blk_alloc ?_ _)); exact BK287.out⟩, ⟨by repeat (first | (with_reducible first | exact HB.out | apply below_alloc | apply pw_below_drewN | apply below_drew1 | refine below_set ?_ GE274.out | refine below_set ?_ GE287.out) | exact HB.out)⟩⟩
    case rest =>
     clear HC15
     try clear c1
     try clear c2
     try clear p2
     try clear c10
     try clear c12
     try clear c24
     try clear c27
     try clear c27b0
     try clear c27b1
     try clear c27b2
     obtain ⟨kq, x32_14, rfl, HA, HJ14, HO_288003, HO_288004, BK274, BK287, HB⟩ := hcut
     cases kq with
     | zero => exact absurd HA.out (by simp [capnplaw10_NodeCopies.j1])
     | succ kj14 =>
      have H := HA.out
      clear HA
      simp only [capnplaw10_NodeCopies.j1] at H
      by_cases c43 : x32_14 = true
      ·subst c43
       have H1 : (none) = some r := by rw [if_pos rfl] at H; exact H
       clear H
       have H := H1
       clear H1
       exact absurd H (by simp)
      ·replace c43 := Bool.eq_false_iff.mpr c43
       subst c43
       have H1 : ((capnpref10_Valid.f kj14 a0_0 a0_1 a0_2 l0_3 l0_4).bind fun t292 => (if t292 = true then ((node_Depth.f kj14 t278 t279 t280 t281 t284).bind fun t293 => ((node_Objects.f kj14 t278 t279 t280 t281 t284).bind fun t294 => ((capnpref10_Equal.f kj14 t278 t279 t280 t281 t284 a0_0 a0_1 a0_2 l0_3 l0_4).bind fun t295 => (if t295 = true then ((node_Depth.f kj14 a0_0 a0_1 a0_2 l0_3 l0_4).bind fun t296 => (if t293 = t296 then ((node_Objects.f kj14 a0_0 a0_1 a0_2 l0_3 l0_4).bind fun t297 => (if t294 = t297 then (if t293 ≥ 0 then (if ((t294 == 0) == (t293 == 0)) = true then (some (decide (t293 ≤ t294))) else (none)) else (none)) else (none))) else (none))) else (none))))) else (some true))) = some r := by rw [if_neg (show ¬ (false = true) by decide)] at H; exact H
       clear H
       have H := H1
       clear H1
       replace H := Option.bind_eq_some_iff.mp H
       obtain ⟨t292, A440, H⟩ := H
       replace H : (if t292 = true then ((node_Depth.f kj14 t278 t279 t280 t281 t284).bind fun t293 => ((node_Objects.f kj14 t278 t279 t280 t281 t284).bind fun t294 => ((capnpref10_Equal.f kj14 t278 t279 t280 t281 t284 a0_0 a0_1 a0_2 l0_3 l0_4).bind fun t295 => (if t295 = true then ((node_Depth.f kj14 a0_0 a0_1 a0_2 l0_3 l0_4).bind fun t296 => (if t293 = t296 then ((node_Objects.f kj14 a0_0 a0_1 a0_2 l0_3 l0_4).bind fun t297 => (if t294 = t297 then (if t293 ≥ 0 then (if ((t294 == 0) == (t293 == 0)) = true then (some (decide (t293 ≤ t294))) else (none)) else (none)) else (none))) else (none))) else (none))))) else (some true)) = some r := H
       have A44 := Aside0.mk A440
       clear A440
       by_cases c45 : t292 = true
       ·subst c45
        have H1 : ((node_Depth.f kj14 t278 t279 t280 t281 t284).bind fun t293 => ((node_Objects.f kj14 t278 t279 t280 t281 t284).bind fun t294 => ((capnpref10_Equal.f kj14 t278 t279 t280 t281 t284 a0_0 a0_1 a0_2 l0_3 l0_4).bind fun t295 => (if t295 = true then ((node_Depth.f kj14 a0_0 a0_1 a0_2 l0_3 l0_4).bind fun t296 => (if t293 = t296 then ((node_Objects.f kj14 a0_0 a0_1 a0_2 l0_3 l0_4).bind fun t297 => (if t294 = t297 then (if t293 ≥ 0 then (if ((t294 == 0) == (t293 == 0)) = true then (some (decide (t293 ≤ t294))) else (none)) else (none)) else (none))) else (none))) else (none))))) = some r := by rw [if_pos rfl] at H; exact H
        clear H
        have H := H1
        clear H1
        replace H := Option.bind_eq_some_iff.mp H
        obtain ⟨t293, A460, H⟩ := H
        replace H : ((node_Objects.f kj14 t278 t279 t280 t281 t284).bind fun t294 => ((capnpref10_Equal.f kj14 t278 t279 t280 t281 t284 a0_0 a0_1 a0_2 l0_3 l0_4).bind fun t295 => (if t295 = true then ((node_Depth.f kj14 a0_0 a0_1 a0_2 l0_3 l0_4).bind fun t296 => (if t293 = t296 then ((node_Objects.f kj14 a0_0 a0_1 a0_2 l0_3 l0_4).bind fun t297 => (if t294 = t297 then (if t293 ≥ 0 then (if ((t294 == 0) == (t293 == 0)) = true then (some (decide (t293 ≤ t294))) else (none)) else (none)) else (none))) else (none))) else (none)))) = some r := H
        have A46 := Aside0.mk A460
        clear A460
        replace H := Option.bind_eq_some_iff.mp H
        obtain ⟨t294, A470, H⟩ := H
        replace H : ((capnpref10_Equal.f kj14 t278 t279 t280 t281 t284 a0_0 a0_1 a0_2 l0_3 l0_4).bind fun t295 => (if t295 = true then ((node_Depth.f kj14 a0_0 a0_1 a0_2 l0_3 l0_4).bind fun t296 => (if t293 = t296 then ((node_Objects.f kj14 a0_0 a0_1 a0_2 l0_3 l0_4).bind fun t297 => (if t294 = t297 then (if t293 ≥ 0 then (if ((t294 == 0) == (t293 == 0)) = true then (some (decide (t293 ≤ t294))) else (none)) else (none)) else (none))) else (none))) else (none))) = some r := H
        have A47 := Aside0.mk A470
        clear A470
        replace H := Option.bind_eq_some_iff.mp H
        obtain ⟨t295, A480, H⟩ := H
        replace H : (if t295 = true then ((node_Depth.f kj14 a0_0 a0_1 a0_2 l0_3 l0_4).bind fun t296 => (if t293 = t296 then ((node_Objects.f kj14 a0_0 a0_1 a0_2 l0_3 l0_4).bind fun t297 => (if t294 = t297 then (if t293 ≥ 0 then (if ((t294 == 0) == (t293 == 0)) = true then (some (decide (t293 ≤ t294))) else (none)) else (none)) else (none))) else (none))) else (none)) = some r := H
        have A48 := Aside0.mk A480
        clear A480
        by_cases c49 : t295 = true
        ·subst c49
         have H1 : ((node_Depth.f kj14 a0_0 a0_1 a0_2 l0_3 l0_4).bind fun t296 => (if t293 = t296 then ((node_Objects.f kj14 a0_0 a0_1 a0_2 l0_3 l0_4).bind fun t297 => (if t294 = t297 then (if t293 ≥ 0 then (if ((t294 == 0) == (t293 == 0)) = true then (some (decide (t293 ≤ t294))) else (none)) else (none)) else (none))) else (none))) = some r := by rw [if_pos rfl] at H; exact H
         clear H
         have H := H1
         clear H1
         replace H := Option.bind_eq_some_iff.mp H
         obtain ⟨t296, A500, H⟩ := H
         replace H : (if t293 = t296 then ((node_Objects.f kj14 a0_0 a0_1 a0_2 l0_3 l0_4).bind fun t297 => (if t294 = t297 then (if t293 ≥ 0 then (if ((t294 == 0) == (t293 == 0)) = true then (some (decide (t293 ≤ t294))) else (none)) else (none)) else (none))) else (none)) = some r := H
         have A50 := Aside0.mk A500
         clear A500
         by_cases c51 : t293 = t296
         ·rw [if_pos c51] at H
          have c51b0 : (t293 == t296) = true := beq_iff_eq.mpr c51
          have c51b1 : (t293 != t296) = false := bne_eq_false_iff_eq.mpr c51
          clear c51
          replace H := Option.bind_eq_some_iff.mp H
          obtain ⟨t297, A520, H⟩ := H
          replace H : (if t294 = t297 then (if t293 ≥ 0 then (if ((t294 == 0) == (t293 == 0)) = true then (some (decide (t293 ≤ t294))) else (none)) else (none)) else (none)) = some r := H
          have A52 := Aside0.mk A520
          clear A520
          by_cases c53 : t294 = t297
          ·rw [if_pos c53] at H
           have c53b0 : (t294 == t297) = true := beq_iff_eq.mpr c53
           have c53b1 : (t294 != t297) = false := bne_eq_false_iff_eq.mpr c53
           clear c53
           by_cases c54 : t293 ≥ 0
           ·rw [if_pos c54] at H
            have c54b0 : decide (0 ≤ t293) = true := decide_eq_true c54
            clear c54
            by_cases c55 : ((t294 == 0) == (t293 == 0)) = true
            ·rw [if_pos c55] at H
             have c55b0 : ((t294 == 0) == (t293 == 0)) = true := c55
             (try (have c55b1 : decide ((t294 == 0) = (t293 == 0)) = true := by simpa using c55))
             (try (have c55b2 : ((t294 == 0) == (t293 == 0)) = true := by simpa using c55))
             clear c55
             obtain rfl := Option.some.inj H
             have hnb56 := NB274_287.out
             have hnc56 := NB287_274.out
             have hcz57_0 : wc.cell? ⟨gb274, 0, none⟩ = some (.int .i64 a0_0) := (blk_cell BK274.out 0).trans rfl
             have hcz57_1 : wc.cell? ⟨gb274, 1, none⟩ = some (.int .i64 a0_1) := (blk_cell BK274.out 1).trans rfl
             have hcz57_2 : wc.cell? ⟨gb274, 2, none⟩ = some (.int .i64 a0_2) := (blk_cell BK274.out 2).trans rfl
             have hcz57_3 : wc.cell? ⟨gb274, 3, none⟩ = some (.slice A0_3 l0_3.length c0_3) := (blk_cell BK274.out 3).trans rfl
             have hcz57_4 : wc.cell? ⟨gb274, 4, none⟩ = some (.slice A0_4 l0_4.length c0_4) := (blk_cell BK274.out 4).trans rfl
             have hfz57_0 := blk_frozen BK274.out 0
             have hfz57_1 := blk_frozen BK274.out 1
             have hfz57_2 := blk_frozen BK274.out 2
             have hfz57_3 := blk_frozen BK274.out 3
             have hfz57_4 := blk_frozen BK274.out 4
             go_wp2_with (first | ((with_reducible refine gate_callee (f := 11) rfl ?_); refine goesL_ (some 34) rfl rfl Tryd.func11 (by kernel_rfl) rfl #[.agg #[.int .i64 a0_0, .int .i64 a0_1, .int .i64 a0_2, .slice A0_3 l0_3.length c0_3, .slice A0_4 l0_4.length c0_4]] rfl (by (try simp only [List.map_toArray, List.map_cons, List.map_nil]); first | done | rfl | (simp only [List.length_drop, List.length_take]; rfl)) ?_; (with_reducible refine (capnpref10_Valid.calls kj14 a0_0 a0_1 a0_2 _ _ l0_3 _ _ l0_4 true _ ?side1 ?side2 ?side3 ?side4 A44.out).mono ?_); (case side1 => repeat (first | exact (Kd.C_below HR0_3.out HB.out) | (with_reducible refine Kd.C_alloc ?_ _) | (with_reducible refine Kd.C_drewN ?_ _) | (with_reducible refine Kd.C_drew ?_))); (case side2 => exact HC0_3.out); (case side3 => repeat (first | exact (Kd.C_below HR0_4.out HB.out) | (with_reducible refine Kd.C_alloc ?_ _) | (with_reducible refine Kd.C_drewN ?_ _) | (with_reducible refine Kd.C_drew ?_))); (case side4 => exact HC0_4.out); rintro e w58 ⟨rfl, hb⟩; refine ⟨_, rfl, ?_⟩; have n0_ := Aside0.mk (Kd.R_below (by (with_reducible repeat (first | apply Kd.R_alloc | apply Kd.R_drewN | apply Kd.R_drew)); exact HO_288003.out) hb); have n1_ := Aside0.mk (Kd.R_below (by (with_reducible repeat (first | apply Kd.R_alloc | apply Kd.R_drewN | apply Kd.R_drew)); exact HO_288004.out) hb); have n2_ := Aside0.mk (blk_below (g := gb274) (o := .cells #[.int .i64 a0_0, .int .i64 a0_1, .int .i64 a0_2, .slice A0_3 l0_3.length c0_3, .slice A0_4 l0_4.length c0_4] 25 (0, 0)) (by (with_reducible repeat (first | refine blk_drewN ?_ _ | refine blk_drew ?_ | refine blk_alloc ?_ _)); exact BK274.out) hb); have n3_ := Aside0.mk (blk_below (g := gb287) (o := .cells #[.int .i64 t278, .int .i64 t279, .int .i64 t280, .slice Ao21 t281.length co21, .slice Ao22 t284.length co22] 25 (0, 0)) (by (with_reducible repeat (first | refine blk_drewN ?_ _ | refine blk_drew ?_ | refine blk_alloc ?_ _)); exact BK287.out) hb); have n4_ := Aside0.mk (below_step (by repeat (first | (with_reducible first | exact HB.out | apply below_alloc | apply pw_below_drewN | apply below_drew1 | refine below_set ?_ GE274.out | refine below_set ?_ GE287.out) | exact HB.out)) hb); clear HO_288003; clear HO_288004; clear BK274; clear BK287; clear HB; have HO_288003 := n0_; have HO_288004 := n1_; have BK274 := n2_; have BK287 := n3_; have HB := n4_; clear n0_ n1_ n2_ n3_ n4_; (try clear hb); (try clear hb2); (try clear hk); (try clear hi); have hcz59_0 : w58.cell? ⟨gb287, 0, none⟩ = some (.int .i64 t278) := (blk_cell BK287.out 0).trans rfl; have hcz59_1 : w58.cell? ⟨gb287, 1, none⟩ = some (.int .i64 t279) := (blk_cell BK287.out 1).trans rfl; have hcz59_2 : w58.cell? ⟨gb287, 2, none⟩ = some (.int .i64 t280) := (blk_cell BK287.out 2).trans rfl; have hcz59_3 : w58.cell? ⟨gb287, 3, none⟩ = some (.slice Ao21 t281.length co21) := (blk_cell BK287.out 3).trans rfl; have hcz59_4 : w58.cell? ⟨gb287, 4, none⟩ = some (.slice Ao22 t284.length co22) := (blk_cell BK287.out 4).trans rfl; have hfz59_0 := blk_frozen BK287.out 0; have hfz59_1 := blk_frozen BK287.out 1; have hfz59_2 := blk_frozen BK287.out 2; have hfz59_3 := blk_frozen BK287.out 3; have hfz59_4 := blk_frozen BK287.out 4) | ((with_reducible refine gate_callee (f := 14) rfl ?_); refine goesL_ (some 37) rfl rfl Tryd.func14 (by kernel_rfl) rfl #[.agg #[.int .i64 t278, .int .i64 t279, .int .i64 t280, .slice Ao21 t281.length co21, .slice Ao22 t284.length co22]] rfl (by (try simp only [List.map_toArray, List.map_cons, List.map_nil]); first | done | rfl | (simp only [List.length_drop, List.length_take]; rfl)) ?_; (with_reducible refine (node_Depth.calls kj14 t278 t279 t280 _ _ t281 _ _ t284 t293 _ ?side1 ?side2 ?side3 ?side4 A46.out).mono ?_); (case side1 => repeat (first | exact (Kd.R_reads' HO_288003.out).2.2 | (with_reducible refine Kd.C_alloc ?_ _) | (with_reducible refine Kd.C_drewN ?_ _) | (with_reducible refine Kd.C_drew ?_))); (case side2 => exact (Kd.R_reads' HO_288003.out).2.1); (case side3 => repeat (first | exact (Kd.R_reads' HO_288004.out).2.2 | (with_reducible refine Kd.C_alloc ?_ _) | (with_reducible refine Kd.C_drewN ?_ _) | (with_reducible refine Kd.C_drew ?_))); (case side4 => exact (Kd.R_reads' HO_288004.out).2.1); rintro e w60 ⟨rfl, hb⟩; refine ⟨_, rfl, ?_⟩; have n0_ := Aside0.mk (Kd.R_below (by (with_reducible repeat (first | apply Kd.R_alloc | apply Kd.R_drewN | apply Kd.R_drew)); exact HO_288003.out) hb); have n1_ := Aside0.mk (Kd.R_below (by (with_reducible repeat (first | apply Kd.R_alloc | apply Kd.R_drewN | apply Kd.R_drew)); exact HO_288004.out) hb); have n2_ := Aside0.mk (blk_below (g := gb274) (o := .cells #[.int .i64 a0_0, .int .i64 a0_1, .int .i64 a0_2, .slice A0_3 l0_3.length c0_3, .slice A0_4 l0_4.length c0_4] 25 (0, 0)) (by (with_reducible repeat (first | refine blk_drewN ?_ _ | refine blk_drew ?_ | refine blk_alloc ?_ _)); exact BK274.out) hb); have n3_ := Aside0.mk (blk_below (g := gb287) (o := .cells #[.int .i64 t278, .int .i64 t279, .int .i64 t280, .slice Ao21 t281.length co21, .slice Ao22 t284.length co22] 25 (0, 0)) (by (with_reducible repeat (first | refine blk_drewN ?_ _ | refine blk_drew ?_ | refine blk_alloc ?_ _)); exact BK287.out) hb); have n4_ := Aside0.mk (below_step (by repeat (first | (with_reducible first | exact HB.out | apply below_alloc | apply pw_below_drewN | apply below_drew1 | refine below_set ?_ GE274.out | refine below_set ?_ GE287.out) | exact HB.out)) hb); clear HO_288003; clear HO_288004; clear BK274; clear BK287; clear HB; have HO_288003 := n0_; have HO_288004 := n1_; have BK274 := n2_; have BK287 := n3_; have HB := n4_; clear n0_ n1_ n2_ n3_ n4_; (try clear hb); (try clear hb2); (try clear hk); (try clear hi); have hcz61_0 : w60.cell? ⟨gb287, 0, none⟩ = some (.int .i64 t278) := (blk_cell BK287.out 0).trans rfl; have hcz61_1 : w60.cell? ⟨gb287, 1, none⟩ = some (.int .i64 t279) := (blk_cell BK287.out 1).trans rfl; have hcz61_2 : w60.cell? ⟨gb287, 2, none⟩ = some (.int .i64 t280) := (blk_cell BK287.out 2).trans rfl; have hcz61_3 : w60.cell? ⟨gb287, 3, none⟩ = some (.slice Ao21 t281.length co21) := (blk_cell BK287.out 3).trans rfl; have hcz61_4 : w60.cell? ⟨gb287, 4, none⟩ = some (.slice Ao22 t284.length co22) := (blk_cell BK287.out 4).trans rfl; have hfz61_0 := blk_frozen BK287.out 0; have hfz61_1 := blk_frozen BK287.out 1; have hfz61_2 := blk_frozen BK287.out 2; have hfz61_3 := blk_frozen BK287.out 3; have hfz61_4 := blk_frozen BK287.out 4) | ((with_reducible refine gate_callee (f := 16) rfl ?_); refine goesL_ (some 39) rfl rfl Tryd.func16 (by kernel_rfl) rfl #[.agg #[.int .i64 t278, .int .i64 t279, .int .i64 t280, .slice Ao21 t281.length co21, .slice Ao22 t284.length co22]] rfl (by (try simp only [List.map_toArray, List.map_cons, List.map_nil]); first | done | rfl | (simp only [List.length_drop, List.length_take]; rfl)) ?_; (with_reducible refine (node_Objects.calls kj14 t278 t279 t280 _ _ t281 _ _ t284 t294 _ ?side1 ?side2 ?side3 ?side4 A47.out).mono ?_); (case side1 => repeat (first | exact (Kd.R_reads' HO_288003.out).2.2 | (with_reducible refine Kd.C_alloc ?_ _) | (with_reducible refine Kd.C_drewN ?_ _) | (with_reducible refine Kd.C_drew ?_))); (case side2 => exact (Kd.R_reads' HO_288003.out).2.1); (case side3 => repeat (first | exact (Kd.R_reads' HO_288004.out).2.2 | (with_reducible refine Kd.C_alloc ?_ _) | (with_reducible refine Kd.C_drewN ?_ _) | (with_reducible refine Kd.C_drew ?_))); (case side4 => exact (Kd.R_reads' HO_288004.out).2.1); rintro e w62 ⟨rfl, hb⟩; refine ⟨_, rfl, ?_⟩; have n0_ := Aside0.mk (Kd.R_below (by (with_reducible repeat (first | apply Kd.R_alloc | apply Kd.R_drewN | apply Kd.R_drew)); exact HO_288003.out) hb); have n1_ := Aside0.mk (Kd.R_below (by (with_reducible repeat (first | apply Kd.R_alloc | apply Kd.R_drewN | apply Kd.R_drew)); exact HO_288004.out) hb); have n2_ := Aside0.mk (blk_below (g := gb274) (o := .cells #[.int .i64 a0_0, .int .i64 a0_1, .int .i64 a0_2, .slice A0_3 l0_3.length c0_3, .slice A0_4 l0_4.length c0_4] 25 (0, 0)) (by (with_reducible repeat (first | refine blk_drewN ?_ _ | refine blk_drew ?_ | refine blk_alloc ?_ _)); exact BK274.out) hb); have n3_ := Aside0.mk (blk_below (g := gb287) (o := .cells #[.int .i64 t278, .int .i64 t279, .int .i64 t280, .slice Ao21 t281.length co21, .slice Ao22 t284.length co22] 25 (0, 0)) (by (with_reducible repeat (first | refine blk_drewN ?_ _ | refine blk_drew ?_ | refine blk_alloc ?_ _)); exact BK287.out) hb); have n4_ := Aside0.mk (below_step (by repeat (first | (with_reducible first | exact HB.out | apply below_alloc | apply pw_below_drewN | apply below_drew1 | refine below_set ?_ GE274.out | refine below_set ?_ GE287.out) | exact HB.out)) hb); clear HO_288003; clear HO_288004; clear BK274; clear BK287; clear HB; have HO_288003 := n0_; have HO_288004 := n1_; have BK274 := n2_; have BK287 := n3_; have HB := n4_; clear n0_ n1_ n2_ n3_ n4_; (try clear hb); (try clear hb2); (try clear hk); (try clear hi); have hcz63_0 : w62.cell? ⟨gb287, 0, none⟩ = some (.int .i64 t278) := (blk_cell BK287.out 0).trans rfl; have hcz63_1 : w62.cell? ⟨gb287, 1, none⟩ = some (.int .i64 t279) := (blk_cell BK287.out 1).trans rfl; have hcz63_2 : w62.cell? ⟨gb287, 2, none⟩ = some (.int .i64 t280) := (blk_cell BK287.out 2).trans rfl; have hcz63_3 : w62.cell? ⟨gb287, 3, none⟩ = some (.slice Ao21 t281.length co21) := (blk_cell BK287.out 3).trans rfl; have hcz63_4 : w62.cell? ⟨gb287, 4, none⟩ = some (.slice Ao22 t284.length co22) := (blk_cell BK287.out 4).trans rfl; have hfz63_0 := blk_frozen BK287.out 0; have hfz63_1 := blk_frozen BK287.out 1; have hfz63_2 := blk_frozen BK287.out 2; have hfz63_3 := blk_frozen BK287.out 3; have hfz63_4 := blk_frozen BK287.out 4; have hcz64_0 : w62.cell? ⟨gb274, 0, none⟩ = some (.int .i64 a0_0) := (blk_cell BK274.out 0).trans rfl; have hcz64_1 : w62.cell? ⟨gb274, 1, none⟩ = some (.int .i64 a0_1) := (blk_cell BK274.out 1).trans rfl; have hcz64_2 : w62.cell? ⟨gb274, 2, none⟩ = some (.int .i64 a0_2) := (blk_cell BK274.out 2).trans rfl; have hcz64_3 : w62.cell? ⟨gb274, 3, none⟩ = some (.slice A0_3 l0_3.length c0_3) := (blk_cell BK274.out 3).trans rfl; have hcz64_4 : w62.cell? ⟨gb274, 4, none⟩ = some (.slice A0_4 l0_4.length c0_4) := (blk_cell BK274.out 4).trans rfl; have hfz64_0 := blk_frozen BK274.out 0; have hfz64_1 := blk_frozen BK274.out 1; have hfz64_2 := blk_frozen BK274.out 2; have hfz64_3 := blk_frozen BK274.out 3; have hfz64_4 := blk_frozen BK274.out 4) | ((with_reducible refine gate_callee (f := 13) rfl ?_); refine goesL_ (some 42) rfl rfl Tryd.func13 (by kernel_rfl) rfl #[.agg #[.int .i64 t278, .int .i64 t279, .int .i64 t280, .slice Ao21 t281.length co21, .slice Ao22 t284.length co22], .agg #[.int .i64 a0_0, .int .i64 a0_1, .int .i64 a0_2, .slice A0_3 l0_3.length c0_3, .slice A0_4 l0_4.length c0_4]] rfl (by (try simp only [List.map_toArray, List.map_cons, List.map_nil]); first | done | rfl | (simp only [List.length_drop, List.length_take]; rfl)) ?_; (with_reducible refine (capnpref10_Equal.calls kj14 t278 t279 t280 _ _ t281 _ _ t284 a0_0 a0_1 a0_2 _ _ l0_3 _ _ l0_4 true _ ?side1 ?side2 ?side3 ?side4 ?side5 ?side6 ?side7 ?side8 A48.out).mono ?_); (case side1 => repeat (first | exact (Kd.R_reads' HO_288003.out).2.2 | (with_reducible refine Kd.C_alloc ?_ _) | (with_reducible refine Kd.C_drewN ?_ _) | (with_reducible refine Kd.C_drew ?_))); (case side2 => exact (Kd.R_reads' HO_288003.out).2.1); (case side3 => repeat (first | exact (Kd.R_reads' HO_288004.out).2.2 | (with_reducible refine Kd.C_alloc ?_ _) | (with_reducible refine Kd.C_drewN ?_ _) | (with_reducible refine Kd.C_drew ?_))); (case side4 => exact (Kd.R_reads' HO_288004.out).2.1); (case side5 => repeat (first | exact (Kd.C_below HR0_3.out HB.out) | (with_reducible refine Kd.C_alloc ?_ _) | (with_reducible refine Kd.C_drewN ?_ _) | (with_reducible refine Kd.C_drew ?_))); (case side6 => exact HC0_3.out); (case side7 => repeat (first | exact (Kd.C_below HR0_4.out HB.out) | (with_reducible refine Kd.C_alloc ?_ _) | (with_reducible refine Kd.C_drewN ?_ _) | (with_reducible refine Kd.C_drew ?_))); (case side8 => exact HC0_4.out); rintro e w65 ⟨rfl, hb⟩; refine ⟨_, rfl, ?_⟩; have n0_ := Aside0.mk (Kd.R_below (by (with_reducible repeat (first | apply Kd.R_alloc | apply Kd.R_drewN | apply Kd.R_drew)); exact HO_288003.out) hb); have n1_ := Aside0.mk (Kd.R_below (by (with_reducible repeat (first | apply Kd.R_alloc | apply Kd.R_drewN | apply Kd.R_drew)); exact HO_288004.out) hb); have n2_ := Aside0.mk (blk_below (g := gb274) (o := .cells #[.int .i64 a0_0, .int .i64 a0_1, .int .i64 a0_2, .slice A0_3 l0_3.length c0_3, .slice A0_4 l0_4.length c0_4] 25 (0, 0)) (by (with_reducible repeat (first | refine blk_drewN ?_ _ | refine blk_drew ?_ | refine blk_alloc ?_ _)); exact BK274.out) hb); have n3_ := Aside0.mk (blk_below (g := gb287) (o := .cells #[.int .i64 t278, .int .i64 t279, .int .i64 t280, .slice Ao21 t281.length co21, .slice Ao22 t284.length co22] 25 (0, 0)) (by (with_reducible repeat (first | refine blk_drewN ?_ _ | refine blk_drew ?_ | refine blk_alloc ?_ _)); exact BK287.out) hb); have n4_ := Aside0.mk (below_step (by repeat (first | (with_reducible first | exact HB.out | apply below_alloc | apply pw_below_drewN | apply below_drew1 | refine below_set ?_ GE274.out | refine below_set ?_ GE287.out) | exact HB.out)) hb); clear HO_288003; clear HO_288004; clear BK274; clear BK287; clear HB; have HO_288003 := n0_; have HO_288004 := n1_; have BK274 := n2_; have BK287 := n3_; have HB := n4_; clear n0_ n1_ n2_ n3_ n4_; (try clear hb); (try clear hb2); (try clear hk); (try clear hi); have hcz66_0 : w65.cell? ⟨gb274, 0, none⟩ = some (.int .i64 a0_0) := (blk_cell BK274.out 0).trans rfl; have hcz66_1 : w65.cell? ⟨gb274, 1, none⟩ = some (.int .i64 a0_1) := (blk_cell BK274.out 1).trans rfl; have hcz66_2 : w65.cell? ⟨gb274, 2, none⟩ = some (.int .i64 a0_2) := (blk_cell BK274.out 2).trans rfl; have hcz66_3 : w65.cell? ⟨gb274, 3, none⟩ = some (.slice A0_3 l0_3.length c0_3) := (blk_cell BK274.out 3).trans rfl; have hcz66_4 : w65.cell? ⟨gb274, 4, none⟩ = some (.slice A0_4 l0_4.length c0_4) := (blk_cell BK274.out 4).trans rfl; have hfz66_0 := blk_frozen BK274.out 0; have hfz66_1 := blk_frozen BK274.out 1; have hfz66_2 := blk_frozen BK274.out 2; have hfz66_3 := blk_frozen BK274.out 3; have hfz66_4 := blk_frozen BK274.out 4) | (go_at_call 14; (with_reducible refine (node_Depth.calls kj14 a0_0 a0_1 a0_2 _ _ l0_3 _ _ l0_4 t296 _ ?side1 ?side2 ?side3 ?side4 A50.out).mono ?_); (case side1 => repeat (first | exact (Kd.C_below HR0_3.out HB.out) | (with_reducible refine Kd.C_alloc ?_ _) | (with_reducible refine Kd.C_drewN ?_ _) | (with_reducible refine Kd.C_drew ?_))); (case side2 => exact HC0_3.out); (case side3 => repeat (first | exact (Kd.C_below HR0_4.out HB.out) | (with_reducible refine Kd.C_alloc ?_ _) | (with_reducible refine Kd.C_drewN ?_ _) | (with_reducible refine Kd.C_drew ?_))); (case side4 => exact HC0_4.out); rintro e w67 ⟨rfl, hb⟩; have n0_ := Aside0.mk (Kd.R_below (by (with_reducible repeat (first | apply Kd.R_alloc | apply Kd.R_drewN | apply Kd.R_drew)); exact HO_288003.out) hb); have n1_ := Aside0.mk (Kd.R_below (by (with_reducible repeat (first | apply Kd.R_alloc | apply Kd.R_drewN | apply Kd.R_drew)); exact HO_288004.out) hb); have n2_ := Aside0.mk (blk_below (g := gb274) (o := .cells #[.int .i64 a0_0, .int .i64 a0_1, .int .i64 a0_2, .slice A0_3 l0_3.length c0_3, .slice A0_4 l0_4.length c0_4] 25 (0, 0)) (by (with_reducible repeat (first | refine blk_drewN ?_ _ | refine blk_drew ?_ | refine blk_alloc ?_ _)); exact BK274.out) hb); have n3_ := Aside0.mk (blk_below (g := gb287) (o := .cells #[.int .i64 t278, .int .i64 t279, .int .i64 t280, .slice Ao21 t281.length co21, .slice Ao22 t284.length co22] 25 (0, 0)) (by (with_reducible repeat (first | refine blk_drewN ?_ _ | refine blk_drew ?_ | refine blk_alloc ?_ _)); exact BK287.out) hb); have n4_ := Aside0.mk (below_step (by repeat (first | (with_reducible first | exact HB.out | apply below_alloc | apply pw_below_drewN | apply below_drew1 | refine below_set ?_ GE274.out | refine below_set ?_ GE287.out) | exact HB.out)) hb); clear HO_288003; clear HO_288004; clear BK274; clear BK287; clear HB; have HO_288003 := n0_; have HO_288004 := n1_; have BK274 := n2_; have BK287 := n3_; have HB := n4_; clear n0_ n1_ n2_ n3_ n4_; (try clear hb); (try clear hb2); (try clear hk); (try clear hi); have hcz68_0 : w67.cell? ⟨gb274, 0, none⟩ = some (.int .i64 a0_0) := (blk_cell BK274.out 0).trans rfl; have hcz68_1 : w67.cell? ⟨gb274, 1, none⟩ = some (.int .i64 a0_1) := (blk_cell BK274.out 1).trans rfl; have hcz68_2 : w67.cell? ⟨gb274, 2, none⟩ = some (.int .i64 a0_2) := (blk_cell BK274.out 2).trans rfl; have hcz68_3 : w67.cell? ⟨gb274, 3, none⟩ = some (.slice A0_3 l0_3.length c0_3) := (blk_cell BK274.out 3).trans rfl; have hcz68_4 : w67.cell? ⟨gb274, 4, none⟩ = some (.slice A0_4 l0_4.length c0_4) := (blk_cell BK274.out 4).trans rfl; have hfz68_0 := blk_frozen BK274.out 0; have hfz68_1 := blk_frozen BK274.out 1; have hfz68_2 := blk_frozen BK274.out 2; have hfz68_3 := blk_frozen BK274.out 3; have hfz68_4 := blk_frozen BK274.out 4) | (go_at_call 16; (with_reducible refine (node_Objects.calls kj14 a0_0 a0_1 a0_2 _ _ l0_3 _ _ l0_4 t297 _ ?side1 ?side2 ?side3 ?side4 A52.out).mono ?_); (case side1 => repeat (first | exact (Kd.C_below HR0_3.out HB.out) | (with_reducible refine Kd.C_alloc ?_ _) | (with_reducible refine Kd.C_drewN ?_ _) | (with_reducible refine Kd.C_drew ?_))); (case side2 => exact HC0_3.out); (case side3 => repeat (first | exact (Kd.C_below HR0_4.out HB.out) | (with_reducible refine Kd.C_alloc ?_ _) | (with_reducible refine Kd.C_drewN ?_ _) | (with_reducible refine Kd.C_drew ?_))); (case side4 => exact HC0_4.out); rintro e w69 ⟨rfl, hb⟩; have n0_ := Aside0.mk (Kd.R_below (by (with_reducible repeat (first | apply Kd.R_alloc | apply Kd.R_drewN | apply Kd.R_drew)); exact HO_288003.out) hb); have n1_ := Aside0.mk (Kd.R_below (by (with_reducible repeat (first | apply Kd.R_alloc | apply Kd.R_drewN | apply Kd.R_drew)); exact HO_288004.out) hb); have n2_ := Aside0.mk (blk_below (g := gb274) (o := .cells #[.int .i64 a0_0, .int .i64 a0_1, .int .i64 a0_2, .slice A0_3 l0_3.length c0_3, .slice A0_4 l0_4.length c0_4] 25 (0, 0)) (by (with_reducible repeat (first | refine blk_drewN ?_ _ | refine blk_drew ?_ | refine blk_alloc ?_ _)); exact BK274.out) hb); have n3_ := Aside0.mk (blk_below (g := gb287) (o := .cells #[.int .i64 t278, .int .i64 t279, .int .i64 t280, .slice Ao21 t281.length co21, .slice Ao22 t284.length co22] 25 (0, 0)) (by (with_reducible repeat (first | refine blk_drewN ?_ _ | refine blk_drew ?_ | refine blk_alloc ?_ _)); exact BK287.out) hb); have n4_ := Aside0.mk (below_step (by repeat (first | (with_reducible first | exact HB.out | apply below_alloc | apply pw_below_drewN | apply below_drew1 | refine below_set ?_ GE274.out | refine below_set ?_ GE287.out) | exact HB.out)) hb); clear HO_288003; clear HO_288004; clear BK274; clear BK287; clear HB; have HO_288003 := n0_; have HO_288004 := n1_; have BK274 := n2_; have BK287 := n3_; have HB := n4_; clear n0_ n1_ n2_ n3_ n4_; (try clear hb); (try clear hb2); (try clear hk); (try clear hi)))
             go_ret
             exact ⟨by first | rfl | (simp [errW_none, errW_some] <;> rfl) | (simp [*, errW_none, errW_some] <;> rfl), by repeat (first | (with_reducible first | exact HB.out | apply below_alloc | apply pw_below_drewN | apply below_drew1 | refine below_set ?_ GE274.out | refine below_set ?_ GE287.out) | exact HB.out)⟩
            ·rw [if_neg c55] at H
             exact absurd H (by simp)
           ·rw [if_neg c54] at H
            exact absurd H (by simp)
          ·rw [if_neg c53] at H
           exact absurd H (by simp)
         ·rw [if_neg c51] at H
          exact absurd H (by simp)
        ·replace c49 := Bool.eq_false_iff.mpr c49
         subst c49
         have H1 : (none) = some r := by rw [if_neg (show ¬ (false = true) by decide)] at H; exact H
         clear H
         have H := H1
         clear H1
         exact absurd H (by simp)
       ·replace c45 := Bool.eq_false_iff.mpr c45
        subst c45
        have H1 : (some true) = some r := by rw [if_neg (show ¬ (false = true) by decide)] at H; exact H
        clear H
        have H := H1
        clear H1
        obtain rfl := Option.some.inj H
        have hnb70 := NB274_287.out
        have hnc70 := NB287_274.out
        have hcz71_0 : wc.cell? ⟨gb274, 0, none⟩ = some (.int .i64 a0_0) := (blk_cell BK274.out 0).trans rfl
        have hcz71_1 : wc.cell? ⟨gb274, 1, none⟩ = some (.int .i64 a0_1) := (blk_cell BK274.out 1).trans rfl
        have hcz71_2 : wc.cell? ⟨gb274, 2, none⟩ = some (.int .i64 a0_2) := (blk_cell BK274.out 2).trans rfl
        have hcz71_3 : wc.cell? ⟨gb274, 3, none⟩ = some (.slice A0_3 l0_3.length c0_3) := (blk_cell BK274.out 3).trans rfl
        have hcz71_4 : wc.cell? ⟨gb274, 4, none⟩ = some (.slice A0_4 l0_4.length c0_4) := (blk_cell BK274.out 4).trans rfl
        have hfz71_0 := blk_frozen BK274.out 0
        have hfz71_1 := blk_frozen BK274.out 1
        have hfz71_2 := blk_frozen BK274.out 2
        have hfz71_3 := blk_frozen BK274.out 3
        have hfz71_4 := blk_frozen BK274.out 4
        go_wp2_with (first | ((with_reducible refine gate_callee (f := 11) rfl ?_); refine goesL_ (some 34) rfl rfl Tryd.func11 (by kernel_rfl) rfl #[.agg #[.int .i64 a0_0, .int .i64 a0_1, .int .i64 a0_2, .slice A0_3 l0_3.length c0_3, .slice A0_4 l0_4.length c0_4]] rfl (by (try simp only [List.map_toArray, List.map_cons, List.map_nil]); first | done | rfl | (simp only [List.length_drop, List.length_take]; rfl)) ?_; (with_reducible refine (capnpref10_Valid.calls kj14 a0_0 a0_1 a0_2 _ _ l0_3 _ _ l0_4 false _ ?side1 ?side2 ?side3 ?side4 A44.out).mono ?_); (case side1 => repeat (first | exact (Kd.C_below HR0_3.out HB.out) | (with_reducible refine Kd.C_alloc ?_ _) | (with_reducible refine Kd.C_drewN ?_ _) | (with_reducible refine Kd.C_drew ?_))); (case side2 => exact HC0_3.out); (case side3 => repeat (first | exact (Kd.C_below HR0_4.out HB.out) | (with_reducible refine Kd.C_alloc ?_ _) | (with_reducible refine Kd.C_drewN ?_ _) | (with_reducible refine Kd.C_drew ?_))); (case side4 => exact HC0_4.out); rintro e w72 ⟨rfl, hb⟩; refine ⟨_, rfl, ?_⟩; have n0_ := Aside0.mk (Kd.R_below (by (with_reducible repeat (first | apply Kd.R_alloc | apply Kd.R_drewN | apply Kd.R_drew)); exact HO_288003.out) hb); have n1_ := Aside0.mk (Kd.R_below (by (with_reducible repeat (first | apply Kd.R_alloc | apply Kd.R_drewN | apply Kd.R_drew)); exact HO_288004.out) hb); have n2_ := Aside0.mk (blk_below (g := gb274) (o := .cells #[.int .i64 a0_0, .int .i64 a0_1, .int .i64 a0_2, .slice A0_3 l0_3.length c0_3, .slice A0_4 l0_4.length c0_4] 25 (0, 0)) (by (with_reducible repeat (first | refine blk_drewN ?_ _ | refine blk_drew ?_ | refine blk_alloc ?_ _)); exact BK274.out) hb); have n3_ := Aside0.mk (blk_below (g := gb287) (o := .cells #[.int .i64 t278, .int .i64 t279, .int .i64 t280, .slice Ao21 t281.length co21, .slice Ao22 t284.length co22] 25 (0, 0)) (by (with_reducible repeat (first | refine blk_drewN ?_ _ | refine blk_drew ?_ | refine blk_alloc ?_ _)); exact BK287.out) hb); have n4_ := Aside0.mk (below_step (by repeat (first | (with_reducible first | exact HB.out | apply below_alloc | apply pw_below_drewN | apply below_drew1 | refine below_set ?_ GE274.out | refine below_set ?_ GE287.out) | exact HB.out)) hb); clear HO_288003; clear HO_288004; clear BK274; clear BK287; clear HB; have HO_288003 := n0_; have HO_288004 := n1_; have BK274 := n2_; have BK287 := n3_; have HB := n4_; clear n0_ n1_ n2_ n3_ n4_; (try clear hb); (try clear hb2); (try clear hk); (try clear hi)))
        go_ret
        exact ⟨by first | rfl | (simp [errW_none, errW_some] <;> rfl) | (simp [*, errW_none, errW_some] <;> rfl), by repeat (first | (with_reducible first | exact HB.out | apply below_alloc | apply pw_below_drewN | apply below_drew1 | refine below_set ?_ GE274.out | refine below_set ?_ GE287.out) | exact HB.out)⟩
end
end Go.Proofs.YtmbockhcmhghlaaDoor.Pr
end
section
namespace Go.Proofs.YtmbockhcmhghlaaDoor.Pr
open Go.RowKit Go.Proofs.YtmbockhcmhghlaaDoorW.PrintWords Go.Proofs.YtmbockhcmhghlaaDoorW.PrintLast Go.Proofs.YtmbockhcmhghlaaDoorW.PrintMore
set_option linter.unusedVariables false
set_option linter.unusedSimpArgs false
theorem awake_bind {β : Type} {f : Nat → Bool → Option β} {r : β} (h : Ev (fun k => f k true) r) : Ev (fun k => (capnplaw10_awake.f).bind (f k)) r := h
theorem ev_if {β : Type} {c : Prop} [Decidable c] {f g : Nat → Option β} {r : β} (h1 : c → Ev f r) (h2 : ¬ c → Ev g r) : Ev (fun k => if c then f k else g k) r := by
  by_cases hc : c
  · exact Ev.congr (fun k => by rw [if_pos hc]) (h1 hc)
  · exact Ev.congr (fun k => by rw [if_neg hc]) (h2 hc)
theorem nval_ev (a : S25) (h : okT a) : Ev (fun k => node_Valid.f k a.f0 a.f1 a.f2 a.f3 a.f4) (tvalid a) :=
  Ev.congr (f := fun _ => some (tvalid a)) (fun k => by unfold node_Valid.f; rw [if_pos (show okT ⟨a.f0, a.f1, a.f2, a.f3, a.f4⟩ by rw [S25.eta]; exact h), S25.eta]) (Ev.now _)
theorem nequ_ev (a b : S25) (h : okT a) (g : okT b) : Ev (fun k => node_Equal.f k a.f0 a.f1 a.f2 a.f3 a.f4 b.f0 b.f1 b.f2 b.f3 b.f4) (eqT a b) :=
  Ev.congr (f := fun _ => some (eqT a b)) (fun k => by unfold node_Equal.f; rw [if_pos (show okT ⟨a.f0, a.f1, a.f2, a.f3, a.f4⟩ ∧ okT ⟨b.f0, b.f1, b.f2, b.f3, b.f4⟩ by rw [S25.eta, S25.eta]; exact ⟨h, g⟩), S25.eta, S25.eta]) (Ev.now _)
theorem ndep_ev (a : S25) (h : tvalid a = true) (hs : tsize a ≤ 4611686018427387904) : Ev (fun k => node_Depth.f k a.f0 a.f1 a.f2 a.f3 a.f4) (tdepth a : Int) :=
  Ev.congr (f := fun _ => some (tdepth a : Int)) (fun k => by unfold node_Depth.f; simp only [S25.eta]; rw [if_pos ⟨h, hs⟩]) (Ev.now _)
theorem nobj_ev (a : S25) (h : tvalid a = true) (hs : tsize a ≤ 4611686018427387904) : Ev (fun k => node_Objects.f k a.f0 a.f1 a.f2 a.f3 a.f4) (tobjs a : Int) :=
  Ev.congr (f := fun _ => some (tobjs a : Int)) (fun k => by unfold node_Objects.f; simp only [S25.eta]; rw [if_pos ⟨h, hs⟩]) (Ev.now _)
theorem capnplaw10_NodeMatchesReference.j0_eq (k : Nat) (x16 : Bool) (x157000 : Int) (x157001 : Int) (x157002 : Int) (x157003 : List Int) (x157004 : List (S25)) (x158000 : Int) (x158001 : Int) (x158002 : Int) (x158003 : List Int) (x158004 : List (S25)) : capnplaw10_NodeMatchesReference.j0 (k + 1) x16 x157000 x157001 x157002 x157003 x157004 x158000 x158001 x158002 x158003 x158004 = if x16 = true then ((capnplaw10_awake.f).bind fun t161 => (some t161)) else ((node_Valid.f k x157000 x157001 x157002 x157003 x157004).bind fun t162 => ((capnpref10_Valid.f k x157000 x157001 x157002 x157003 x157004).bind fun t163 => (if (t162 != t163) = true then (capnplaw10_NodeMatchesReference.j1 k true x157000 x157001 x157002 x157003 x157004) else ((node_Equal.f k x157000 x157001 x157002 x157003 x157004 x158000 x158001 x158002 x158003 x158004).bind fun t164 => ((capnpref10_Equal.f k x157000 x157001 x157002 x157003 x157004 x158000 x158001 x158002 x158003 x158004).bind fun t165 => (if (t164 != t165) = true then (capnplaw10_NodeMatchesReference.j1 k true x157000 x157001 x157002 x157003 x157004) else ((node_Equal.f k x157000 x157001 x157002 x157003 x157004 x157000 x157001 x157002 x157003 x157004).bind fun t166 => (capnplaw10_NodeMatchesReference.j1 k (!t166) x157000 x157001 x157002 x157003 x157004)))))))) := by simp only [capnplaw10_NodeMatchesReference.j0]
theorem capnplaw10_NodeMatchesReference.j1_eq (k : Nat) (x37 : Bool) (x157000 : Int) (x157001 : Int) (x157002 : Int) (x157003 : List Int) (x157004 : List (S25)) : capnplaw10_NodeMatchesReference.j1 (k + 1) x37 x157000 x157001 x157002 x157003 x157004 = if x37 = true then (none) else ((capnpref10_Valid.f k x157000 x157001 x157002 x157003 x157004).bind fun t167 => (if t167 = true then ((node_Depth.f k x157000 x157001 x157002 x157003 x157004).bind fun t168 => ((capnpref10_Depth.f k x157000 x157001 x157002 x157003 x157004).bind fun t169 => (if t168 = t169 then ((node_Objects.f k x157000 x157001 x157002 x157003 x157004).bind fun t170 => ((capnpref10_Objects.f k x157000 x157001 x157002 x157003 x157004).bind fun t171 => (some (t170 == t171)))) else (none)))) else (some true))) := by simp only [capnplaw10_NodeMatchesReference.j1]
theorem capnplaw10_NodeValidity.j0_eq (k : Nat) (x1 : Int) (x18 : Bool) (x243000 : Int) (x243001 : Int) (x243002 : Int) (x243003 : List Int) (x243004 : List (S25)) : capnplaw10_NodeValidity.j0 (k + 1) x1 x18 x243000 x243001 x243002 x243003 x243004 = if x18 = true then ((capnplaw10_awake.f).bind fun t246 => (some t246)) else (capnplaw10_NodeValidity.l0 k x1 0 x243000 x243001 x243002 x243003 x243004) := by simp only [capnplaw10_NodeValidity.j0]
theorem capnplaw10_NodeCopies.j0_eq (k : Nat) (x12 : Bool) (x275000 : Int) (x275001 : Int) (x275002 : Int) (x275003 : List Int) (x275004 : List (S25)) : capnplaw10_NodeCopies.j0 (k + 1) x12 x275000 x275001 x275002 x275003 x275004 = if x12 = true then ((capnplaw10_awake.f).bind fun t277 => (some t277)) else ((capnpref10_Copy.f k x275000 x275001 x275002 x275003 x275004).bind fun bt278 => ((node_Equal.f k bt278.1 bt278.2.1 bt278.2.2.1 bt278.2.2.2.1 bt278.2.2.2.2 x275000 x275001 x275002 x275003 x275004).bind fun t288 => (if t288 = true then ((node_Valid.f k bt278.1 bt278.2.1 bt278.2.2.1 bt278.2.2.2.1 bt278.2.2.2.2).bind fun t289 => ((node_Valid.f k x275000 x275001 x275002 x275003 x275004).bind fun t290 => (if (t289 != t290) = true then (capnplaw10_NodeCopies.j1 k true x275000 x275001 x275002 x275003 x275004 bt278.1 bt278.2.1 bt278.2.2.1 bt278.2.2.2.1 bt278.2.2.2.2) else ((node_Equal.f k x275000 x275001 x275002 x275003 x275004 bt278.1 bt278.2.1 bt278.2.2.1 bt278.2.2.2.1 bt278.2.2.2.2).bind fun t291 => (capnplaw10_NodeCopies.j1 k (!t291) x275000 x275001 x275002 x275003 x275004 bt278.1 bt278.2.1 bt278.2.2.1 bt278.2.2.2.1 bt278.2.2.2.2))))) else (capnplaw10_NodeCopies.j1 k true x275000 x275001 x275002 x275003 x275004 bt278.1 bt278.2.1 bt278.2.2.1 bt278.2.2.2.1 bt278.2.2.2.2)))) := by simp only [capnplaw10_NodeCopies.j0]
theorem capnplaw10_NodeCopies.j1_eq (k : Nat) (x32 : Bool) (x275000 : Int) (x275001 : Int) (x275002 : Int) (x275003 : List Int) (x275004 : List (S25)) (x288000 : Int) (x288001 : Int) (x288002 : Int) (x288003 : List Int) (x288004 : List (S25)) : capnplaw10_NodeCopies.j1 (k + 1) x32 x275000 x275001 x275002 x275003 x275004 x288000 x288001 x288002 x288003 x288004 = if x32 = true then (none) else ((capnpref10_Valid.f k x275000 x275001 x275002 x275003 x275004).bind fun t292 => (if t292 = true then ((node_Depth.f k x288000 x288001 x288002 x288003 x288004).bind fun t293 => ((node_Objects.f k x288000 x288001 x288002 x288003 x288004).bind fun t294 => ((capnpref10_Equal.f k x288000 x288001 x288002 x288003 x288004 x275000 x275001 x275002 x275003 x275004).bind fun t295 => (if t295 = true then ((node_Depth.f k x275000 x275001 x275002 x275003 x275004).bind fun t296 => (if t293 = t296 then ((node_Objects.f k x275000 x275001 x275002 x275003 x275004).bind fun t297 => (if t294 = t297 then (if t293 ≥ 0 then (if ((t294 == 0) == (t293 == 0)) = true then (some (decide (t293 ≤ t294))) else (none)) else (none)) else (none))) else (none))) else (none))))) else (some true))) := by simp only [capnplaw10_NodeCopies.j1]
theorem zero_both (a : S25) : ((tobjs a : Int) == 0) = ((tdepth a : Int) == 0) := by
  have h1 := tobjs_eq a
  have h2 := tdepth_eq a
  by_cases h : a.f0 = 0
  · rw [if_pos h] at h1 h2; rw [h1, h2]
  · rw [if_neg h] at h1 h2
    rw [beq_eq_false_iff_ne.2 (by omega), beq_eq_false_iff_ne.2 (by omega)]
theorem copies_true (a : S25) (oa : okT a) (sa : tsize a ≤ 2000000) : Ev (fun k => capnplaw10_NodeCopies.f k a.f0 a.f1 a.f2 a.f3 a.f4) true := by
  have early : Ev (fun k => capnplaw10_NodeCopies.j0 k true a.f0 a.f1 a.f2 a.f3 a.f4) true :=
    Ev.step (fun k => capnplaw10_NodeCopies.j0_eq k _ _ _ _ _ _) (ev_if (fun _ => Ev.now true) (fun h => absurd rfl h))
  have last : Ev (fun k => capnplaw10_NodeCopies.j1 k false a.f0 a.f1 a.f2 a.f3 a.f4 a.f0 a.f1 a.f2 a.f3 a.f4) true := by
    refine Ev.step (fun k => capnplaw10_NodeCopies.j1_eq k _ _ _ _ _ _ _ _ _ _ _) (ev_if (fun h => by cases h) (fun _ => ?_))
    refine Ev.bind (valid_ev a oa (by omega)) (ev_if (fun hv => ?_) (fun _ => Ev.now true))
    refine Ev.bind (ndep_ev a hv (by omega)) (Ev.bind (nobj_ev a hv (by omega)) ?_)
    refine Ev.bind (equal_ev a a (by omega)) ?_
    rw [eqT_true rfl]
    refine ev_if (fun _ => ?_) (fun h => absurd rfl h)
    refine Ev.bind (ndep_ev a hv (by omega)) (ev_if (fun _ => ?_) (fun h => absurd rfl h))
    refine Ev.bind (nobj_ev a hv (by omega)) (ev_if (fun _ => ?_) (fun h => absurd rfl h))
    refine ev_if (fun _ => ?_) (fun h => absurd (by omega) h)
    refine ev_if (fun _ => ?_) (fun h => absurd (by rw [zero_both]; simp) h)
    have := tdepth_objs a
    exact Ev.congr (f := fun _ => some true) (fun k => by rw [decide_eq_true (by omega)]) (Ev.now true)
  have main : Ev (fun k => capnplaw10_NodeCopies.j0 k false a.f0 a.f1 a.f2 a.f3 a.f4) true := by
    refine Ev.step (fun k => capnplaw10_NodeCopies.j0_eq k _ _ _ _ _ _) (ev_if (fun h => by cases h) (fun _ => ?_))
    refine Ev.bind (copy_ev a (by omega)) ?_
    refine Ev.bind (nequ_ev a a oa oa) ?_
    rw [eqT_true rfl]
    refine ev_if (fun _ => ?_) (fun h => absurd rfl h)
    refine Ev.bind (nval_ev a oa) (Ev.bind (nval_ev a oa) (ev_if (fun h => absurd h (by simp)) (fun _ => ?_)))
    refine Ev.bind (nequ_ev a a oa oa) ?_
    rw [eqT_true rfl]
    exact last
  unfold capnplaw10_NodeCopies.f
  refine awake_bind (ev_if (fun _ => ?_) (fun _ => early))
  refine Ev.bind (few_ev a (by omega)) ?_
  cases tfew a
  · exact early
  · exact main
end Go.Proofs.YtmbockhcmhghlaaDoor.Pr
end
section
namespace Go.Proofs.YtmbockhcmhghlaaDoor.Pr
open Go.RowKit Go.ChangeShapes Go.WideShapes Go.ChangeAt Go.Proofs.YtmbockhcmhghlaaDoorW.PrintWords Go.Proofs.YtmbockhcmhghlaaDoorW.PrintLast Go.Proofs.YtmbockhcmhghlaaDoorW.PrintMore
set_option linter.unusedVariables false
set_option linter.unusedSimpArgs false
theorem byte_range {n : Int} (h : (Lit.int .u8 n).wf = true) : 0 ≤ n ∧ n ≤ 255 := by
  simpa [Lit.wf, IntKind.min, IntKind.max, IntKind.signed, IntKind.bits] using h
theorem cells_each {w : World} {base : Nat} {a : Addr} {n : Nat} {cs : List Value} (h : w.cells? base a n = some cs) : cs.length = n ∧ ∀ (i : Nat) (u : Value), cs[i]? = some u → w.cell? (a.add i) = some u := by
  unfold World.cells? at h
  split at h
  · have hl := mapM_some_length h
    refine ⟨by simpa using hl, fun i u hu => ?_⟩
    have hi : i < n := by
      have := (List.getElem?_eq_some_iff.1 hu).1
      simp at hl; omega
    have := mapM_some_get h i i (by simp [hi])
    rw [this, hu]
  · cases h
section
variable {H : Type} {enc : TypeId × Value → H} {w : World} {base : Nat} {held : Bool}
theorem bulk_bytes {fuel : Nat} {cs : List Value} {x : DataW H × List MemPlace} (h : DataW.trod enc Tryd.prog w base (fun _ => true) held fuel 22 cs = some x) :
    ∃ (A : Option Addr) (c : Nat) (xs : List Int), cs = [.slice A xs.length c] ∧ xs.length ≤ c ∧ (Kd.int .u8).C w A xs.length xs ∧ (∀ n ∈ xs, 0 ≤ n ∧ n ≤ 255) ∧ xs.length + 1 ≤ Rows.uptoBulk x.1 := by
  rcases open_ints Tryd.underlying22 Tryd.underlying5 (by kernel_rfl) h with ⟨rfl, rfl⟩ | ⟨ad, len, cap, zs, rfl, hb, hle, hm, hz, rfl, hcell, hwz⟩
  · exact ⟨none, 0, [], rfl, Nat.le_refl _, Kd.C_nil _ _, by simp, by simp [Rows.uptoBulk]⟩
  · have hzl : zs.length = cap := by simpa using hz
    have htl : (zs.take len).length = len := by simp; omega
    have hlits : ∀ l : List Int, Rows.uptoBulkAll (lits (H := H) .u8 l) = l.length := fun l => by
      induction l with
      | nil => simp [lits, Rows.uptoBulkAll]
      | cons y l ih =>
        simp only [lits, List.map_cons, Rows.uptoBulkAll, Rows.uptoBulk, List.length_cons] at ih ⊢
        omega
    refine ⟨some ad, cap, zs.take len, by rw [htl], by omega, ⟨rfl, by rw [htl]; simp only [maxLen] at hm; omega, fun hp => ⟨ad, rfl, fun j p hj => ⟨[.int .u8 p], rfl, rfl, fun i u hu => ?_⟩⟩⟩, fun n hn => byte_range (hwz n (List.mem_of_mem_take hn)), ?_⟩
    · match i with
      | 0 =>
        obtain rfl : Value.int .u8 p = u := by simpa using hu
        have hjl := (List.getElem?_eq_some_iff.1 hj).1
        rw [htl] at hjl
        have := hcell j (by omega)
        rw [List.getElem?_take_of_lt hjl] at hj
        rw [List.getD_eq_getElem?_getD, hj] at this
        show w.cell? (ad.add (j * 1 + 0)) = _
        rw [Nat.mul_one, Nat.add_zero]
        exact this
      | i + 1 => simp at hu
    · simp only [Rows.uptoBulk, hlits]
      omega
theorem sizes_bulk : ∀ (L : List S25) (ds : List (DataW H)), L.length = ds.length → (∀ (i : Nat) (x : S25) (d : DataW H), L[i]? = some x → ds[i]? = some d → tsize x ≤ Rows.uptoBulk d) → tsizes L ≤ Rows.uptoBulkAll ds
  | [], _, _, _ => by simp [tsizes]
  | x :: L, [], h, _ => by simp at h
  | x :: L, d :: ds, h, hx => by
    have h1 := hx 0 x d rfl rfl
    have h2 := sizes_bulk L ds (by simpa using h) (fun i y e h1 h2 => hx (i + 1) y e (by simpa using h1) (by simpa using h2))
    simp only [tsizes, Rows.uptoBulkAll]; omega
theorem open_node : ∀ (fuel : Nat) (cs : List Value) (x : DataW H × List MemPlace), DataW.trod enc Tryd.prog w base (fun _ => true) held fuel 25 cs = some x → ∃ a : S25, k25.K w a cs ∧ okT a ∧ tsize a ≤ Rows.uptoBulk x.1 := by
  intro fuel
  induction fuel using Nat.strongRecOn with
  | _ fuel ih =>
  intro cs x h
  obtain ⟨xs, n, rfl, rfl, hl, hlen, hf⟩ := DataW.trod_struct Tryd.underlying25 h
  have z25 : Tryd.prog.cellsOf 25 = 5 := by kernel_rfl
  have z3 : Tryd.prog.cellsOf 3 = 1 := by kernel_rfl
  have zb : Tryd.prog.cellsOf 22 = 1 := by kernel_rfl
  have zn : Tryd.prog.cellsOf 23 = 1 := by kernel_rfl
  rw [z25] at hl
  match xs, hlen, cs, hl with
  | [y0, y1, y2, y3, y4], _, [c0, c1, c2, c3, c4], _ =>
  have h0 : DataW.trod enc Tryd.prog w base (fun _ => true) held n 3 [c0] = some y0 := by simpa [z3] using hf 0 _ rfl
  have h1 : DataW.trod enc Tryd.prog w base (fun _ => true) held n 3 [c1] = some y1 := by simpa [z3] using hf 1 _ rfl
  have h2 : DataW.trod enc Tryd.prog w base (fun _ => true) held n 3 [c2] = some y2 := by simpa [z3] using hf 2 _ rfl
  have h3 : DataW.trod enc Tryd.prog w base (fun _ => true) held n 22 [c3] = some y3 := by simpa [zb] using hf 3 _ rfl
  have h4 : DataW.trod enc Tryd.prog w base (fun _ => true) held n 23 [c4] = some y4 := by simpa [zn] using hf 4 _ rfl
  obtain ⟨n0, e0, rfl, _⟩ := DataW.trod_int Tryd.underlying3 h0
  obtain ⟨n1, e1, rfl, _⟩ := DataW.trod_int Tryd.underlying3 h1
  obtain ⟨n2, e2, rfl, _⟩ := DataW.trod_int Tryd.underlying3 h2
  obtain ⟨A3, k3, zs, e3, l3, g3, hzb, hb3⟩ := bulk_bytes h3
  simp only [List.cons.injEq, and_true] at e0 e1 e2 e3
  subst e0 e1 e2 e3
  have kids : ∃ (A : Option Addr) (c : Nat) (L : List S25), c4 = .slice A L.length c ∧ L.length ≤ c ∧ k25.C w A L.length L ∧ (∀ a ∈ L, okT a) ∧ tsizes L ≤ Rows.uptoBulk y4.1 := by
    rcases DataW.trod_slice Tryd.underlying23 h4 with ⟨e4, rfl⟩ | ⟨ad, len, cap, elems, rest, m, rfl, e4, rfl, hb, hle, hmax, hel0, hel, _, _⟩
    · simp only [List.cons.injEq, and_true] at e4
      exact ⟨none, 0, [], e4, Nat.le_refl _, Kd.C_nil _ _, by simp, by simp [tsizes]⟩
    · simp only [List.cons.injEq, and_true] at e4
      have each : ∀ i, i < len → ∃ (cs' : List Value) (a : S25), (∀ (j : Nat) (u : Value), cs'[j]? = some u → w.cell? ((ad.add (i * 5)).add j) = some u) ∧ cs'.length = 5 ∧ k25.K w a cs' ∧ okT a ∧ ∀ d, (elems.map (·.1))[i]? = some d → tsize a ≤ Rows.uptoBulk d := fun i hi => by
        have hq := hel i hi
        rw [z25, List.getElem?_eq_getElem (by omega)] at hq
        obtain ⟨cs', hc, ht⟩ := Option.bind_eq_some_iff.1 hq
        obtain ⟨a, hK, hok, hsz⟩ := ih m (by omega) cs' _ ht
        obtain ⟨hlc, hcc⟩ := cells_each hc
        refine ⟨cs', a, hcc, hlc, hK, hok, fun d hd => ?_⟩
        rw [List.getElem?_map, List.getElem?_eq_getElem (by omega)] at hd
        obtain rfl : elems[i].1 = d := by simpa using hd
        exact hsz
      classical
      let f : Nat → S25 := fun i => if hi : i < len then (each i hi).choose_spec.choose else ⟨0, 0, 0, [], []⟩
      have hfs : ∀ i (hi : i < len), f i = (each i hi).choose_spec.choose := fun i hi => dif_pos hi
      have hL : ((List.range len).map f).length = len := by simp
      have hget : ∀ (j : Nat) (p : S25), ((List.range len).map f)[j]? = some p → ∃ hj : j < len, p = (each j hj).choose_spec.choose := fun j p hp => by
        have hj : j < len := by have := (List.getElem?_eq_some_iff.1 hp).1; rwa [hL] at this
        refine ⟨hj, ?_⟩
        rw [← hfs j hj]
        simp [hj] at hp
        exact hp.symm
      refine ⟨some ad, cap, (List.range len).map f, by rw [hL]; exact e4, by rw [hL]; exact hle, ⟨rfl, by rw [hL]; simp only [maxLen] at hmax; omega, fun hp => ⟨ad, rfl, fun j p hj => ?_⟩⟩, fun a ha => ?_, ?_⟩
      · obtain ⟨hjl, rfl⟩ := hget j p hj
        obtain ⟨hc, hlc, hK, _⟩ := (each j hjl).choose_spec.choose_spec
        refine ⟨(each j hjl).choose, hlc, hK, fun i u hu => ?_⟩
        have := hc i u hu
        rw [Addr.add_add] at this
        exact this
      · obtain ⟨j, hj⟩ := List.getElem?_of_mem ha
        obtain ⟨hjl, rfl⟩ := hget j a hj
        exact (each j hjl).choose_spec.choose_spec.2.2.2.1
      · refine Nat.le_trans (sizes_bulk _ (elems.map (·.1)) (by simp; omega) fun i x d hx hd => ?_) (by simp only [Rows.uptoBulk]; omega)
        obtain ⟨hjl, rfl⟩ := hget i x hx
        exact (each i hjl).choose_spec.choose_spec.2.2.2.2 d hd
  obtain ⟨A4, k4, L, rfl, l4, g4, hLok, hb4⟩ := kids
  refine ⟨⟨n0, n1, n2, zs, L⟩, k25_mk w ⟨n0, n1, n2, zs, L⟩ l3 g3 l4 g4, .mk hzb hLok, ?_⟩
  simp only [tsize, Rows.uptoBulk, Rows.uptoBulkAll, List.map_cons, List.map_nil]
  omega
end
end Go.Proofs.YtmbockhcmhghlaaDoor.Pr
end
section
namespace Go.Proofs.YtmbockhcmhghlaaDoor.nodeCopies
open Go.ChangeShapes Go.WideShapes Go.ChangeAt Go.RowKit Go.Joins Go.Proofs.YtmbockhcmhghlaaDoor.Pr
set_option linter.unusedVariables false
set_option linter.unusedSimpArgs false
theorem own : ownKnob Tryd.prog.godebug = none := by kernel_rfl
theorem laidOut : laidOutB Tryd.prog = true := by kernel_rfl
theorem gTab : Tryd.prog.globalNamed "capnp/listsize.bits" = some 0 := by kernel_rfl
theorem gTabType : (Tryd.prog.globals[0]?).map (·.type) = some 43 := by kernel_rfl
theorem cellsT : Tryd.prog.cellsOf 43 = 8 := by kernel_rfl
theorem cellsE : Tryd.prog.cellsOf 3 = 1 := by kernel_rfl
theorem table {W : World} (h : laidMetH Tryd.prog Rows.nodeCopiesUptoRow.laid W) : Lib.TabIs Tryd.prog W "capnp/listsize.bits" .i64 [0, 1, 8, 16, 32, 64, 64, 0] :=
  Lib.tabIs_of_head (rest := []) gTab gTabType Tryd.underlying43 Tryd.underlying3 cellsE cellsT h
set_option maxRecDepth 100000 in
theorem contract (H : Type) (enc : TypeId × Value → H) (W : World) (base : Nat) (args : Array Value) (ds gs : List (DataW H)) (before : List MemPlace)
    (hval0 : ∀ (j : Nat) t v, Tryd.f7.params[j]? = some t → args[j]? = some v → Value.okWide Tryd.prog W .any base t v)
    (hW : DataW.Whole enc Tryd.prog Tryd.f7.params.toList Rows.nodeCopiesSpec.vars false W args.toList ds gs before) (hL : laidMetH Tryd.prog Rows.nodeCopiesUptoRow.laid W) (hbulk : Rows.uptoSmall H (ds ++ gs) = true) :
    Calls Tryd.prog 7 args W fun e W' => ∃ v, e = .returned v ∧ Rows.nodeCopiesSpec.post enc Tryd.prog Tryd.f7 false true false false W args v W' := by
  have hval : ∀ (j : Nat) t v, Tryd.f7.params[j]? = some t → args[j]? = some v → Value.okWide Tryd.prog W .any base t v := hval0
  have hW' := hW
  obtain ⟨p, q, hA0, hV, rfl, hfz, hnd⟩ := hW
  have hA : DataW.TrodAll enc Tryd.prog W 0 (fun _ => true) true Tryd.f7.params.toList args.toList ds p := hA0
  rw [Tryd.params7] at hA hval
  obtain ⟨v0, vs0, d0, ds0, p0, q0, hargs, rfl, rfl, h0, r0⟩ := trodAll_cons hA
  obtain ⟨rfl, rfl, rfl⟩ := trodAll_nil r0
  obtain rfl : args = #[v0] := by cases args; simp_all
  obtain ⟨rfl, rfl⟩ := trodVars_none hV
  have k0 := h0
  have lt0 : ∀ x ∈ p0, x.block < W.heap.size := by obtain ⟨m, hm⟩ := k0; exact DataW.trod_lt m _ _ _ hm
  obtain ⟨cs0, rfl, hn0⟩ := okWide_struct Tryd.underlying25 (hval 0 25 v0 rfl rfl)
  obtain ⟨fuel0, hf0⟩ := h0
  obtain ⟨a0, K0, ok0, sz0⟩ := open_node _ _ _ hf0
  obtain ⟨A0_3, c0_3, A0_4, c0_4, e0, l0_3, g0_3, l0_4, g0_4⟩ := k25_open K0
  obtain rfl : cs0 = #[.int .i64 a0.f0, .int .i64 a0.f1, .int .i64 a0.f2, .slice A0_3 a0.f3.length c0_3, .slice A0_4 a0.f4.length c0_4] := by
    have e' : cs0.toList = _ := e0
    rw [← Array.toArray_toList (xs := cs0), e']
  clear K0 e0 hf0 hn0
  have sz0 : tsize a0 ≤ Rows.uptoBulk d0 := sz0
  have hk : Rows.uptoBulk d0 ≤ 1048576 := by have h := of_decide_eq_true hbulk; simp only [Rows.uptoBulkAll, List.nil_append, List.append_nil, List.cons_append] at h; omega
  have HL : Ls.Tab W := ⟨(table hL).cell gTab 0 (by decide), (table hL).cell gTab 1 (by decide), (table hL).cell gTab 2 (by decide), (table hL).cell gTab 3 (by decide), (table hL).cell gTab 4 (by decide), (table hL).cell gTab 5 (by decide), (table hL).cell gTab 6 (by decide), (table hL).cell gTab 7 (by decide)⟩
  clear hA0 hval0
  refine (let ⟨k, hk⟩ := (copies_true a0 ok0 (by omega)).rounds; capnplaw10_NodeCopies.calls k _ _ _ _ _ _ _ _ _ _ W HL g0_3 l0_3 g0_4 l0_4 hk).mono fun e W' ⟨he, bel⟩ => ?_
  subst he
  exact ⟨_, rfl, _, _, _, [], _, [], hW', trodAll_mk1 (shut_bool Tryd.underlying4 _), (trodAll_cons_mk (Below.trod laidOut (by kernel_rfl) (of_decide_eq_true (by kernel_rfl)) k0 bel lt0) trodAll_mk0), rfl, bel.frame _, fun h => by cases h⟩
noncomputable def laidWorld (os : Os) : World :=
  { World.holding Tryd.prog os ⟨#[], #[], []⟩ with heap := (World.holding Tryd.prog os ⟨#[], #[], []⟩).heap.modify 0 fun
      | .cells _ t frozen => .cells #[.int .i64 0, .int .i64 1, .int .i64 8, .int .i64 16, .int .i64 32, .int .i64 64, .int .i64 64, .int .i64 0] t frozen
      | o => o }
theorem laid_met (os : Os) : laidMet Tryd.prog Rows.nodeCopiesUptoRow.laid ((laidWorld os).forCall (fun _ _ => 0) ⟨#[], #[.agg #[.int .i64 0, .int .i64 0, .int .i64 0, .slice none 0 0, .slice none 0 0]], []⟩).memory :=
  laidMet_of_run' 10 (by kernel_rfl) (by kernel_rfl)
theorem reads (os : Os) {H : Type} (enc : TypeId × Value → H) : ∃ places, DataW.whole enc Tryd.prog ((laidWorld os).forCall (fun _ _ => 0) ⟨#[], #[.agg #[.int .i64 0, .int .i64 0, .int .i64 0, .slice none 0 0, .slice none 0 0]], []⟩).memory Tryd.f7.params.toList Rows.nodeCopiesSpec.vars false (#[.agg #[.int .i64 0, .int .i64 0, .int .i64 0, .slice none 0 0, .slice none 0 0]] : Array Value).toList 10 = some ([.agg [.lit (.int .i64 0), .lit (.int .i64 0), .lit (.int .i64 0), .nil, .nil]], [], places) :=
  ⟨[], by kernel_rfl⟩
set_option maxRecDepth 100000 in
theorem lifted (os : Os) (started : os.Started) (H : Type) (enc : TypeId × Value → H) (F : Stop.Interp) :
    ReturnsInHanded {} Tryd.checked os 7 .any ((Rows.OpenSpec.upto Rows.nodeCopiesSpec).preRow enc Tryd.prog Tryd.f7 Rows.nodeCopiesUptoRow.domain false Rows.nodeCopiesUptoRow.laid) (((Rows.OpenSpec.upto Rows.nodeCopiesSpec).at F).post enc Tryd.prog Tryd.f7 false true false false) := by
  obtain ⟨places, hx⟩ := reads os enc
  refine returnsInHanded_of_row (C := Tryd.checked) (s := (Rows.OpenSpec.upto Rows.nodeCopiesSpec)) own started (by kernel_rfl) Tryd.func7
    (witness_row_at (enc := enc) (C := Tryd.checked) false (laidWorld os) #[.agg #[.int .i64 0, .int .i64 0, .int .i64 0, .slice none 0 0, .slice none 0 0]] rfl (by kernel_rfl) (by kernel_rfl) (by kernel_rfl)
      (OpenSpec.preRow_of_cond 10 hx (by kernel_rfl) (fun k hk => by cases hk; kernel_rfl) (by kernel_rfl) (laid_met os))) ?_
  intro W base args ds gs before hval hW _ hcond _ hL _ _
  exact contract H enc W base args ds gs before hval hW hL (hcond _ rfl)
theorem said : Rows.NodeCopiesUptoSaid :=
  OpenClaim.holds_of_cond 7 Tryd.f7 rfl rfl rfl rfl rfl rfl rfl ⟨rfl, rfl, rfl, rfl, rfl⟩ rfl rfl rfl rfl rfl (by kernel_rfl) Tryd.func7 (by kernel_rfl)
    (of_decide_eq_true (by kernel_rfl)) (by unfold Func.isWrapper; first | (rw [if_pos (by decide +kernel)]; kernel_rfl) | (rw [if_neg (by decide +kernel)]; exact ⟨rfl, rfl⟩))
    (fun os started H enc _ F => by rw [OpenClaim.pre_eq_preRow]; exact lifted os started H enc F)
theorem plain (f : FuncId) (fn : Func) (hf : Tryd.pinned.checked.prog.funcNamed "capnp/capnplaw10.NodeCopies" = some f) (hfn : Tryd.pinned.checked.prog.funcs[f]? = some fn) :
    false = Tryd.pinned.checked.prog.looks [] ∧ ∀ (j : Nat) t, fn.params[j]? = some t → Tryd.pinned.checked.prog.wantsStandIn t = false := by
  obtain rfl : f = 7 := Option.some.inj ((show Tryd.prog.funcNamed "capnp/capnplaw10.NodeCopies" = some 7 by kernel_rfl).symm.trans hf) |>.symm
  obtain rfl : fn = Tryd.f7 := (Option.some.inj (Tryd.func7.symm.trans hfn)).symm
  refine ⟨by kernel_rfl, fun j t ht => ?_⟩
  rw [Tryd.params7] at ht
  obtain rfl : t = 25 := by have := Array.mem_of_getElem? ht; simp at this; omega
  exact (show Tryd.prog.wantsStandIn 25 = false by kernel_rfl)
theorem card : Rows.NodeCopiesUptoCardSaid :=
  Claim7.holds_tied_plain_at .later [] _ _ _ _ said (fun _ h => by cases h) (by kernel_rfl) (fun _ h => by cases h) nodeCopiesUpto_row_tie rfl ⟨rfl, rfl⟩ (by kernel_rfl) rfl plain (by kernel_rfl)
#print axioms card
end Go.Proofs.YtmbockhcmhghlaaDoor.nodeCopies
namespace Go.Proofs.YtmbockhcmhghlaaDoor
theorem nodeCopies_holds : Rows.NodeCopiesUptoCardSaid := nodeCopies.card
end Go.Proofs.YtmbockhcmhghlaaDoor
end
