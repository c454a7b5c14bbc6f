/- A part of the proof of YtmbockhcmhghlaaDoorEqualityCard (the texts that it stands on, gathered; declarations that nothing uses are left out). -/
import Derived.Test.YtmbockhcmhghlaaDoorBNQB
import Derived.Below
import Derived.Deep.Draws
import Derived.Deep.AppendLies
import Derived.Maps.AppendAt
import Derived.OwnWalk
import Derived.Laws.BytesArg
import Derived.Laws.MakeOwn
import Derived.Laws.OwnMore
import Derived.Deep.OwnRows
import Derived.Tactics
import Derived.Lib.ConvBytes
import Derived.Laws.Slices
import Derived.WalkKit
import Derived.KernelRfl
import Derived.RowKit3
import Derived.Deep.LoopGhost
import Derived.Deep.QuietTactic
import Derived.BigQuiet
import Derived.WideLaws
import Derived.Deep.DeepCutAuto
import Derived.Deep.CutBlock
import Derived.Deep.RegionHeld3
import Derived.Laws.Rows
import Derived.Lib.AppendStr
import Derived.ArgAppend
import Derived.Laws.IdiomCopy
import Derived.RowKit
import Derived.OrdersHeld
import Derived.Laws.BitsLemmas
import Derived.Laws.StructEq
import Derived.SizedLaws
import Derived.ChangeSlices
import Derived.Test.YtmbockhcmhghlaaDoorProg
import Derived.Laws.AppendOwn
import Derived.WalkSpells
import Derived.Lib.Hide
import Derived.RangeFuncBox
import Derived.IntWalk
import Derived.OpenShut
import Derived.RangeFuncNested
import Derived.RangeFuncBound
import Derived.RangeFuncCalls
import Derived.RangeFuncLeaves
import Derived.Shelf.Abstract
import Derived.Shelf.RegionOpen
import Derived.OwnWalkIn
import Derived.TacticsInMore
import Derived.LoopNIn
import Derived.LoopIn
import Derived.Test.YtmbockhcmhghlaaDoorRows
import Derived.ProofKit
import Derived.ChangeOld
import Derived.Lib.SmallJoins
import Derived.DataReads
section
namespace Go.Proofs.YtmbockhcmhghlaaDoor.Pr
open Go.RowKit Go.Proofs.YtmbockhcmhghlaaDoorW.PrintWords Go.Proofs.YtmbockhcmhghlaaDoorW.PrintLast Go.Proofs.YtmbockhcmhghlaaDoorW.PrintMore
set_option linter.unusedVariables false
set_option linter.unusedSimpArgs false
set_option maxRecDepth 100000 in
set_option maxHeartbeats 32000000 in
theorem equality_calls (x0 x1 x2 : Int) (l3 : List Int) (l4 : List S25) (A3 : Option Addr) (c3 : Nat) (A4 : Option Addr) (c4 : Nat) (y0 y1 y2 : Int) (m3 : List Int) (m4 : List S25) (F3 : Option Addr) (f3 : Nat) (F4 : Option Addr) (f4 : Nat) (z0 z1 z2 : Int) (n3 : List Int) (n4 : List S25) (G3 : Option Addr) (g3 : Nat) (G4 : Option Addr) (g4 : Nat) (w : World) (HT0 : Ls.Tab w) (hok : okT ⟨x0, x1, x2, l3, l4⟩) (hs : tsize ⟨x0, x1, x2, l3, l4⟩ ≤ 2000000) (hok2 : okT ⟨y0, y1, y2, m3, m4⟩) (hs2 : tsize ⟨y0, y1, y2, m3, m4⟩ ≤ 2000000) (hok3 : okT ⟨z0, z1, z2, n3, n4⟩) (hs3 : tsize ⟨z0, z1, z2, n3, n4⟩ ≤ 2000000)
  (hr3 : Kd.C (Kd.int .u8) w A3 l3.length l3) (hc3 : l3.length ≤ c3) (hr4 : Kd.C k25 w A4 l4.length l4) (hc4 : l4.length ≤ c4)
  (hq3 : Kd.C (Kd.int .u8) w F3 m3.length m3) (hd3 : m3.length ≤ f3) (hq4 : Kd.C k25 w F4 m4.length m4) (hd4 : m4.length ≤ f4)
  (ht3 : Kd.C (Kd.int .u8) w G3 n3.length n3) (he3 : n3.length ≤ g3) (ht4 : Kd.C k25 w G4 n4.length n4) (he4 : n4.length ≤ g4) :
  Calls Tryd.prog 4 #[.agg #[.int .i64 x0, .int .i64 x1, .int .i64 x2, .slice A3 l3.length c3, .slice A4 l4.length c4], .agg #[.int .i64 y0, .int .i64 y1, .int .i64 y2, .slice F3 m3.length f3, .slice F4 m4.length f4], .agg #[.int .i64 z0, .int .i64 z1, .int .i64 z2, .slice G3 n3.length g3, .slice G4 n4.length g4]] w fun e w' => e = .returned (.bool true) ∧ Below w.heap.size w w' := by
 obtain ⟨kfn, hf⟩ := (few_ev ⟨x0, x1, x2, l3, l4⟩ (by omega)).rounds
 obtain ⟨bfn, efn⟩ : ∃ b, Hid (tfew ⟨x0, x1, x2, l3, l4⟩ = b) := ⟨_, rfl⟩
 rw [efn.out] at hf
 have HFn := Lib.hid hf
 clear hf
 obtain ⟨kfm, hf⟩ := (few_ev ⟨y0, y1, y2, m3, m4⟩ (by omega)).rounds
 obtain ⟨bfm, efm⟩ : ∃ b, Hid (tfew ⟨y0, y1, y2, m3, m4⟩ = b) := ⟨_, rfl⟩
 rw [efm.out] at hf
 have HFm := Lib.hid hf
 clear hf
 obtain ⟨kfk, hf⟩ := (few_ev ⟨z0, z1, z2, n3, n4⟩ (by omega)).rounds
 obtain ⟨bfk, efk⟩ : ∃ b, Hid (tfew ⟨z0, z1, z2, n3, n4⟩ = b) := ⟨_, rfl⟩
 rw [efk.out] at hf
 have HFk := Lib.hid hf
 clear hf
 have hse := tsize_eq ⟨x0, x1, x2, l3, l4⟩
 have hll := length_tsizes l4
 have hlen : l4.length ≤ 2000000 := by simp only at hse; omega
 have HL4 := Lib.hid hlen
 have hs62 : tsize ⟨x0, x1, x2, l3, l4⟩ ≤ 4611686018427387904 := by omega
 have HS62 := Lib.hid hs62
 clear hse hll hlen hs2 hs3
 have hokm : okT ⟨x0, x1, x2, l3, l4 ++ [⟨y0, y1, y2, m3, m4⟩]⟩ := AllT.mk hok.here (fun v hv => by
  rcases List.mem_append.1 hv with hv | hv
  ·exact hok.kids v hv
  ·rw [List.mem_singleton.1 hv]; exact hok2)
 have HE1 : Hid (node_Equal.f 0 x0 x1 x2 l3 l4 x0 x1 x2 l3 (l4 ++ [⟨y0, y1, y2, m3, m4⟩]) = some false) := Lib.hid (equ_f false hok hokm (eqT_false fun h => by have := congrArg (fun s : S25 => s.f4.length) h; simp at this))
 have HE2 : Hid (node_Equal.f 0 x0 x1 x2 l3 (l4 ++ [⟨y0, y1, y2, m3, m4⟩]) x0 x1 x2 l3 l4 = some false) := Lib.hid (equ_f false hokm hok (eqT_false fun h => by have := congrArg (fun s : S25 => s.f4.length) h; simp at this))
 have HXX : Hid (node_Equal.f 0 x0 x1 x2 l3 l4 x0 x1 x2 l3 l4 = some true) := Lib.hid (equ_f true hok hok (eqT_true rfl))
 clear hokm
 have HR3 := Lib.hid (hr3)
 have HR4 := Lib.hid (hr4)
 have HQ3 := Lib.hid (hq3)
 have HQ4 := Lib.hid (hq4)
 have HS3 := Lib.hid (ht3)
 have HS4 := Lib.hid (ht4)
 have HB := Lib.hid (Below.refl w.heap.size w)
 have HT := Lib.hid HT0
 clear HT0 hr3 hr4 hq3 hq4 ht3 ht4 hs hs62
 go_enter Tryd.func4, Tryd.ntmps4
 go_wp2_with fail
 refine calls_at (fun W0 hW => ?_)
 have hb : Below w.heap.size w W0 := by rw [hW]; repeat (first | exact Below.refl _ _ | refine Below.alloc ?_ (by first | exact Nat.le_refl _ | (simp <;> omega)) _)
 have nBN : W0.heap[w.heap.size]? = some (.cells #[.int .i64 x0, .int .i64 x1, .int .i64 x2, .slice A3 l3.length c3, .slice A4 l4.length c4] 25 (0, 0)) := by rw [hW]; repeat (first | exact heap_alloc_new _ _ | exact blk_new _ _ _ (by simp) | refine blk_alloc ?_ _)
 have nBM : W0.heap[w.heap.size + 1]? = some (.cells #[.int .i64 y0, .int .i64 y1, .int .i64 y2, .slice F3 m3.length f3, .slice F4 m4.length f4] 25 (0, 0)) := by rw [hW]; repeat (first | exact heap_alloc_new _ _ | exact blk_new _ _ _ (by simp) | refine blk_alloc ?_ _)
 have nBK : W0.heap[w.heap.size + 1 + 1]? = some (.cells #[.int .i64 z0, .int .i64 z1, .int .i64 z2, .slice G3 n3.length g3, .slice G4 n4.length g4] 25 (0, 0)) := by rw [hW]; repeat (first | exact heap_alloc_new _ _ | exact blk_new _ _ _ (by simp) | refine blk_alloc ?_ _)
 clear hW
 replace HT := Lib.hid (HT.out.below hb)
 replace HR3 := Lib.hid (Kd.C_below HR3.out hb)
 replace HR4 := Lib.hid (Kd.C_below HR4.out hb)
 replace HQ3 := Lib.hid (Kd.C_below HQ3.out hb)
 replace HQ4 := Lib.hid (Kd.C_below HQ4.out hb)
 replace HS3 := Lib.hid (Kd.C_below HS3.out hb)
 replace HS4 := Lib.hid (Kd.C_below HS4.out hb)
 replace HB := Lib.hid (below_step HB.out hb)
 clear hb
 have BN := Lib.hid nBN
 clear nBN
 have BM := Lib.hid nBM
 clear nBM
 have BK := Lib.hid nBK
 clear nBK
 refine (capnplaw10_awake.calls true _ rfl HT.out).mono ?_
 rintro e w1 ⟨rfl, hb⟩
 replace HT := Lib.hid (HT.out.below hb)
 replace HR3 := Lib.hid (Kd.C_below HR3.out hb)
 replace HR4 := Lib.hid (Kd.C_below HR4.out hb)
 replace HQ3 := Lib.hid (Kd.C_below HQ3.out hb)
 replace HQ4 := Lib.hid (Kd.C_below HQ4.out hb)
 replace HS3 := Lib.hid (Kd.C_below HS3.out hb)
 replace HS4 := Lib.hid (Kd.C_below HS4.out hb)
 replace HB := Lib.hid (below_step HB.out hb)
 replace BN := Lib.hid (blk_below BN.out hb)
 replace BM := Lib.hid (blk_below BM.out hb)
 replace BK := Lib.hid (blk_below BK.out hb)
 clear hb
 have l_BN : w.heap.size < w1.heap.size := blk_lt BN.out
 have q_BN_0 : w1.cell? ⟨w.heap.size, 0, none⟩ = some (.int .i64 x0) := (blk_cell BN.out 0).trans rfl
 have q_BN_1 : w1.cell? ⟨w.heap.size, 1, none⟩ = some (.int .i64 x1) := (blk_cell BN.out 1).trans rfl
 have q_BN_2 : w1.cell? ⟨w.heap.size, 2, none⟩ = some (.int .i64 x2) := (blk_cell BN.out 2).trans rfl
 have q_BN_3 : w1.cell? ⟨w.heap.size, 3, none⟩ = some (.slice A3 l3.length c3) := (blk_cell BN.out 3).trans rfl
 have q_BN_4 : w1.cell? ⟨w.heap.size, 4, none⟩ = some (.slice A4 l4.length c4) := (blk_cell BN.out 4).trans rfl
 go_wp2_with fail
 clear l_BN q_BN_0 q_BN_1 q_BN_2 q_BN_3 q_BN_4
 refine (capnpref10_Few.calls kfn x0 x1 x2 A3 c3 l3 A4 c4 l4 bfn _ HR3.out hc3 HR4.out hc4 HFn.out).mono ?_
 rintro e w2 ⟨rfl, hb⟩
 replace HT := Lib.hid (HT.out.below hb)
 replace HR3 := Lib.hid (Kd.C_below HR3.out hb)
 replace HR4 := Lib.hid (Kd.C_below HR4.out hb)
 replace HQ3 := Lib.hid (Kd.C_below HQ3.out hb)
 replace HQ4 := Lib.hid (Kd.C_below HQ4.out hb)
 replace HS3 := Lib.hid (Kd.C_below HS3.out hb)
 replace HS4 := Lib.hid (Kd.C_below HS4.out hb)
 replace HB := Lib.hid (below_step HB.out hb)
 replace BN := Lib.hid (blk_below BN.out hb)
 replace BM := Lib.hid (blk_below BM.out hb)
 replace BK := Lib.hid (blk_below BK.out hb)
 clear hb
 cases bfn with
 | false =>
  go_wp2_with fail
  refine (capnplaw10_awake.calls true _ rfl HT.out).mono ?_
  rintro e w3 ⟨rfl, hb⟩
  replace HT := Lib.hid (HT.out.below hb)
  replace HR3 := Lib.hid (Kd.C_below HR3.out hb)
  replace HR4 := Lib.hid (Kd.C_below HR4.out hb)
  replace HQ3 := Lib.hid (Kd.C_below HQ3.out hb)
  replace HQ4 := Lib.hid (Kd.C_below HQ4.out hb)
  replace HS3 := Lib.hid (Kd.C_below HS3.out hb)
  replace HS4 := Lib.hid (Kd.C_below HS4.out hb)
  replace HB := Lib.hid (below_step HB.out hb)
  replace BN := Lib.hid (blk_below BN.out hb)
  replace BM := Lib.hid (blk_below BM.out hb)
  replace BK := Lib.hid (blk_below BK.out hb)
  clear hb
  go_wp2
  go_ret
  exact ⟨rfl, HB.out⟩
 | true =>
  have l_BM : w.heap.size + 1 < w2.heap.size := blk_lt BM.out
  have q_BM_0 : w2.cell? ⟨w.heap.size + 1, 0, none⟩ = some (.int .i64 y0) := (blk_cell BM.out 0).trans rfl
  have q_BM_1 : w2.cell? ⟨w.heap.size + 1, 1, none⟩ = some (.int .i64 y1) := (blk_cell BM.out 1).trans rfl
  have q_BM_2 : w2.cell? ⟨w.heap.size + 1, 2, none⟩ = some (.int .i64 y2) := (blk_cell BM.out 2).trans rfl
  have q_BM_3 : w2.cell? ⟨w.heap.size + 1, 3, none⟩ = some (.slice F3 m3.length f3) := (blk_cell BM.out 3).trans rfl
  have q_BM_4 : w2.cell? ⟨w.heap.size + 1, 4, none⟩ = some (.slice F4 m4.length f4) := (blk_cell BM.out 4).trans rfl
  go_wp2_with fail
  clear l_BM q_BM_0 q_BM_1 q_BM_2 q_BM_3 q_BM_4
  refine (capnpref10_Few.calls kfm y0 y1 y2 F3 f3 m3 F4 f4 m4 bfm _ HQ3.out hd3 HQ4.out hd4 HFm.out).mono ?_
  rintro e w3 ⟨rfl, hb⟩
  replace HT := Lib.hid (HT.out.below hb)
  replace HR3 := Lib.hid (Kd.C_below HR3.out hb)
  replace HR4 := Lib.hid (Kd.C_below HR4.out hb)
  replace HQ3 := Lib.hid (Kd.C_below HQ3.out hb)
  replace HQ4 := Lib.hid (Kd.C_below HQ4.out hb)
  replace HS3 := Lib.hid (Kd.C_below HS3.out hb)
  replace HS4 := Lib.hid (Kd.C_below HS4.out hb)
  replace HB := Lib.hid (below_step HB.out hb)
  replace BN := Lib.hid (blk_below BN.out hb)
  replace BM := Lib.hid (blk_below BM.out hb)
  replace BK := Lib.hid (blk_below BK.out hb)
  clear hb
  cases bfm with
  | false =>
   go_wp2_with fail
   refine (capnplaw10_awake.calls true _ rfl HT.out).mono ?_
   rintro e w4 ⟨rfl, hb⟩
   replace HT := Lib.hid (HT.out.below hb)
   replace HR3 := Lib.hid (Kd.C_below HR3.out hb)
   replace HR4 := Lib.hid (Kd.C_below HR4.out hb)
   replace HQ3 := Lib.hid (Kd.C_below HQ3.out hb)
   replace HQ4 := Lib.hid (Kd.C_below HQ4.out hb)
   replace HS3 := Lib.hid (Kd.C_below HS3.out hb)
   replace HS4 := Lib.hid (Kd.C_below HS4.out hb)
   replace HB := Lib.hid (below_step HB.out hb)
   replace BN := Lib.hid (blk_below BN.out hb)
   replace BM := Lib.hid (blk_below BM.out hb)
   replace BK := Lib.hid (blk_below BK.out hb)
   clear hb
   go_wp2
   go_ret
   exact ⟨rfl, HB.out⟩
  | true =>
   have l_BK : w.heap.size + 1 + 1 < w3.heap.size := blk_lt BK.out
   have q_BK_0 : w3.cell? ⟨w.heap.size + 1 + 1, 0, none⟩ = some (.int .i64 z0) := (blk_cell BK.out 0).trans rfl
   have q_BK_1 : w3.cell? ⟨w.heap.size + 1 + 1, 1, none⟩ = some (.int .i64 z1) := (blk_cell BK.out 1).trans rfl
   have q_BK_2 : w3.cell? ⟨w.heap.size + 1 + 1, 2, none⟩ = some (.int .i64 z2) := (blk_cell BK.out 2).trans rfl
   have q_BK_3 : w3.cell? ⟨w.heap.size + 1 + 1, 3, none⟩ = some (.slice G3 n3.length g3) := (blk_cell BK.out 3).trans rfl
   have q_BK_4 : w3.cell? ⟨w.heap.size + 1 + 1, 4, none⟩ = some (.slice G4 n4.length g4) := (blk_cell BK.out 4).trans rfl
   go_wp2_with fail
   clear l_BK q_BK_0 q_BK_1 q_BK_2 q_BK_3 q_BK_4
   refine (capnpref10_Few.calls kfk z0 z1 z2 G3 g3 n3 G4 g4 n4 bfk _ HS3.out he3 HS4.out he4 HFk.out).mono ?_
   rintro e w4 ⟨rfl, hb⟩
   replace HT := Lib.hid (HT.out.below hb)
   replace HR3 := Lib.hid (Kd.C_below HR3.out hb)
   replace HR4 := Lib.hid (Kd.C_below HR4.out hb)
   replace HQ3 := Lib.hid (Kd.C_below HQ3.out hb)
   replace HQ4 := Lib.hid (Kd.C_below HQ4.out hb)
   replace HS3 := Lib.hid (Kd.C_below HS3.out hb)
   replace HS4 := Lib.hid (Kd.C_below HS4.out hb)
   replace HB := Lib.hid (below_step HB.out hb)
   replace BN := Lib.hid (blk_below BN.out hb)
   replace BM := Lib.hid (blk_below BM.out hb)
   replace BK := Lib.hid (blk_below BK.out hb)
   clear hb
   cases bfk with
   | false =>
    go_wp2_with fail
    refine (capnplaw10_awake.calls true _ rfl HT.out).mono ?_
    rintro e w5 ⟨rfl, hb⟩
    replace HT := Lib.hid (HT.out.below hb)
    replace HR3 := Lib.hid (Kd.C_below HR3.out hb)
    replace HR4 := Lib.hid (Kd.C_below HR4.out hb)
    replace HQ3 := Lib.hid (Kd.C_below HQ3.out hb)
    replace HQ4 := Lib.hid (Kd.C_below HQ4.out hb)
    replace HS3 := Lib.hid (Kd.C_below HS3.out hb)
    replace HS4 := Lib.hid (Kd.C_below HS4.out hb)
    replace HB := Lib.hid (below_step HB.out hb)
    replace BN := Lib.hid (blk_below BN.out hb)
    replace BM := Lib.hid (blk_below BM.out hb)
    replace BK := Lib.hid (blk_below BK.out hb)
    clear hb
    go_wp2
    go_ret
    exact ⟨rfl, HB.out⟩
   | true =>
    clear HFn HFm HFk efn efm efk
    go_upto_region 3 with fail
    rcases Classical.em ((⟨x0, x1, x2, l3, l4⟩ : S25) = ⟨y0, y1, y2, m3, m4⟩) with e | e
    ·have HE := Lib.hid e
     have HAB : Hid (node_Equal.f 0 x0 x1 x2 l3 l4 y0 y1 y2 m3 m4 = some true) := Lib.hid (equ_f true hok hok2 (eqT_true e))
     have HBA : Hid (node_Equal.f 0 y0 y1 y2 m3 m4 x0 x1 x2 l3 l4 = some true) := Lib.hid (equ_f true hok2 hok (eqT_true e.symm))
     rcases Classical.em ((⟨y0, y1, y2, m3, m4⟩ : S25) = ⟨z0, z1, z2, n3, n4⟩) with g | g
     ·have HBC : Hid (node_Equal.f 0 y0 y1 y2 m3 m4 z0 z1 z2 n3 n4 = some true) := Lib.hid (equ_f true hok2 hok3 (eqT_true g))
      have HAC : Hid (node_Equal.f 0 x0 x1 x2 l3 l4 z0 z1 z2 n3 n4 = some true) := Lib.hid (equ_f true hok hok3 (eqT_true (e.trans g)))
      clear e g
      have l_BN : w.heap.size < w4.heap.size := blk_lt BN.out
      have q_BN_0 : w4.cell? ⟨w.heap.size, 0, none⟩ = some (.int .i64 x0) := (blk_cell BN.out 0).trans rfl
      have q_BN_1 : w4.cell? ⟨w.heap.size, 1, none⟩ = some (.int .i64 x1) := (blk_cell BN.out 1).trans rfl
      have q_BN_2 : w4.cell? ⟨w.heap.size, 2, none⟩ = some (.int .i64 x2) := (blk_cell BN.out 2).trans rfl
      have q_BN_3 : w4.cell? ⟨w.heap.size, 3, none⟩ = some (.slice A3 l3.length c3) := (blk_cell BN.out 3).trans rfl
      have q_BN_4 : w4.cell? ⟨w.heap.size, 4, none⟩ = some (.slice A4 l4.length c4) := (blk_cell BN.out 4).trans rfl
      have l_BM : w.heap.size + 1 < w4.heap.size := blk_lt BM.out
      have q_BM_0 : w4.cell? ⟨w.heap.size + 1, 0, none⟩ = some (.int .i64 y0) := (blk_cell BM.out 0).trans rfl
      have q_BM_1 : w4.cell? ⟨w.heap.size + 1, 1, none⟩ = some (.int .i64 y1) := (blk_cell BM.out 1).trans rfl
      have q_BM_2 : w4.cell? ⟨w.heap.size + 1, 2, none⟩ = some (.int .i64 y2) := (blk_cell BM.out 2).trans rfl
      have q_BM_3 : w4.cell? ⟨w.heap.size + 1, 3, none⟩ = some (.slice F3 m3.length f3) := (blk_cell BM.out 3).trans rfl
      have q_BM_4 : w4.cell? ⟨w.heap.size + 1, 4, none⟩ = some (.slice F4 m4.length f4) := (blk_cell BM.out 4).trans rfl
      have l_BK : w.heap.size + 1 + 1 < w4.heap.size := blk_lt BK.out
      have q_BK_0 : w4.cell? ⟨w.heap.size + 1 + 1, 0, none⟩ = some (.int .i64 z0) := (blk_cell BK.out 0).trans rfl
      have q_BK_1 : w4.cell? ⟨w.heap.size + 1 + 1, 1, none⟩ = some (.int .i64 z1) := (blk_cell BK.out 1).trans rfl
      have q_BK_2 : w4.cell? ⟨w.heap.size + 1 + 1, 2, none⟩ = some (.int .i64 z2) := (blk_cell BK.out 2).trans rfl
      have q_BK_3 : w4.cell? ⟨w.heap.size + 1 + 1, 3, none⟩ = some (.slice G3 n3.length g3) := (blk_cell BK.out 3).trans rfl
      have q_BK_4 : w4.cell? ⟨w.heap.size + 1 + 1, 4, none⟩ = some (.slice G4 n4.length g4) := (blk_cell BK.out 4).trans rfl
      have fx : ∀ W' : World, Below w4.heap.size w4 W' → (W'.cell? ⟨w.heap.size, 0, none⟩ = some (.int .i64 x0) ∧ W'.cell? ⟨w.heap.size, 1, none⟩ = some (.int .i64 x1) ∧ W'.cell? ⟨w.heap.size, 2, none⟩ = some (.int .i64 x2) ∧ W'.cell? ⟨w.heap.size, 3, none⟩ = some (.slice A3 l3.length c3) ∧ W'.cell? ⟨w.heap.size, 4, none⟩ = some (.slice A4 l4.length c4) ∧ W'.cell? ⟨w.heap.size + 1, 0, none⟩ = some (.int .i64 y0) ∧ W'.cell? ⟨w.heap.size + 1, 1, none⟩ = some (.int .i64 y1) ∧ W'.cell? ⟨w.heap.size + 1, 2, none⟩ = some (.int .i64 y2) ∧ W'.cell? ⟨w.heap.size + 1, 3, none⟩ = some (.slice F3 m3.length f3) ∧ W'.cell? ⟨w.heap.size + 1, 4, none⟩ = some (.slice F4 m4.length f4) ∧ W'.cell? ⟨w.heap.size + 1 + 1, 0, none⟩ = some (.int .i64 z0) ∧ W'.cell? ⟨w.heap.size + 1 + 1, 1, none⟩ = some (.int .i64 z1) ∧ W'.cell? ⟨w.heap.size + 1 + 1, 2, none⟩ = some (.int .i64 z2) ∧ W'.cell? ⟨w.heap.size + 1 + 1, 3, none⟩ = some (.slice G3 n3.length g3) ∧ W'.cell? ⟨w.heap.size + 1 + 1, 4, none⟩ = some (.slice G4 n4.length g4)) := fun W' hbR => ⟨(hbR.cell (p := ⟨w.heap.size, 0, none⟩) l_BN).trans q_BN_0, (hbR.cell (p := ⟨w.heap.size, 1, none⟩) l_BN).trans q_BN_1, (hbR.cell (p := ⟨w.heap.size, 2, none⟩) l_BN).trans q_BN_2, (hbR.cell (p := ⟨w.heap.size, 3, none⟩) l_BN).trans q_BN_3, (hbR.cell (p := ⟨w.heap.size, 4, none⟩) l_BN).trans q_BN_4, (hbR.cell (p := ⟨w.heap.size + 1, 0, none⟩) l_BM).trans q_BM_0, (hbR.cell (p := ⟨w.heap.size + 1, 1, none⟩) l_BM).trans q_BM_1, (hbR.cell (p := ⟨w.heap.size + 1, 2, none⟩) l_BM).trans q_BM_2, (hbR.cell (p := ⟨w.heap.size + 1, 3, none⟩) l_BM).trans q_BM_3, (hbR.cell (p := ⟨w.heap.size + 1, 4, none⟩) l_BM).trans q_BM_4, (hbR.cell (p := ⟨w.heap.size + 1 + 1, 0, none⟩) l_BK).trans q_BK_0, (hbR.cell (p := ⟨w.heap.size + 1 + 1, 1, none⟩) l_BK).trans q_BK_1, (hbR.cell (p := ⟨w.heap.size + 1 + 1, 2, none⟩) l_BK).trans q_BK_2, (hbR.cell (p := ⟨w.heap.size + 1 + 1, 3, none⟩) l_BK).trans q_BK_3, (hbR.cell (p := ⟨w.heap.size + 1 + 1, 4, none⟩) l_BK).trans q_BK_4⟩
      refine start_ (n := 29) (S := fun w' => w'.cell? ⟨w.heap.size, 0, none⟩ = some (.int .i64 x0) ∧ w'.cell? ⟨w.heap.size, 1, none⟩ = some (.int .i64 x1) ∧ w'.cell? ⟨w.heap.size, 2, none⟩ = some (.int .i64 x2) ∧ w'.cell? ⟨w.heap.size, 3, none⟩ = some (.slice A3 l3.length c3) ∧ w'.cell? ⟨w.heap.size, 4, none⟩ = some (.slice A4 l4.length c4) ∧ w'.cell? ⟨w.heap.size + 1, 0, none⟩ = some (.int .i64 y0) ∧ w'.cell? ⟨w.heap.size + 1, 1, none⟩ = some (.int .i64 y1) ∧ w'.cell? ⟨w.heap.size + 1, 2, none⟩ = some (.int .i64 y2) ∧ w'.cell? ⟨w.heap.size + 1, 3, none⟩ = some (.slice F3 m3.length f3) ∧ w'.cell? ⟨w.heap.size + 1, 4, none⟩ = some (.slice F4 m4.length f4) ∧ w'.cell? ⟨w.heap.size + 1 + 1, 0, none⟩ = some (.int .i64 z0) ∧ w'.cell? ⟨w.heap.size + 1 + 1, 1, none⟩ = some (.int .i64 z1) ∧ w'.cell? ⟨w.heap.size + 1 + 1, 2, none⟩ = some (.int .i64 z2) ∧ w'.cell? ⟨w.heap.size + 1 + 1, 3, none⟩ = some (.slice G3 n3.length g3) ∧ w'.cell? ⟨w.heap.size + 1 + 1, 4, none⟩ = some (.slice G4 n4.length g4)) (ds := []) #[false, false, false, false, false, false, false, false, false, false, false, false, false, false, false, false, false, false, false, false, false, false, false, false, false, false, false, false, false] (by kernel_rfl) rfl rfl ⟨q_BN_0, q_BN_1, q_BN_2, q_BN_3, q_BN_4, q_BM_0, q_BM_1, q_BM_2, q_BM_3, q_BM_4, q_BK_0, q_BK_1, q_BK_2, q_BK_3, q_BK_4⟩ (fun hHeld => ?_)
      obtain ⟨wd, hwd⟩ : ∃ W, W = w4.drew := ⟨_, rfl⟩
      rw [← hwd] at hHeld ⊢
      have hbR : Below w4.heap.size w4 wd := by rw [hwd]; exact (Below.refl _ _).drew
      clear hwd
      refine take_ (i := 0) (N := some 26) (v := ?_) (a' := ?_) #[true, false, false, false, false, false, false, false, false, false, false, false, false, false, false, false, false, false, false, false, false, false, false, false, false, false, false, false, false] rfl rfl (by kernel_rfl) (fun _ _ _ h => h) (Or.inl ⟨by rfl, ?_⟩) hHeld ?_ ?_
      rotate_left
      ·rintro w' ⟨s0, s1, s2, s3, s4, s5, s6, s7, s8, s9, s10, s11, s12, s13, s14⟩
       go_simp
       with_reducible rfl
      rotate_left
      ·simp only [Act.put, List.setIfInBounds_toArray, List.set_cons_zero, List.set_cons_succ, i64_w, i32_w]
       rfl
      refine take_ (i := 1) (N := some 27) (v := ?_) (a' := ?_) #[true, true, false, false, false, false, false, false, false, false, false, false, false, false, false, false, false, false, false, false, false, false, false, false, false, false, false, false, false] rfl rfl (by kernel_rfl) (fun _ _ _ h => h) (Or.inl ⟨by rfl, ?_⟩) hHeld ?_ ?_
      rotate_left
      ·rintro w' ⟨s0, s1, s2, s3, s4, s5, s6, s7, s8, s9, s10, s11, s12, s13, s14⟩
       go_simp
       with_reducible rfl
      rotate_left
      ·simp only [Act.put, List.setIfInBounds_toArray, List.set_cons_zero, List.set_cons_succ, i64_w, i32_w]
       rfl
      refine one_ (i := 2) (N := some 28) #[true, true, true, false, false, false, false, false, false, false, false, false, false, false, false, false, false, false, false, false, false, false, false, false, false, false, false, false, false] rfl rfl (by kernel_rfl) (by decide) (fun K hK => ?_)
      refine goes_ Tryd.func12 (by kernel_rfl) rfl #[.agg #[.int .i64 x0, .int .i64 x1, .int .i64 x2, .slice A3 l3.length c3, .slice A4 l4.length c4], .agg #[.int .i64 x0, .int .i64 x1, .int .i64 x2, .slice A3 l3.length c3, .slice A4 l4.length c4]] (by rfl) rfl rfl (by simp only [List.map_toArray, List.map_cons, List.map_nil]; rfl) ?_
      with_reducible refine (node_Equal.calls 0 x0 x1 x2 A3 c3 l3 A4 c4 l4 x0 x1 x2 A3 c3 l3 A4 c4 l4 true _ (Kd.C_below HR3.out hbR) hc3 (Kd.C_below HR4.out hbR) hc4 (Kd.C_below HR3.out hbR) hc3 (Kd.C_below HR4.out hbR) hc4 HXX.out).mono ?_
      rintro e w5 ⟨rfl, hb⟩
      refine ⟨_, rfl, ?_⟩
      replace hbR := hbR.trans (hb.mono hbR.size)
      clear hb
      refine hK.out _ _ (fx _ hbR) (fun hHeld => ?_)
      clear hK K
      refine norm_ (a' := ?_) ?_ ?_
      rotate_left
      ·show Act.put _ (some 28) _ = _
       simp only [Act.put, List.setIfInBounds_toArray, List.set_cons_zero, List.set_cons_succ, i64_w, i32_w]
       rfl
      refine pure_ (i := 3) (N := some 29) (v := ?_) (a' := ?_) #[true, true, true, true, false, false, false, false, false, false, false, false, false, false, false, false, false, false, false, false, false, false, false, false, false, false, false, false, false] rfl rfl (by kernel_rfl) (fun _ _ _ h => h) (Or.inl ⟨by rfl, ?_⟩) ?_ ?_
      rotate_left
      ·intro w'
       go_simp
       with_reducible rfl
      rotate_left
      ·simp only [Act.put, List.setIfInBounds_toArray, List.set_cons_zero, List.set_cons_succ, i64_w, i32_w]
       rfl
      refine pure_ (i := 4) (N := some 30) (v := ?_) (a' := ?_) #[true, true, true, true, true, false, false, false, false, false, false, false, false, false, false, false, false, false, false, false, false, false, false, false, false, false, false, false, false] rfl rfl (by kernel_rfl) (fun _ _ _ h => h) (Or.inl ⟨by rfl, ?_⟩) ?_ ?_
      rotate_left
      ·intro w'
       go_simp
       with_reducible rfl
      rotate_left
      ·simp only [Act.put, List.setIfInBounds_toArray, List.set_cons_zero, List.set_cons_succ, i64_w, i32_w]
       rfl
      refine take_ (i := 5) (N := some 31) (v := ?_) (a' := ?_) #[true, true, true, true, true, true, false, false, false, false, false, false, false, false, false, false, false, false, false, false, false, false, false, false, false, false, false, false, false] rfl rfl (by kernel_rfl) (fun _ _ _ h => h) (Or.inl ⟨by rfl, ?_⟩) hHeld ?_ ?_
      rotate_left
      ·rintro w' ⟨s0, s1, s2, s3, s4, s5, s6, s7, s8, s9, s10, s11, s12, s13, s14⟩
       go_simp
       with_reducible rfl
      rotate_left
      ·simp only [Act.put, List.setIfInBounds_toArray, List.set_cons_zero, List.set_cons_succ, i64_w, i32_w]
       rfl
      refine take_ (i := 6) (N := some 32) (v := ?_) (a' := ?_) #[true, true, true, true, true, true, true, false, false, false, false, false, false, false, false, false, false, false, false, false, false, false, false, false, false, false, false, false, false] rfl rfl (by kernel_rfl) (fun _ _ _ h => h) (Or.inl ⟨by rfl, ?_⟩) hHeld ?_ ?_
      rotate_left
      ·rintro w' ⟨s0, s1, s2, s3, s4, s5, s6, s7, s8, s9, s10, s11, s12, s13, s14⟩
       go_simp
       with_reducible rfl
      rotate_left
      ·simp only [Act.put, List.setIfInBounds_toArray, List.set_cons_zero, List.set_cons_succ, i64_w, i32_w]
       rfl
      refine take_ (i := 8) (N := some 34) (v := ?_) (a' := ?_) #[true, true, true, true, true, true, true, false, true, false, false, false, false, false, false, false, false, false, false, false, false, false, false, false, false, false, false, false, false] rfl rfl (by kernel_rfl) (fun _ _ _ h => h) (Or.inl ⟨by rfl, ?_⟩) hHeld ?_ ?_
      rotate_left
      ·rintro w' ⟨s0, s1, s2, s3, s4, s5, s6, s7, s8, s9, s10, s11, s12, s13, s14⟩
       go_simp
       with_reducible rfl
      rotate_left
      ·simp only [Act.put, List.setIfInBounds_toArray, List.set_cons_zero, List.set_cons_succ, i64_w, i32_w]
       rfl
      refine take_ (i := 9) (N := some 35) (v := ?_) (a' := ?_) #[true, true, true, true, true, true, true, false, true, true, false, false, false, false, false, false, false, false, false, false, false, false, false, false, false, false, false, false, false] rfl rfl (by kernel_rfl) (fun _ _ _ h => h) (Or.inl ⟨by rfl, ?_⟩) hHeld ?_ ?_
      rotate_left
      ·rintro w' ⟨s0, s1, s2, s3, s4, s5, s6, s7, s8, s9, s10, s11, s12, s13, s14⟩
       go_simp
       with_reducible rfl
      rotate_left
      ·simp only [Act.put, List.setIfInBounds_toArray, List.set_cons_zero, List.set_cons_succ, i64_w, i32_w]
       rfl
      refine one_ (i := 7) (N := some 33) #[true, true, true, true, true, true, true, true, true, true, false, false, false, false, false, false, false, false, false, false, false, false, false, false, false, false, false, false, false] rfl rfl (by kernel_rfl) (by decide) (fun K hK => ?_)
      refine goes_ Tryd.func12 (by kernel_rfl) rfl #[.agg #[.int .i64 x0, .int .i64 x1, .int .i64 x2, .slice A3 l3.length c3, .slice A4 l4.length c4], .agg #[.int .i64 y0, .int .i64 y1, .int .i64 y2, .slice F3 m3.length f3, .slice F4 m4.length f4]] (by rfl) rfl rfl (by simp only [List.map_toArray, List.map_cons, List.map_nil]; rfl) ?_
      with_reducible refine (node_Equal.calls 0 x0 x1 x2 A3 c3 l3 A4 c4 l4 y0 y1 y2 F3 f3 m3 F4 f4 m4 true _ (Kd.C_below HR3.out hbR) hc3 (Kd.C_below HR4.out hbR) hc4 (Kd.C_below HQ3.out hbR) hd3 (Kd.C_below HQ4.out hbR) hd4 HAB.out).mono ?_
      rintro e w6 ⟨rfl, hb⟩
      refine ⟨_, rfl, ?_⟩
      replace hbR := hbR.trans (hb.mono hbR.size)
      clear hb
      refine hK.out _ _ (fx _ hbR) (fun hHeld => ?_)
      clear hK K
      refine norm_ (a' := ?_) ?_ ?_
      rotate_left
      ·show Act.put _ (some 33) _ = _
       simp only [Act.put, List.setIfInBounds_toArray, List.set_cons_zero, List.set_cons_succ, i64_w, i32_w]
       rfl
      refine one_ (i := 10) (N := some 36) #[true, true, true, true, true, true, true, true, true, true, true, false, false, false, false, false, false, false, false, false, false, false, false, false, false, false, false, false, false] rfl rfl (by kernel_rfl) (by decide) (fun K hK => ?_)
      refine goes_ Tryd.func12 (by kernel_rfl) rfl #[.agg #[.int .i64 y0, .int .i64 y1, .int .i64 y2, .slice F3 m3.length f3, .slice F4 m4.length f4], .agg #[.int .i64 x0, .int .i64 x1, .int .i64 x2, .slice A3 l3.length c3, .slice A4 l4.length c4]] (by rfl) rfl rfl (by simp only [List.map_toArray, List.map_cons, List.map_nil]; rfl) ?_
      with_reducible refine (node_Equal.calls 0 y0 y1 y2 F3 f3 m3 F4 f4 m4 x0 x1 x2 A3 c3 l3 A4 c4 l4 true _ (Kd.C_below HQ3.out hbR) hd3 (Kd.C_below HQ4.out hbR) hd4 (Kd.C_below HR3.out hbR) hc3 (Kd.C_below HR4.out hbR) hc4 HBA.out).mono ?_
      rintro e w7 ⟨rfl, hb⟩
      refine ⟨_, rfl, ?_⟩
      replace hbR := hbR.trans (hb.mono hbR.size)
      clear hb
      refine hK.out _ _ (fx _ hbR) (fun hHeld => ?_)
      clear hK K
      refine norm_ (a' := ?_) ?_ ?_
      rotate_left
      ·show Act.put _ (some 36) _ = _
       simp only [Act.put, List.setIfInBounds_toArray, List.set_cons_zero, List.set_cons_succ, i64_w, i32_w]
       rfl
      refine pure_ (i := 11) (N := some 37) (v := ?_) (a' := ?_) #[true, true, true, true, true, true, true, true, true, true, true, true, false, false, false, false, false, false, false, false, false, false, false, false, false, false, false, false, false] rfl rfl (by kernel_rfl) (fun _ _ _ h => h) (Or.inl ⟨by rfl, ?_⟩) ?_ ?_
      rotate_left
      ·intro w'
       go_simp
       with_reducible rfl
      rotate_left
      ·simp only [Act.put, List.setIfInBounds_toArray, List.set_cons_zero, List.set_cons_succ, i64_w, i32_w]
       rfl
      refine pure_ (i := 12) (N := some 38) (v := ?_) (a' := ?_) #[true, true, true, true, true, true, true, true, true, true, true, true, true, false, false, false, false, false, false, false, false, false, false, false, false, false, false, false, false] rfl rfl (by kernel_rfl) (fun _ _ _ h => h) (Or.inl ⟨by rfl, ?_⟩) ?_ ?_
      rotate_left
      ·intro w'
       go_simp
       with_reducible rfl
      rotate_left
      ·simp only [Act.put, List.setIfInBounds_toArray, List.set_cons_zero, List.set_cons_succ, i64_w, i32_w]
       rfl
      refine pure_ (i := 13) (N := some 39) (v := ?_) (a' := ?_) #[true, true, true, true, true, true, true, true, true, true, true, true, true, true, false, false, false, false, false, false, false, false, false, false, false, false, false, false, false] rfl rfl (by kernel_rfl) (fun _ _ _ h => h) (Or.inl ⟨by rfl, ?_⟩) ?_ ?_
      rotate_left
      ·intro w'
       go_simp
       with_reducible rfl
      rotate_left
      ·simp only [Act.put, List.setIfInBounds_toArray, List.set_cons_zero, List.set_cons_succ, i64_w, i32_w]
       rfl
      refine take_ (i := 14) (N := some 40) (v := ?_) (a' := ?_) #[true, true, true, true, true, true, true, true, true, true, true, true, true, true, true, false, false, false, false, false, false, false, false, false, false, false, false, false, false] rfl rfl (by kernel_rfl) (fun _ _ _ h => h) (Or.inl ⟨by rfl, ?_⟩) hHeld ?_ ?_
      rotate_left
      ·rintro w' ⟨s0, s1, s2, s3, s4, s5, s6, s7, s8, s9, s10, s11, s12, s13, s14⟩
       go_simp
       with_reducible rfl
      rotate_left
      ·simp only [Act.put, List.setIfInBounds_toArray, List.set_cons_zero, List.set_cons_succ, i64_w, i32_w]
       rfl
      refine take_ (i := 15) (N := some 41) (v := ?_) (a' := ?_) #[true, true, true, true, true, true, true, true, true, true, true, true, true, true, true, true, false, false, false, false, false, false, false, false, false, false, false, false, false] rfl rfl (by kernel_rfl) (fun _ _ _ h => h) (Or.inl ⟨by rfl, ?_⟩) hHeld ?_ ?_
      rotate_left
      ·rintro w' ⟨s0, s1, s2, s3, s4, s5, s6, s7, s8, s9, s10, s11, s12, s13, s14⟩
       go_simp
       with_reducible rfl
      rotate_left
      ·simp only [Act.put, List.setIfInBounds_toArray, List.set_cons_zero, List.set_cons_succ, i64_w, i32_w]
       rfl
      refine one_ (i := 16) (N := some 42) #[true, true, true, true, true, true, true, true, true, true, true, true, true, true, true, true, true, false, false, false, false, false, false, false, false, false, false, false, false] rfl rfl (by kernel_rfl) (by decide) (fun K hK => ?_)
      refine goes_ Tryd.func12 (by kernel_rfl) rfl #[.agg #[.int .i64 x0, .int .i64 x1, .int .i64 x2, .slice A3 l3.length c3, .slice A4 l4.length c4], .agg #[.int .i64 y0, .int .i64 y1, .int .i64 y2, .slice F3 m3.length f3, .slice F4 m4.length f4]] (by rfl) rfl rfl (by simp only [List.map_toArray, List.map_cons, List.map_nil]; rfl) ?_
      with_reducible refine (node_Equal.calls 0 x0 x1 x2 A3 c3 l3 A4 c4 l4 y0 y1 y2 F3 f3 m3 F4 f4 m4 true _ (Kd.C_below HR3.out hbR) hc3 (Kd.C_below HR4.out hbR) hc4 (Kd.C_below HQ3.out hbR) hd3 (Kd.C_below HQ4.out hbR) hd4 HAB.out).mono ?_
      rintro e w8 ⟨rfl, hb⟩
      refine ⟨_, rfl, ?_⟩
      replace hbR := hbR.trans (hb.mono hbR.size)
      clear hb
      refine hK.out _ _ (fx _ hbR) (fun hHeld => ?_)
      clear hK K
      refine norm_ (a' := ?_) ?_ ?_
      rotate_left
      ·show Act.put _ (some 42) _ = _
       simp only [Act.put, List.setIfInBounds_toArray, List.set_cons_zero, List.set_cons_succ, i64_w, i32_w]
       rfl
      refine pure_ (i := 17) (N := some 43) (v := ?_) (a' := ?_) #[true, true, true, true, true, true, true, true, true, true, true, true, true, true, true, true, true, true, false, false, false, false, false, false, false, false, false, false, false] rfl rfl (by kernel_rfl) (fun _ _ _ h => h) (Or.inl ⟨by rfl, ?_⟩) ?_ ?_
      rotate_left
      ·intro w'
       go_simp
       with_reducible rfl
      rotate_left
      ·simp only [Act.put, List.setIfInBounds_toArray, List.set_cons_zero, List.set_cons_succ, i64_w, i32_w]
       rfl
      refine take_ (i := 18) (N := some 44) (v := ?_) (a' := ?_) #[true, true, true, true, true, true, true, true, true, true, true, true, true, true, true, true, true, true, true, false, false, false, false, false, false, false, false, false, false] rfl rfl (by kernel_rfl) (fun _ _ _ h => h) (Or.inl ⟨by rfl, ?_⟩) hHeld ?_ ?_
      rotate_left
      ·rintro w' ⟨s0, s1, s2, s3, s4, s5, s6, s7, s8, s9, s10, s11, s12, s13, s14⟩
       go_simp
       with_reducible rfl
      rotate_left
      ·simp only [Act.put, List.setIfInBounds_toArray, List.set_cons_zero, List.set_cons_succ, i64_w, i32_w]
       rfl
      refine take_ (i := 19) (N := some 45) (v := ?_) (a' := ?_) #[true, true, true, true, true, true, true, true, true, true, true, true, true, true, true, true, true, true, true, true, false, false, false, false, false, false, false, false, false] rfl rfl (by kernel_rfl) (fun _ _ _ h => h) (Or.inl ⟨by rfl, ?_⟩) hHeld ?_ ?_
      rotate_left
      ·rintro w' ⟨s0, s1, s2, s3, s4, s5, s6, s7, s8, s9, s10, s11, s12, s13, s14⟩
       go_simp
       with_reducible rfl
      rotate_left
      ·simp only [Act.put, List.setIfInBounds_toArray, List.set_cons_zero, List.set_cons_succ, i64_w, i32_w]
       rfl
      refine one_ (i := 20) (N := some 46) #[true, true, true, true, true, true, true, true, true, true, true, true, true, true, true, true, true, true, true, true, true, false, false, false, false, false, false, false, false] rfl rfl (by kernel_rfl) (by decide) (fun K hK => ?_)
      refine goes_ Tryd.func12 (by kernel_rfl) rfl #[.agg #[.int .i64 y0, .int .i64 y1, .int .i64 y2, .slice F3 m3.length f3, .slice F4 m4.length f4], .agg #[.int .i64 z0, .int .i64 z1, .int .i64 z2, .slice G3 n3.length g3, .slice G4 n4.length g4]] (by rfl) rfl rfl (by simp only [List.map_toArray, List.map_cons, List.map_nil]; rfl) ?_
      with_reducible refine (node_Equal.calls 0 y0 y1 y2 F3 f3 m3 F4 f4 m4 z0 z1 z2 G3 g3 n3 G4 g4 n4 true _ (Kd.C_below HQ3.out hbR) hd3 (Kd.C_below HQ4.out hbR) hd4 (Kd.C_below HS3.out hbR) he3 (Kd.C_below HS4.out hbR) he4 HBC.out).mono ?_
      rintro e w9 ⟨rfl, hb⟩
      refine ⟨_, rfl, ?_⟩
      replace hbR := hbR.trans (hb.mono hbR.size)
      clear hb
      refine hK.out _ _ (fx _ hbR) (fun hHeld => ?_)
      clear hK K
      refine norm_ (a' := ?_) ?_ ?_
      rotate_left
      ·show Act.put _ (some 46) _ = _
       simp only [Act.put, List.setIfInBounds_toArray, List.set_cons_zero, List.set_cons_succ, i64_w, i32_w]
       rfl
      refine pure_ (i := 21) (N := some 47) (v := ?_) (a' := ?_) #[true, true, true, true, true, true, true, true, true, true, true, true, true, true, true, true, true, true, true, true, true, true, false, false, false, false, false, false, false] rfl rfl (by kernel_rfl) (fun _ _ _ h => h) (Or.inl ⟨by rfl, ?_⟩) ?_ ?_
      rotate_left
      ·intro w'
       go_simp
       with_reducible rfl
      rotate_left
      ·simp only [Act.put, List.setIfInBounds_toArray, List.set_cons_zero, List.set_cons_succ, i64_w, i32_w]
       rfl
      refine pure_ (i := 22) (N := some 48) (v := ?_) (a' := ?_) #[true, true, true, true, true, true, true, true, true, true, true, true, true, true, true, true, true, true, true, true, true, true, true, false, false, false, false, false, false] rfl rfl (by kernel_rfl) (fun _ _ _ h => h) (Or.inl ⟨by rfl, ?_⟩) ?_ ?_
      rotate_left
      ·intro w'
       go_simp
       with_reducible rfl
      rotate_left
      ·simp only [Act.put, List.setIfInBounds_toArray, List.set_cons_zero, List.set_cons_succ, i64_w, i32_w]
       rfl
      refine take_ (i := 23) (N := some 49) (v := ?_) (a' := ?_) #[true, true, true, true, true, true, true, true, true, true, true, true, true, true, true, true, true, true, true, true, true, true, true, true, false, false, false, false, false] rfl rfl (by kernel_rfl) (fun _ _ _ h => h) (Or.inl ⟨by rfl, ?_⟩) hHeld ?_ ?_
      rotate_left
      ·rintro w' ⟨s0, s1, s2, s3, s4, s5, s6, s7, s8, s9, s10, s11, s12, s13, s14⟩
       go_simp
       with_reducible rfl
      rotate_left
      ·simp only [Act.put, List.setIfInBounds_toArray, List.set_cons_zero, List.set_cons_succ, i64_w, i32_w]
       rfl
      refine take_ (i := 24) (N := some 50) (v := ?_) (a' := ?_) #[true, true, true, true, true, true, true, true, true, true, true, true, true, true, true, true, true, true, true, true, true, true, true, true, true, false, false, false, false] rfl rfl (by kernel_rfl) (fun _ _ _ h => h) (Or.inl ⟨by rfl, ?_⟩) hHeld ?_ ?_
      rotate_left
      ·rintro w' ⟨s0, s1, s2, s3, s4, s5, s6, s7, s8, s9, s10, s11, s12, s13, s14⟩
       go_simp
       with_reducible rfl
      rotate_left
      ·simp only [Act.put, List.setIfInBounds_toArray, List.set_cons_zero, List.set_cons_succ, i64_w, i32_w]
       rfl
      refine one_ (i := 25) (N := some 51) #[true, true, true, true, true, true, true, true, true, true, true, true, true, true, true, true, true, true, true, true, true, true, true, true, true, true, false, false, false] rfl rfl (by kernel_rfl) (by decide) (fun K hK => ?_)
      refine goes_ Tryd.func12 (by kernel_rfl) rfl #[.agg #[.int .i64 x0, .int .i64 x1, .int .i64 x2, .slice A3 l3.length c3, .slice A4 l4.length c4], .agg #[.int .i64 z0, .int .i64 z1, .int .i64 z2, .slice G3 n3.length g3, .slice G4 n4.length g4]] (by rfl) rfl rfl (by simp only [List.map_toArray, List.map_cons, List.map_nil]; rfl) ?_
      with_reducible refine (node_Equal.calls 0 x0 x1 x2 A3 c3 l3 A4 c4 l4 z0 z1 z2 G3 g3 n3 G4 g4 n4 true _ (Kd.C_below HR3.out hbR) hc3 (Kd.C_below HR4.out hbR) hc4 (Kd.C_below HS3.out hbR) he3 (Kd.C_below HS4.out hbR) he4 HAC.out).mono ?_
      rintro e w10 ⟨rfl, hb⟩
      refine ⟨_, rfl, ?_⟩
      replace hbR := hbR.trans (hb.mono hbR.size)
      clear hb
      refine hK.out _ _ (fx _ hbR) (fun hHeld => ?_)
      clear hK K
      refine norm_ (a' := ?_) ?_ ?_
      rotate_left
      ·show Act.put _ (some 51) _ = _
       simp only [Act.put, List.setIfInBounds_toArray, List.set_cons_zero, List.set_cons_succ, i64_w, i32_w]
       rfl
      refine pure_ (i := 26) (N := some 52) (v := ?_) (a' := ?_) #[true, true, true, true, true, true, true, true, true, true, true, true, true, true, true, true, true, true, true, true, true, true, true, true, true, true, true, false, false] rfl rfl (by kernel_rfl) (fun _ _ _ h => h) (Or.inl ⟨by rfl, ?_⟩) ?_ ?_
      rotate_left
      ·intro w'
       go_simp
       with_reducible rfl
      rotate_left
      ·simp only [Act.put, List.setIfInBounds_toArray, List.set_cons_zero, List.set_cons_succ, i64_w, i32_w]
       rfl
      refine pure_ (i := 27) (N := some 53) (v := ?_) (a' := ?_) #[true, true, true, true, true, true, true, true, true, true, true, true, true, true, true, true, true, true, true, true, true, true, true, true, true, true, true, true, false] rfl rfl (by kernel_rfl) (fun _ _ _ h => h) (Or.inl ⟨by rfl, ?_⟩) ?_ ?_
      rotate_left
      ·intro w'
       go_simp
       with_reducible rfl
      rotate_left
      ·simp only [Act.put, List.setIfInBounds_toArray, List.set_cons_zero, List.set_cons_succ, i64_w, i32_w]
       rfl
      refine pure_ (i := 28) (N := some 54) (v := ?_) (a' := ?_) #[true, true, true, true, true, true, true, true, true, true, true, true, true, true, true, true, true, true, true, true, true, true, true, true, true, true, true, true, true] rfl rfl (by kernel_rfl) (fun _ _ _ h => h) (Or.inl ⟨by rfl, ?_⟩) ?_ ?_
      rotate_left
      ·intro w'
       go_simp
       with_reducible rfl
      rotate_left
      ·simp only [Act.put, List.setIfInBounds_toArray, List.set_cons_zero, List.set_cons_succ, i64_w, i32_w]
       rfl
      refine done_ (by kernel_rfl) ?_
      clear fx hHeld l_BN q_BN_0 q_BN_1 q_BN_2 q_BN_3 q_BN_4 l_BM q_BM_0 q_BM_1 q_BM_2 q_BM_3 q_BM_4 l_BK q_BK_0 q_BK_1 q_BK_2 q_BK_3 q_BK_4
      replace HT := Lib.hid (HT.out.below hbR)
      replace HR3 := Lib.hid (Kd.C_below HR3.out hbR)
      replace HR4 := Lib.hid (Kd.C_below HR4.out hbR)
      replace HQ3 := Lib.hid (Kd.C_below HQ3.out hbR)
      replace HQ4 := Lib.hid (Kd.C_below HQ4.out hbR)
      replace HS3 := Lib.hid (Kd.C_below HS3.out hbR)
      replace HS4 := Lib.hid (Kd.C_below HS4.out hbR)
      replace HB := Lib.hid (below_step HB.out hbR)
      replace BN := Lib.hid (blk_below BN.out hbR)
      replace BM := Lib.hid (blk_below BM.out hbR)
      replace BK := Lib.hid (blk_below BK.out hbR)
      clear hbR
      have l_BN : w.heap.size < w10.heap.size := blk_lt BN.out
      have q_BN_0 : w10.cell? ⟨w.heap.size, 0, none⟩ = some (.int .i64 x0) := (blk_cell BN.out 0).trans rfl
      have q_BN_1 : w10.cell? ⟨w.heap.size, 1, none⟩ = some (.int .i64 x1) := (blk_cell BN.out 1).trans rfl
      have q_BN_2 : w10.cell? ⟨w.heap.size, 2, none⟩ = some (.int .i64 x2) := (blk_cell BN.out 2).trans rfl
      have q_BN_3 : w10.cell? ⟨w.heap.size, 3, none⟩ = some (.slice A3 l3.length c3) := (blk_cell BN.out 3).trans rfl
      have q_BN_4 : w10.cell? ⟨w.heap.size, 4, none⟩ = some (.slice A4 l4.length c4) := (blk_cell BN.out 4).trans rfl
      go_upto_region 6 with fail
      clear l_BN q_BN_0 q_BN_1 q_BN_2 q_BN_3 q_BN_4
      refine wp_at (fun W1 hW => ?_)
      have BT0 : Hid (W1.heap[w10.heap.size]? = some (.cells #[.int .i64 x0, .int .i64 x1, .int .i64 x2, .slice A3 l3.length c3, .slice A4 l4.length c4] 25 (0, 0))) := Lib.hid (by rw [hW]; exact heap_alloc_new _ _)
      have hb81 : Below w10.heap.size w10 W1 := by rw [hW]; exact (Below.refl _ _).alloc (Nat.le_refl _) _
      clear hW
      have q_s4 : W1.cell? ⟨w.heap.size, 4, none⟩ = some (.slice A4 l4.length c4) := (blk_cell (blk_below BN.out hb81) 4).trans rfl
      have q_m0 : W1.cell? ⟨w.heap.size + 1, 0, none⟩ = some (.int .i64 y0) := (blk_cell (blk_below BM.out hb81) 0).trans rfl
      have q_m1 : W1.cell? ⟨w.heap.size + 1, 1, none⟩ = some (.int .i64 y1) := (blk_cell (blk_below BM.out hb81) 1).trans rfl
      have q_m2 : W1.cell? ⟨w.heap.size + 1, 2, none⟩ = some (.int .i64 y2) := (blk_cell (blk_below BM.out hb81) 2).trans rfl
      have q_m3 : W1.cell? ⟨w.heap.size + 1, 3, none⟩ = some (.slice F3 m3.length f3) := (blk_cell (blk_below BM.out hb81) 3).trans rfl
      have q_m4 : W1.cell? ⟨w.heap.size + 1, 4, none⟩ = some (.slice F4 m4.length f4) := (blk_cell (blk_below BM.out hb81) 4).trans rfl
      obtain ⟨rowsN, hRK, hRC⟩ := rows_of_C HR4.out
      have hrl : rowsN.length = l4.length := hRK.1
      refine start_ (n := 9) (S := fun w' => w'.cell? ⟨w.heap.size, 4, none⟩ = some (.slice A4 l4.length c4) ∧ w'.cell? ⟨w.heap.size + 1, 0, none⟩ = some (.int .i64 y0) ∧ w'.cell? ⟨w.heap.size + 1, 1, none⟩ = some (.int .i64 y1) ∧ w'.cell? ⟨w.heap.size + 1, 2, none⟩ = some (.int .i64 y2) ∧ w'.cell? ⟨w.heap.size + 1, 3, none⟩ = some (.slice F3 m3.length f3) ∧ w'.cell? ⟨w.heap.size + 1, 4, none⟩ = some (.slice F4 m4.length f4)) (ds := [8]) #[false, false, false, false, false, false, false, false, false] (by kernel_rfl) rfl rfl ⟨q_s4, q_m0, q_m1, q_m2, q_m3, q_m4⟩ (fun hHeld => ?_)
      obtain ⟨wd, hwd⟩ : ∃ W, W = W1.drew := ⟨_, rfl⟩
      rw [← hwd] at hHeld ⊢
      have hb1d : Below W1.heap.size W1 wd := by rw [hwd]; exact (Below.refl _ _).drew
      clear hwd q_s4 q_m0 q_m1 q_m2 q_m3 q_m4
      have hb8d : Below w10.heap.size w10 wd := hb81.trans (hb1d.mono hb81.size)
      have BT_ := Lib.hid (blk_below BT0.out hb1d)
      have HC4 := Lib.hid (Kd.C_below hRC hb8d)
      have HRK := Lib.hid hRK
      clear hRC hRK BT0
      have hHd := hHeld
      obtain ⟨qd_s4, qd_m0, qd_m1, qd_m2, qd_m3, qd_m4⟩ := hHd
      have l_src : w.heap.size < wd.heap.size := blk_lt (blk_below BN.out hb8d)
      have l_more : w.heap.size + 1 < wd.heap.size := blk_lt (blk_below BM.out hb8d)
      refine pure_ (i := 1) (N := some 57) (v := ?_) (a' := ?_) #[false, true, false, false, false, false, false, false, false] rfl rfl (by kernel_rfl) (fun _ _ _ h => h) (Or.inl ⟨by rfl, ?_⟩) ?_ ?_
      rotate_left
      ·intro w'
       go_simp
       with_reducible rfl
      rotate_left
      ·simp only [Act.put, List.setIfInBounds_toArray, List.set_cons_zero, List.set_cons_succ, i64_w, i32_w]
       rfl
      refine take_ (i := 2) (N := some 58) (v := ?_) (a' := ?_) #[false, true, true, false, false, false, false, false, false] rfl rfl (by kernel_rfl) (fun _ _ _ h => h) (Or.inl ⟨by rfl, ?_⟩) hHeld ?_ ?_
      rotate_left
      ·rintro w' ⟨s0, s1, s2, s3, s4, s5⟩
       go_simp
       with_reducible rfl
      rotate_left
      ·simp only [Act.put, List.setIfInBounds_toArray, List.set_cons_zero, List.set_cons_succ, i64_w, i32_w]
       rfl
      refine take_ (i := 4) (N := some 60) (v := ?_) (a' := ?_) #[false, true, true, false, true, false, false, false, false] rfl rfl (by kernel_rfl) (fun _ _ _ h => h) (Or.inl ⟨by rfl, ?_⟩) hHeld ?_ ?_
      rotate_left
      ·rintro w' ⟨s0, s1, s2, s3, s4, s5⟩
       go_simp
       with_reducible rfl
      rotate_left
      ·simp only [Act.put, List.setIfInBounds_toArray, List.set_cons_zero, List.set_cons_succ, i64_w, i32_w]
       rfl
      refine join_ (σ := Value × Value × Value) 3 #[true, true, true, true, true, true, false, false, false] (fun s_ => [(56, s_.1), (59, s_.2.1), (61, s_.2.2)]) (fun s_ w' => (w'.cell? ⟨w.heap.size, 4, none⟩ = some (.slice A4 l4.length c4) ∧ w'.cell? ⟨w.heap.size + 1, 0, none⟩ = some (.int .i64 y0) ∧ w'.cell? ⟨w.heap.size + 1, 1, none⟩ = some (.int .i64 y1) ∧ w'.cell? ⟨w.heap.size + 1, 2, none⟩ = some (.int .i64 y2) ∧ w'.cell? ⟨w.heap.size + 1, 3, none⟩ = some (.slice F3 m3.length f3) ∧ w'.cell? ⟨w.heap.size + 1, 4, none⟩ = some (.slice F4 m4.length f4)) ∧ Below wd.heap.size wd w' ∧ Hid ((Kd.raw 5).R 25 w' wd.heap.size (fun _ => True) s_.2.1 ([] ++ rowsN)) ∧ Hid ((Kd.raw 5).R 25 w' wd.heap.size (fun _ => True) s_.2.2 [[.int .i64 y0, .int .i64 y1, .int .i64 y2, .slice F3 m3.length f3, .slice F4 m4.length f4]])) ?_ ?_
      rotate_left
      ·intro hCont
       refine two_ (i := 0) (j := 5) (Ni := some 56) (Nj := some 61) #[true, true, true, false, true, false, false, false, false] #[false, true, true, false, true, true, false, false, false] rfl rfl rfl rfl (by kernel_rfl) (by decide) (by decide) (fun K hK => ?_) (fun K hK => ?_)
       ·skip
        refine Kd.R_lit_step (Kd.raw 5) (w0 := wd) wd.heap.size 25 ?hg (N := 56) ?hd (xs := []) (inner := []) (ok := fun _ => True) (okp := fun _ => False) ?hr ?hp (fun _ hk => hk.elim) trivial (Below.refl _ _) (Nat.le_refl _) (by simp) ?_; (case hd => rfl); (case hg => rfl); (case hr => first | (go_simp; done) | (go_simp; rfl)); (case hp => exact (Reps.none _ _))
        intro v0 we0 ho hb hg hnew
        have H0 := Lib.hid ho
        have n_hb := hb
        have hbd := n_hb
        clear n_hb hb ho hg
        refine hK.out _ _ ⟨(hbd.cell (p := ⟨w.heap.size, 4, none⟩) l_src).trans qd_s4, (hbd.cell (p := ⟨w.heap.size + 1, 0, none⟩) l_more).trans qd_m0, (hbd.cell (p := ⟨w.heap.size + 1, 1, none⟩) l_more).trans qd_m1, (hbd.cell (p := ⟨w.heap.size + 1, 2, none⟩) l_more).trans qd_m2, (hbd.cell (p := ⟨w.heap.size + 1, 3, none⟩) l_more).trans qd_m3, (hbd.cell (p := ⟨w.heap.size + 1, 4, none⟩) l_more).trans qd_m4⟩ (fun hHeld => ?_)
        clear hK K
        refine norm_ (a' := ?_) ?_ ?_
        rotate_left
        ·show Act.put _ (some 56) _ = _
         simp only [Act.put, List.setIfInBounds_toArray, List.set_cons_zero, List.set_cons_succ, i64_w, i32_w]
         rfl
        refine two_ (i := 3) (j := 5) (Ni := some 59) (Nj := some 61) #[true, true, true, true, true, false, false, false, false] #[true, true, true, false, true, true, false, false, false] rfl rfl rfl rfl (by kernel_rfl) (by decide) (by decide) (fun K hK => ?_) (fun K hK => ?_)
        ·skip
         refine Kd.R_append_rows_step (Kd.raw 5) (Rr := Kd.K (Kd.raw 5) wd) (w0 := wd) wd.heap.size (by rfl) (.tmp 56) (.tmp 58) 23 25 (.agg #[(.int .i64 0), (.int .i64 0), (.int .i64 0), (.slice none 0 0), (.slice none 0 0)]) 72 rfl Tryd.underlying23 info25 rfl (by decide) (by omega) v0 [] rowsN _ _ _ (fun _ => True) (fun _ => False) rfl rfl ?aO ?aR (fun _ _ h => h) (fun _ h => h.elim) (fun _ _ => trivial) ?aB ?aS ?aL ?_
         (case aO => exact H0.out)
         (case aR => exact Kd.C_below HC4.out hbd)
         (case aB => exact hbd)
         (case aS => exact hbd.size)
         (case aL => have := HL4.out; simp only [List.length_nil]; omega)
         intro v3 we1 ho hb hg hat
         have H3 := Lib.hid ho
         have n_hb := hb
         clear hbd
         have hbd := n_hb
         clear n_hb hb ho hg
         refine hK.out _ _ ⟨(hbd.cell (p := ⟨w.heap.size, 4, none⟩) l_src).trans qd_s4, (hbd.cell (p := ⟨w.heap.size + 1, 0, none⟩) l_more).trans qd_m0, (hbd.cell (p := ⟨w.heap.size + 1, 1, none⟩) l_more).trans qd_m1, (hbd.cell (p := ⟨w.heap.size + 1, 2, none⟩) l_more).trans qd_m2, (hbd.cell (p := ⟨w.heap.size + 1, 3, none⟩) l_more).trans qd_m3, (hbd.cell (p := ⟨w.heap.size + 1, 4, none⟩) l_more).trans qd_m4⟩ (fun hHeld => ?_)
         clear hK K
         refine norm_ (a' := ?_) ?_ ?_
         rotate_left
         ·show Act.put _ (some 59) _ = _
          simp only [Act.put, List.setIfInBounds_toArray, List.set_cons_zero, List.set_cons_succ, i64_w, i32_w]
          rfl
         refine one_ (i := 5) (N := some 61) #[true, true, true, true, true, true, false, false, false] rfl rfl (by kernel_rfl) (by decide) (fun K hK => ?_)
         refine Kd.R_lit_step (Kd.raw 5) (w0 := wd) wd.heap.size 25 ?hg (N := 61) ?hd (xs := [[.int .i64 y0, .int .i64 y1, .int .i64 y2, .slice F3 m3.length f3, .slice F4 m4.length f4]]) (inner := [.int .i64 y0, .int .i64 y1, .int .i64 y2, .slice F3 m3.length f3, .slice F4 m4.length f4]) (ok := fun _ => True) (okp := fun _ => False) ?hr ?hp (fun _ hk => hk.elim) trivial hbd hbd.size (by simp) ?_; (case hd => rfl); (case hg => rfl); (case hr => first | (go_simp; done) | (go_simp; rfl)); (case hp => exact (Reps.c5 (show Kd.M (Kd.raw 5) _ _ _ [.int .i64 y0, .int .i64 y1, .int .i64 y2, .slice F3 m3.length f3, .slice F4 m4.length f4] [.int .i64 y0, .int .i64 y1, .int .i64 y2, .slice F3 m3.length f3, .slice F4 m4.length f4] from raw_M rfl (by simp [Value.oneCell'])) (Reps.none _ _)))
         intro v5 we2 ho hb hg hnew
         replace H3 := Lib.hid (raw_kept H3.out hg (fun k _ h => by cases h))
         have H5 := Lib.hid ho
         have n_hb := hb
         clear hbd
         have hbd := n_hb
         clear n_hb hb ho hg
         refine hK.out _ _ ⟨(hbd.cell (p := ⟨w.heap.size, 4, none⟩) l_src).trans qd_s4, (hbd.cell (p := ⟨w.heap.size + 1, 0, none⟩) l_more).trans qd_m0, (hbd.cell (p := ⟨w.heap.size + 1, 1, none⟩) l_more).trans qd_m1, (hbd.cell (p := ⟨w.heap.size + 1, 2, none⟩) l_more).trans qd_m2, (hbd.cell (p := ⟨w.heap.size + 1, 3, none⟩) l_more).trans qd_m3, (hbd.cell (p := ⟨w.heap.size + 1, 4, none⟩) l_more).trans qd_m4⟩ (fun hHeld => ?_)
         clear hK K
         refine norm_ (a' := ?_) ?_ ?_
         rotate_left
         ·show Act.put _ (some 61) _ = _
          simp only [Act.put, List.setIfInBounds_toArray, List.set_cons_zero, List.set_cons_succ, i64_w, i32_w]
          rfl
         exact norm_ (by simp only [putAll, Act.put, List.setIfInBounds_toArray, List.set_cons_zero, List.set_cons_succ]) (hCont (v0, v3, v5) _ ⟨⟨(hbd.cell (p := ⟨w.heap.size, 4, none⟩) l_src).trans qd_s4, (hbd.cell (p := ⟨w.heap.size + 1, 0, none⟩) l_more).trans qd_m0, (hbd.cell (p := ⟨w.heap.size + 1, 1, none⟩) l_more).trans qd_m1, (hbd.cell (p := ⟨w.heap.size + 1, 2, none⟩) l_more).trans qd_m2, (hbd.cell (p := ⟨w.heap.size + 1, 3, none⟩) l_more).trans qd_m3, (hbd.cell (p := ⟨w.heap.size + 1, 4, none⟩) l_more).trans qd_m4⟩, hbd, H3, H5⟩)
        ·skip
         refine Kd.R_lit_step (Kd.raw 5) (w0 := wd) wd.heap.size 25 ?hg (N := 61) ?hd (xs := [[.int .i64 y0, .int .i64 y1, .int .i64 y2, .slice F3 m3.length f3, .slice F4 m4.length f4]]) (inner := [.int .i64 y0, .int .i64 y1, .int .i64 y2, .slice F3 m3.length f3, .slice F4 m4.length f4]) (ok := fun _ => True) (okp := fun _ => False) ?hr ?hp (fun _ hk => hk.elim) trivial hbd hbd.size (by simp) ?_; (case hd => rfl); (case hg => rfl); (case hr => first | (go_simp; done) | (go_simp; rfl)); (case hp => exact (Reps.c5 (show Kd.M (Kd.raw 5) _ _ _ [.int .i64 y0, .int .i64 y1, .int .i64 y2, .slice F3 m3.length f3, .slice F4 m4.length f4] [.int .i64 y0, .int .i64 y1, .int .i64 y2, .slice F3 m3.length f3, .slice F4 m4.length f4] from raw_M rfl (by simp [Value.oneCell'])) (Reps.none _ _)))
         intro v5 we1 ho hb hg hnew
         have D05 : Hid (∀ k, v5.ownBlock = some k → v0.ownBlock ≠ some k) := fun k hk he => by obtain ⟨b, e_, hle⟩ := hnew; rw [e_] at hk; have := (raw_block H0.out he).2; injection hk with hk; omega
         replace H0 := Lib.hid (raw_kept H0.out hg (fun k _ h => by cases h))
         have H5 := Lib.hid ho
         have n_hb := hb
         clear hbd
         have hbd := n_hb
         clear n_hb hb ho hg
         refine hK.out _ _ ⟨(hbd.cell (p := ⟨w.heap.size, 4, none⟩) l_src).trans qd_s4, (hbd.cell (p := ⟨w.heap.size + 1, 0, none⟩) l_more).trans qd_m0, (hbd.cell (p := ⟨w.heap.size + 1, 1, none⟩) l_more).trans qd_m1, (hbd.cell (p := ⟨w.heap.size + 1, 2, none⟩) l_more).trans qd_m2, (hbd.cell (p := ⟨w.heap.size + 1, 3, none⟩) l_more).trans qd_m3, (hbd.cell (p := ⟨w.heap.size + 1, 4, none⟩) l_more).trans qd_m4⟩ (fun hHeld => ?_)
         clear hK K
         refine norm_ (a' := ?_) ?_ ?_
         rotate_left
         ·show Act.put _ (some 61) _ = _
          simp only [Act.put, List.setIfInBounds_toArray, List.set_cons_zero, List.set_cons_succ, i64_w, i32_w]
          rfl
         refine one_ (i := 3) (N := some 59) #[true, true, true, true, true, true, false, false, false] rfl rfl (by kernel_rfl) (by decide) (fun K hK => ?_)
         refine Kd.R_append_rows_step (Kd.raw 5) (Rr := Kd.K (Kd.raw 5) wd) (w0 := wd) wd.heap.size (by rfl) (.tmp 56) (.tmp 58) 23 25 (.agg #[(.int .i64 0), (.int .i64 0), (.int .i64 0), (.slice none 0 0), (.slice none 0 0)]) 72 rfl Tryd.underlying23 info25 rfl (by decide) (by omega) v0 [] rowsN _ _ _ (fun _ => True) (fun _ => False) rfl rfl ?aO ?aR (fun _ _ h => h) (fun _ h => h.elim) (fun _ _ => trivial) ?aB ?aS ?aL ?_
         (case aO => exact H0.out)
         (case aR => exact Kd.C_below HC4.out hbd)
         (case aB => exact hbd)
         (case aS => exact hbd.size)
         (case aL => have := HL4.out; simp only [List.length_nil]; omega)
         intro v3 we2 ho hb hg hat
         replace H5 := Lib.hid (raw_kept H5.out hg (fun k hk => D05.out k hk))
         have H3 := Lib.hid ho
         have n_hb := hb
         clear hbd
         have hbd := n_hb
         clear n_hb hb ho hg
         refine hK.out _ _ ⟨(hbd.cell (p := ⟨w.heap.size, 4, none⟩) l_src).trans qd_s4, (hbd.cell (p := ⟨w.heap.size + 1, 0, none⟩) l_more).trans qd_m0, (hbd.cell (p := ⟨w.heap.size + 1, 1, none⟩) l_more).trans qd_m1, (hbd.cell (p := ⟨w.heap.size + 1, 2, none⟩) l_more).trans qd_m2, (hbd.cell (p := ⟨w.heap.size + 1, 3, none⟩) l_more).trans qd_m3, (hbd.cell (p := ⟨w.heap.size + 1, 4, none⟩) l_more).trans qd_m4⟩ (fun hHeld => ?_)
         clear hK K
         refine norm_ (a' := ?_) ?_ ?_
         rotate_left
         ·show Act.put _ (some 59) _ = _
          simp only [Act.put, List.setIfInBounds_toArray, List.set_cons_zero, List.set_cons_succ, i64_w, i32_w]
          rfl
         exact norm_ (by simp only [putAll, Act.put, List.setIfInBounds_toArray, List.set_cons_zero, List.set_cons_succ]) (hCont (v0, v3, v5) _ ⟨⟨(hbd.cell (p := ⟨w.heap.size, 4, none⟩) l_src).trans qd_s4, (hbd.cell (p := ⟨w.heap.size + 1, 0, none⟩) l_more).trans qd_m0, (hbd.cell (p := ⟨w.heap.size + 1, 1, none⟩) l_more).trans qd_m1, (hbd.cell (p := ⟨w.heap.size + 1, 2, none⟩) l_more).trans qd_m2, (hbd.cell (p := ⟨w.heap.size + 1, 3, none⟩) l_more).trans qd_m3, (hbd.cell (p := ⟨w.heap.size + 1, 4, none⟩) l_more).trans qd_m4⟩, hbd, H3, H5⟩)
       ·skip
        refine Kd.R_lit_step (Kd.raw 5) (w0 := wd) wd.heap.size 25 ?hg (N := 61) ?hd (xs := [[.int .i64 y0, .int .i64 y1, .int .i64 y2, .slice F3 m3.length f3, .slice F4 m4.length f4]]) (inner := [.int .i64 y0, .int .i64 y1, .int .i64 y2, .slice F3 m3.length f3, .slice F4 m4.length f4]) (ok := fun _ => True) (okp := fun _ => False) ?hr ?hp (fun _ hk => hk.elim) trivial (Below.refl _ _) (Nat.le_refl _) (by simp) ?_; (case hd => rfl); (case hg => rfl); (case hr => first | (go_simp; done) | (go_simp; rfl)); (case hp => exact (Reps.c5 (show Kd.M (Kd.raw 5) _ _ _ [.int .i64 y0, .int .i64 y1, .int .i64 y2, .slice F3 m3.length f3, .slice F4 m4.length f4] [.int .i64 y0, .int .i64 y1, .int .i64 y2, .slice F3 m3.length f3, .slice F4 m4.length f4] from raw_M rfl (by simp [Value.oneCell'])) (Reps.none _ _)))
        intro v5 we0 ho hb hg hnew
        have H5 := Lib.hid ho
        have n_hb := hb
        have hbd := n_hb
        clear n_hb hb ho hg
        refine hK.out _ _ ⟨(hbd.cell (p := ⟨w.heap.size, 4, none⟩) l_src).trans qd_s4, (hbd.cell (p := ⟨w.heap.size + 1, 0, none⟩) l_more).trans qd_m0, (hbd.cell (p := ⟨w.heap.size + 1, 1, none⟩) l_more).trans qd_m1, (hbd.cell (p := ⟨w.heap.size + 1, 2, none⟩) l_more).trans qd_m2, (hbd.cell (p := ⟨w.heap.size + 1, 3, none⟩) l_more).trans qd_m3, (hbd.cell (p := ⟨w.heap.size + 1, 4, none⟩) l_more).trans qd_m4⟩ (fun hHeld => ?_)
        clear hK K
        refine norm_ (a' := ?_) ?_ ?_
        rotate_left
        ·show Act.put _ (some 61) _ = _
         simp only [Act.put, List.setIfInBounds_toArray, List.set_cons_zero, List.set_cons_succ, i64_w, i32_w]
         rfl
        refine one_ (i := 0) (N := some 56) #[true, true, true, false, true, true, false, false, false] rfl rfl (by kernel_rfl) (by decide) (fun K hK => ?_)
        refine Kd.R_lit_step (Kd.raw 5) (w0 := wd) wd.heap.size 25 ?hg (N := 56) ?hd (xs := []) (inner := []) (ok := fun _ => True) (okp := fun _ => False) ?hr ?hp (fun _ hk => hk.elim) trivial hbd hbd.size (by simp) ?_; (case hd => rfl); (case hg => rfl); (case hr => first | (go_simp; done) | (go_simp; rfl)); (case hp => exact (Reps.none _ _))
        intro v0 we1 ho hb hg hnew
        have D05 : Hid (∀ k, v5.ownBlock = some k → v0.ownBlock ≠ some k) := fun k hk he => by obtain ⟨b, e_, hle⟩ := hnew; rw [e_] at he; have := (raw_block H5.out hk).2; injection he with he; omega
        replace H5 := Lib.hid (raw_kept H5.out hg (fun k _ h => by cases h))
        have H0 := Lib.hid ho
        have n_hb := hb
        clear hbd
        have hbd := n_hb
        clear n_hb hb ho hg
        refine hK.out _ _ ⟨(hbd.cell (p := ⟨w.heap.size, 4, none⟩) l_src).trans qd_s4, (hbd.cell (p := ⟨w.heap.size + 1, 0, none⟩) l_more).trans qd_m0, (hbd.cell (p := ⟨w.heap.size + 1, 1, none⟩) l_more).trans qd_m1, (hbd.cell (p := ⟨w.heap.size + 1, 2, none⟩) l_more).trans qd_m2, (hbd.cell (p := ⟨w.heap.size + 1, 3, none⟩) l_more).trans qd_m3, (hbd.cell (p := ⟨w.heap.size + 1, 4, none⟩) l_more).trans qd_m4⟩ (fun hHeld => ?_)
        clear hK K
        refine norm_ (a' := ?_) ?_ ?_
        rotate_left
        ·show Act.put _ (some 56) _ = _
         simp only [Act.put, List.setIfInBounds_toArray, List.set_cons_zero, List.set_cons_succ, i64_w, i32_w]
         rfl
        refine one_ (i := 3) (N := some 59) #[true, true, true, true, true, true, false, false, false] rfl rfl (by kernel_rfl) (by decide) (fun K hK => ?_)
        refine Kd.R_append_rows_step (Kd.raw 5) (Rr := Kd.K (Kd.raw 5) wd) (w0 := wd) wd.heap.size (by rfl) (.tmp 56) (.tmp 58) 23 25 (.agg #[(.int .i64 0), (.int .i64 0), (.int .i64 0), (.slice none 0 0), (.slice none 0 0)]) 72 rfl Tryd.underlying23 info25 rfl (by decide) (by omega) v0 [] rowsN _ _ _ (fun _ => True) (fun _ => False) rfl rfl ?aO ?aR (fun _ _ h => h) (fun _ h => h.elim) (fun _ _ => trivial) ?aB ?aS ?aL ?_
        (case aO => exact H0.out)
        (case aR => exact Kd.C_below HC4.out hbd)
        (case aB => exact hbd)
        (case aS => exact hbd.size)
        (case aL => have := HL4.out; simp only [List.length_nil]; omega)
        intro v3 we2 ho hb hg hat
        replace H5 := Lib.hid (raw_kept H5.out hg (fun k hk => D05.out k hk))
        have H3 := Lib.hid ho
        have n_hb := hb
        clear hbd
        have hbd := n_hb
        clear n_hb hb ho hg
        refine hK.out _ _ ⟨(hbd.cell (p := ⟨w.heap.size, 4, none⟩) l_src).trans qd_s4, (hbd.cell (p := ⟨w.heap.size + 1, 0, none⟩) l_more).trans qd_m0, (hbd.cell (p := ⟨w.heap.size + 1, 1, none⟩) l_more).trans qd_m1, (hbd.cell (p := ⟨w.heap.size + 1, 2, none⟩) l_more).trans qd_m2, (hbd.cell (p := ⟨w.heap.size + 1, 3, none⟩) l_more).trans qd_m3, (hbd.cell (p := ⟨w.heap.size + 1, 4, none⟩) l_more).trans qd_m4⟩ (fun hHeld => ?_)
        clear hK K
        refine norm_ (a' := ?_) ?_ ?_
        rotate_left
        ·show Act.put _ (some 59) _ = _
         simp only [Act.put, List.setIfInBounds_toArray, List.set_cons_zero, List.set_cons_succ, i64_w, i32_w]
         rfl
        exact norm_ (by simp only [putAll, Act.put, List.setIfInBounds_toArray, List.set_cons_zero, List.set_cons_succ]) (hCont (v0, v3, v5) _ ⟨⟨(hbd.cell (p := ⟨w.heap.size, 4, none⟩) l_src).trans qd_s4, (hbd.cell (p := ⟨w.heap.size + 1, 0, none⟩) l_more).trans qd_m0, (hbd.cell (p := ⟨w.heap.size + 1, 1, none⟩) l_more).trans qd_m1, (hbd.cell (p := ⟨w.heap.size + 1, 2, none⟩) l_more).trans qd_m2, (hbd.cell (p := ⟨w.heap.size + 1, 3, none⟩) l_more).trans qd_m3, (hbd.cell (p := ⟨w.heap.size + 1, 4, none⟩) l_more).trans qd_m4⟩, hbd, H3, H5⟩)
      rintro ⟨v0, v3, v5⟩ wj ⟨hS_, hbj, H3, H5⟩
      have hHeld : wj.cell? ⟨w.heap.size, 4, none⟩ = some (.slice A4 l4.length c4) ∧ wj.cell? ⟨w.heap.size + 1, 0, none⟩ = some (.int .i64 y0) ∧ wj.cell? ⟨w.heap.size + 1, 1, none⟩ = some (.int .i64 y1) ∧ wj.cell? ⟨w.heap.size + 1, 2, none⟩ = some (.int .i64 y2) ∧ wj.cell? ⟨w.heap.size + 1, 3, none⟩ = some (.slice F3 m3.length f3) ∧ wj.cell? ⟨w.heap.size + 1, 4, none⟩ = some (.slice F4 m4.length f4) := hS_
      clear hS_
      obtain ⟨A5, c5, rfl, _, hC5⟩ := Kd.R_reads H5.out
      have HC5 := Lib.hid hC5
      clear hC5 H5
      refine norm_ (a' := ?_) ?_ ?_
      rotate_left
      ·simp only [putAll, Act.put, List.setIfInBounds_toArray, List.set_cons_zero, List.set_cons_succ]
       rfl
      refine one_ (i := 6) (N := some 62) #[true, true, true, true, true, true, true, false, false] rfl rfl (by kernel_rfl) (by decide) (fun K hK => ?_)
      refine Kd.R_append_rows_step (Kd.raw 5) (Rr := Kd.K (Kd.raw 5) wj) (w0 := wd) wd.heap.size (by rfl) (.tmp 59) (.tmp 61) 23 25 (.agg #[(.int .i64 0), (.int .i64 0), (.int .i64 0), (.slice none 0 0), (.slice none 0 0)]) 72 rfl Tryd.underlying23 info25 rfl (by decide) (by omega) v3 ([] ++ rowsN) [[.int .i64 y0, .int .i64 y1, .int .i64 y2, .slice F3 m3.length f3, .slice F4 m4.length f4]] _ _ _ (fun _ => True) (fun _ => False) rfl rfl ?aO ?aR (fun _ _ h => h) (fun _ h => h.elim) (fun _ _ => trivial) ?aB ?aS ?aL ?_
      (case aO => exact H3.out)
      (case aR => exact HC5.out)
      (case aB => exact hbj)
      (case aS => exact hbj.size)
      (case aL => have := HL4.out; simp only [List.nil_append, List.length_singleton]; omega)
      intro v6 wk ho hb hg hat
      have H6 := Lib.hid ho
      have hbk := hb
      clear ho hb hg hat H3 HC5
      refine hK.out _ _ ⟨(hbk.cell (p := ⟨w.heap.size, 4, none⟩) l_src).trans qd_s4, (hbk.cell (p := ⟨w.heap.size + 1, 0, none⟩) l_more).trans qd_m0, (hbk.cell (p := ⟨w.heap.size + 1, 1, none⟩) l_more).trans qd_m1, (hbk.cell (p := ⟨w.heap.size + 1, 2, none⟩) l_more).trans qd_m2, (hbk.cell (p := ⟨w.heap.size + 1, 3, none⟩) l_more).trans qd_m3, (hbk.cell (p := ⟨w.heap.size + 1, 4, none⟩) l_more).trans qd_m4⟩ (fun hHeld => ?_)
      clear hK K
      refine norm_ (a' := ?_) ?_ ?_
      rotate_left
      ·show Act.put _ (some 62) _ = _
       simp only [Act.put, List.setIfInBounds_toArray, List.set_cons_zero, List.set_cons_succ, i64_w, i32_w]
       rfl
      refine pure_ (i := 7) (N := some 63) (v := ?_) (a' := ?_) #[true, true, true, true, true, true, true, true, false] rfl rfl (by kernel_rfl) (fun _ _ _ h => h) (Or.inl ⟨by rfl, ?_⟩) ?_ ?_
      rotate_left
      ·intro w'
       go_simp
       with_reducible rfl
      rotate_left
      ·simp only [Act.put, List.setIfInBounds_toArray, List.set_cons_zero, List.set_cons_succ, i64_w, i32_w]
       rfl
      refine last_ (i := 8) (N := none) #[true, true, true, true, true, true, true, true, true] rfl rfl (by kernel_rfl) (by decide) (fun K hK => ?_)
      have BT6 := blk_below BT_.out hbk
      have lt6 := blk_lt BT6
      have qt6 : wk.cell? ⟨w10.heap.size, 4, none⟩ = some (.slice A4 l4.length c4) := (blk_cell BT6 4).trans rfl
      have ft6 := blk_frozen BT6 4
      clear BT6
      obtain ⟨A6, c6, rfl, hl6, hC6⟩ := Kd.R_reads H6.out
      clear hC6
      refine skip_ (w1 := ?_) (by rfl) rfl ?_ ?_
      rotate_left
      ·go_simp
       rfl
      refine hK.out _ _ ?_
      clear hK K
      refine done_ (by kernel_rfl) ?_
      obtain ⟨Y4, hL⟩ : ∃ L, l4 ++ [⟨y0, y1, y2, m3, m4⟩] = L := ⟨_, rfl⟩
      have hLL : l4.length + 1 = Y4.length := by rw [← hL]; simp
      rw [hLL]
      obtain ⟨wf, hwf⟩ : ∃ W, W = wk.setCell ⟨w10.heap.size, 4, none⟩ (.slice A6 Y4.length c6) := ⟨_, rfl⟩
      rw [← hwf]
      have hb8f : Below w10.heap.size w10 wf := by rw [hwf]; exact (hb8d.trans (hbk.mono hb8d.size)).setCell (p := ⟨w10.heap.size, 4, none⟩) (Nat.le_refl _) _
      have hBX : wf.heap[w10.heap.size]? = some (.cells #[.int .i64 x0, .int .i64 x1, .int .i64 x2, .slice A3 l3.length c3, .slice A6 Y4.length c6] 25 (0, 0)) := by rw [hwf]; exact blk_put (blk_below BT_.out hbk) 4 _ rfl
      have hR6 := raw_far (u := .slice A6 Y4.length c6) H6.out (p := ⟨w10.heap.size, 4, none⟩) (Nat.lt_of_lt_of_le (blk_lt BT_.out) (Nat.le_refl _))
      rw [← hwf] at hR6
      have hC6 := (Kd.R_reads' hR6).2.2
      have hrk := ((RowsK.nil k25 w10).append HRK.out).append (RowsK.one (k25_mk w10 ⟨y0, y1, y2, m3, m4⟩ hd3 HQ3.out hd4 HQ4.out))
      rw [List.nil_append, hL] at hrk
      have hCx := C_of_rows hC6 (hrk.below hb8f)
      rw [show List.length (([] : List (List Value)) ++ rowsN ++ [([.int .i64 y0, .int .i64 y1, .int .i64 y2, .slice F3 m3.length f3, .slice F4 m4.length f4] : List Value)]) = Y4.length by rw [← hLL]; simp [hrl]] at hCx
      have hcL : Y4.length ≤ c6 := by have := hl6; rw [← hLL]; simpa [hrl] using this
      have HLd := Lib.hid hL
      have HX4 := Lib.hid hCx
      clear hCx hC6 hrk hR6 hwf H6 BT_ HRK HC4 hHeld qt6 ft6 lt6 qd_s4 qd_m0 qd_m1 qd_m2 qd_m3 qd_m4 l_src l_more hl6 hL
      replace HT := Lib.hid (HT.out.below hb8f)
      replace HR3 := Lib.hid (Kd.C_below HR3.out hb8f)
      replace HR4 := Lib.hid (Kd.C_below HR4.out hb8f)
      replace HQ3 := Lib.hid (Kd.C_below HQ3.out hb8f)
      replace HQ4 := Lib.hid (Kd.C_below HQ4.out hb8f)
      replace HS3 := Lib.hid (Kd.C_below HS3.out hb8f)
      replace HS4 := Lib.hid (Kd.C_below HS4.out hb8f)
      replace HB := Lib.hid (below_step HB.out hb8f)
      replace BN := Lib.hid (blk_below BN.out hb8f)
      replace BM := Lib.hid (blk_below BM.out hb8f)
      replace BK := Lib.hid (blk_below BK.out hb8f)
      have BX := Lib.hid hBX
      clear hBX hb8f hbk hbj hb8d hb1d hb81
      have t1 := HE1.out; have t2 := HE2.out
      rw [HLd.out] at t1 t2
      replace HE1 := Lib.hid t1; replace HE2 := Lib.hid t2
      clear t1 t2
      have l_BN : w.heap.size < wf.heap.size := blk_lt BN.out
      have q_BN_0 : wf.cell? ⟨w.heap.size, 0, none⟩ = some (.int .i64 x0) := (blk_cell BN.out 0).trans rfl
      have q_BN_1 : wf.cell? ⟨w.heap.size, 1, none⟩ = some (.int .i64 x1) := (blk_cell BN.out 1).trans rfl
      have q_BN_2 : wf.cell? ⟨w.heap.size, 2, none⟩ = some (.int .i64 x2) := (blk_cell BN.out 2).trans rfl
      have q_BN_3 : wf.cell? ⟨w.heap.size, 3, none⟩ = some (.slice A3 l3.length c3) := (blk_cell BN.out 3).trans rfl
      have q_BN_4 : wf.cell? ⟨w.heap.size, 4, none⟩ = some (.slice A4 l4.length c4) := (blk_cell BN.out 4).trans rfl
      have l_BX : w10.heap.size < wf.heap.size := blk_lt BX.out
      have q_BX_0 : wf.cell? ⟨w10.heap.size, 0, none⟩ = some (.int .i64 x0) := (blk_cell BX.out 0).trans rfl
      have q_BX_1 : wf.cell? ⟨w10.heap.size, 1, none⟩ = some (.int .i64 x1) := (blk_cell BX.out 1).trans rfl
      have q_BX_2 : wf.cell? ⟨w10.heap.size, 2, none⟩ = some (.int .i64 x2) := (blk_cell BX.out 2).trans rfl
      have q_BX_3 : wf.cell? ⟨w10.heap.size, 3, none⟩ = some (.slice A3 l3.length c3) := (blk_cell BX.out 3).trans rfl
      have q_BX_4 : wf.cell? ⟨w10.heap.size, 4, none⟩ = some (.slice A6 Y4.length c6) := (blk_cell BX.out 4).trans rfl
      go_wp2_with fail
      clear l_BN q_BN_0 q_BN_1 q_BN_2 q_BN_3 q_BN_4 l_BX q_BX_0 q_BX_1 q_BX_2 q_BX_3 q_BX_4
      refine (node_Equal.calls 0 x0 x1 x2 A3 c3 l3 A4 c4 l4 x0 x1 x2 A3 c3 l3 A6 c6 Y4 false _ HR3.out hc3 HR4.out hc4 HR3.out hc3 HX4.out hcL HE1.out).mono ?_
      rintro e w11 ⟨rfl, hb⟩
      replace HT := Lib.hid (HT.out.below hb)
      replace HR3 := Lib.hid (Kd.C_below HR3.out hb)
      replace HR4 := Lib.hid (Kd.C_below HR4.out hb)
      replace HQ3 := Lib.hid (Kd.C_below HQ3.out hb)
      replace HQ4 := Lib.hid (Kd.C_below HQ4.out hb)
      replace HS3 := Lib.hid (Kd.C_below HS3.out hb)
      replace HS4 := Lib.hid (Kd.C_below HS4.out hb)
      replace HB := Lib.hid (below_step HB.out hb)
      replace HX4 := Lib.hid (Kd.C_below HX4.out hb)
      replace BN := Lib.hid (blk_below BN.out hb)
      replace BM := Lib.hid (blk_below BM.out hb)
      replace BK := Lib.hid (blk_below BK.out hb)
      replace BX := Lib.hid (blk_below BX.out hb)
      clear hb
      have l_BN : w.heap.size < w11.heap.size := blk_lt BN.out
      have q_BN_0 : w11.cell? ⟨w.heap.size, 0, none⟩ = some (.int .i64 x0) := (blk_cell BN.out 0).trans rfl
      have q_BN_1 : w11.cell? ⟨w.heap.size, 1, none⟩ = some (.int .i64 x1) := (blk_cell BN.out 1).trans rfl
      have q_BN_2 : w11.cell? ⟨w.heap.size, 2, none⟩ = some (.int .i64 x2) := (blk_cell BN.out 2).trans rfl
      have q_BN_3 : w11.cell? ⟨w.heap.size, 3, none⟩ = some (.slice A3 l3.length c3) := (blk_cell BN.out 3).trans rfl
      have q_BN_4 : w11.cell? ⟨w.heap.size, 4, none⟩ = some (.slice A4 l4.length c4) := (blk_cell BN.out 4).trans rfl
      have l_BX : w10.heap.size < w11.heap.size := blk_lt BX.out
      have q_BX_0 : w11.cell? ⟨w10.heap.size, 0, none⟩ = some (.int .i64 x0) := (blk_cell BX.out 0).trans rfl
      have q_BX_1 : w11.cell? ⟨w10.heap.size, 1, none⟩ = some (.int .i64 x1) := (blk_cell BX.out 1).trans rfl
      have q_BX_2 : w11.cell? ⟨w10.heap.size, 2, none⟩ = some (.int .i64 x2) := (blk_cell BX.out 2).trans rfl
      have q_BX_3 : w11.cell? ⟨w10.heap.size, 3, none⟩ = some (.slice A3 l3.length c3) := (blk_cell BX.out 3).trans rfl
      have q_BX_4 : w11.cell? ⟨w10.heap.size, 4, none⟩ = some (.slice A6 Y4.length c6) := (blk_cell BX.out 4).trans rfl
      go_wp2_with fail
      clear l_BN q_BN_0 q_BN_1 q_BN_2 q_BN_3 q_BN_4 l_BX q_BX_0 q_BX_1 q_BX_2 q_BX_3 q_BX_4
      refine (node_Equal.calls 0 x0 x1 x2 A3 c3 l3 A6 c6 Y4 x0 x1 x2 A3 c3 l3 A4 c4 l4 false _ HR3.out hc3 HX4.out hcL HR3.out hc3 HR4.out hc4 HE2.out).mono ?_
      rintro e w12 ⟨rfl, hb⟩
      replace HT := Lib.hid (HT.out.below hb)
      replace HR3 := Lib.hid (Kd.C_below HR3.out hb)
      replace HR4 := Lib.hid (Kd.C_below HR4.out hb)
      replace HQ3 := Lib.hid (Kd.C_below HQ3.out hb)
      replace HQ4 := Lib.hid (Kd.C_below HQ4.out hb)
      replace HS3 := Lib.hid (Kd.C_below HS3.out hb)
      replace HS4 := Lib.hid (Kd.C_below HS4.out hb)
      replace HB := Lib.hid (below_step HB.out hb)
      replace HX4 := Lib.hid (Kd.C_below HX4.out hb)
      replace BN := Lib.hid (blk_below BN.out hb)
      replace BM := Lib.hid (blk_below BM.out hb)
      replace BK := Lib.hid (blk_below BK.out hb)
      replace BX := Lib.hid (blk_below BX.out hb)
      clear hb
      have l_BN : w.heap.size < w12.heap.size := blk_lt BN.out
      have q_BN_0 : w12.cell? ⟨w.heap.size, 0, none⟩ = some (.int .i64 x0) := (blk_cell BN.out 0).trans rfl
      have q_BN_1 : w12.cell? ⟨w.heap.size, 1, none⟩ = some (.int .i64 x1) := (blk_cell BN.out 1).trans rfl
      have q_BN_2 : w12.cell? ⟨w.heap.size, 2, none⟩ = some (.int .i64 x2) := (blk_cell BN.out 2).trans rfl
      have q_BN_3 : w12.cell? ⟨w.heap.size, 3, none⟩ = some (.slice A3 l3.length c3) := (blk_cell BN.out 3).trans rfl
      have q_BN_4 : w12.cell? ⟨w.heap.size, 4, none⟩ = some (.slice A4 l4.length c4) := (blk_cell BN.out 4).trans rfl
      have l_BM : w.heap.size + 1 < w12.heap.size := blk_lt BM.out
      have q_BM_0 : w12.cell? ⟨w.heap.size + 1, 0, none⟩ = some (.int .i64 y0) := (blk_cell BM.out 0).trans rfl
      have q_BM_1 : w12.cell? ⟨w.heap.size + 1, 1, none⟩ = some (.int .i64 y1) := (blk_cell BM.out 1).trans rfl
      have q_BM_2 : w12.cell? ⟨w.heap.size + 1, 2, none⟩ = some (.int .i64 y2) := (blk_cell BM.out 2).trans rfl
      have q_BM_3 : w12.cell? ⟨w.heap.size + 1, 3, none⟩ = some (.slice F3 m3.length f3) := (blk_cell BM.out 3).trans rfl
      have q_BM_4 : w12.cell? ⟨w.heap.size + 1, 4, none⟩ = some (.slice F4 m4.length f4) := (blk_cell BM.out 4).trans rfl
      go_wp2_with fail
      clear l_BN q_BN_0 q_BN_1 q_BN_2 q_BN_3 q_BN_4 l_BM q_BM_0 q_BM_1 q_BM_2 q_BM_3 q_BM_4
      refine (node_Equal.calls 0 x0 x1 x2 A3 c3 l3 A4 c4 l4 y0 y1 y2 F3 f3 m3 F4 f4 m4 true _ HR3.out hc3 HR4.out hc4 HQ3.out hd3 HQ4.out hd4 HAB.out).mono ?_
      rintro e w13 ⟨rfl, hb⟩
      replace HT := Lib.hid (HT.out.below hb)
      replace HR3 := Lib.hid (Kd.C_below HR3.out hb)
      replace HR4 := Lib.hid (Kd.C_below HR4.out hb)
      replace HQ3 := Lib.hid (Kd.C_below HQ3.out hb)
      replace HQ4 := Lib.hid (Kd.C_below HQ4.out hb)
      replace HS3 := Lib.hid (Kd.C_below HS3.out hb)
      replace HS4 := Lib.hid (Kd.C_below HS4.out hb)
      replace HB := Lib.hid (below_step HB.out hb)
      replace HX4 := Lib.hid (Kd.C_below HX4.out hb)
      replace BN := Lib.hid (blk_below BN.out hb)
      replace BM := Lib.hid (blk_below BM.out hb)
      replace BK := Lib.hid (blk_below BK.out hb)
      replace BX := Lib.hid (blk_below BX.out hb)
      clear hb
      go_upto_region 11 with fail
      cases hv : tvalid ⟨x0, x1, x2, l3, l4⟩ with
      | false =>
       have HVA : Hid (node_Valid.f 0 x0 x1 x2 l3 l4 = some false) := Lib.hid (val_f false hok hv)
       have HVB : Hid (node_Valid.f 0 y0 y1 y2 m3 m4 = some false) := Lib.hid (val_f false hok2 (by rw [← HE.out]; exact hv))
       clear hv
       have l_BN : w.heap.size < w13.heap.size := blk_lt BN.out
       have q_BN_0 : w13.cell? ⟨w.heap.size, 0, none⟩ = some (.int .i64 x0) := (blk_cell BN.out 0).trans rfl
       have q_BN_1 : w13.cell? ⟨w.heap.size, 1, none⟩ = some (.int .i64 x1) := (blk_cell BN.out 1).trans rfl
       have q_BN_2 : w13.cell? ⟨w.heap.size, 2, none⟩ = some (.int .i64 x2) := (blk_cell BN.out 2).trans rfl
       have q_BN_3 : w13.cell? ⟨w.heap.size, 3, none⟩ = some (.slice A3 l3.length c3) := (blk_cell BN.out 3).trans rfl
       have q_BN_4 : w13.cell? ⟨w.heap.size, 4, none⟩ = some (.slice A4 l4.length c4) := (blk_cell BN.out 4).trans rfl
       have l_BM : w.heap.size + 1 < w13.heap.size := blk_lt BM.out
       have q_BM_0 : w13.cell? ⟨w.heap.size + 1, 0, none⟩ = some (.int .i64 y0) := (blk_cell BM.out 0).trans rfl
       have q_BM_1 : w13.cell? ⟨w.heap.size + 1, 1, none⟩ = some (.int .i64 y1) := (blk_cell BM.out 1).trans rfl
       have q_BM_2 : w13.cell? ⟨w.heap.size + 1, 2, none⟩ = some (.int .i64 y2) := (blk_cell BM.out 2).trans rfl
       have q_BM_3 : w13.cell? ⟨w.heap.size + 1, 3, none⟩ = some (.slice F3 m3.length f3) := (blk_cell BM.out 3).trans rfl
       have q_BM_4 : w13.cell? ⟨w.heap.size + 1, 4, none⟩ = some (.slice F4 m4.length f4) := (blk_cell BM.out 4).trans rfl
       have fx : ∀ W' : World, Below w13.heap.size w13 W' → (W'.cell? ⟨w.heap.size, 0, none⟩ = some (.int .i64 x0) ∧ W'.cell? ⟨w.heap.size, 1, none⟩ = some (.int .i64 x1) ∧ W'.cell? ⟨w.heap.size, 2, none⟩ = some (.int .i64 x2) ∧ W'.cell? ⟨w.heap.size, 3, none⟩ = some (.slice A3 l3.length c3) ∧ W'.cell? ⟨w.heap.size, 4, none⟩ = some (.slice A4 l4.length c4) ∧ W'.cell? ⟨w.heap.size + 1, 0, none⟩ = some (.int .i64 y0) ∧ W'.cell? ⟨w.heap.size + 1, 1, none⟩ = some (.int .i64 y1) ∧ W'.cell? ⟨w.heap.size + 1, 2, none⟩ = some (.int .i64 y2) ∧ W'.cell? ⟨w.heap.size + 1, 3, none⟩ = some (.slice F3 m3.length f3) ∧ W'.cell? ⟨w.heap.size + 1, 4, none⟩ = some (.slice F4 m4.length f4)) := fun W' hbR => ⟨(hbR.cell (p := ⟨w.heap.size, 0, none⟩) l_BN).trans q_BN_0, (hbR.cell (p := ⟨w.heap.size, 1, none⟩) l_BN).trans q_BN_1, (hbR.cell (p := ⟨w.heap.size, 2, none⟩) l_BN).trans q_BN_2, (hbR.cell (p := ⟨w.heap.size, 3, none⟩) l_BN).trans q_BN_3, (hbR.cell (p := ⟨w.heap.size, 4, none⟩) l_BN).trans q_BN_4, (hbR.cell (p := ⟨w.heap.size + 1, 0, none⟩) l_BM).trans q_BM_0, (hbR.cell (p := ⟨w.heap.size + 1, 1, none⟩) l_BM).trans q_BM_1, (hbR.cell (p := ⟨w.heap.size + 1, 2, none⟩) l_BM).trans q_BM_2, (hbR.cell (p := ⟨w.heap.size + 1, 3, none⟩) l_BM).trans q_BM_3, (hbR.cell (p := ⟨w.heap.size + 1, 4, none⟩) l_BM).trans q_BM_4⟩
       refine start_ (n := 25) (S := fun w' => w'.cell? ⟨w.heap.size, 0, none⟩ = some (.int .i64 x0) ∧ w'.cell? ⟨w.heap.size, 1, none⟩ = some (.int .i64 x1) ∧ w'.cell? ⟨w.heap.size, 2, none⟩ = some (.int .i64 x2) ∧ w'.cell? ⟨w.heap.size, 3, none⟩ = some (.slice A3 l3.length c3) ∧ w'.cell? ⟨w.heap.size, 4, none⟩ = some (.slice A4 l4.length c4) ∧ w'.cell? ⟨w.heap.size + 1, 0, none⟩ = some (.int .i64 y0) ∧ w'.cell? ⟨w.heap.size + 1, 1, none⟩ = some (.int .i64 y1) ∧ w'.cell? ⟨w.heap.size + 1, 2, none⟩ = some (.int .i64 y2) ∧ w'.cell? ⟨w.heap.size + 1, 3, none⟩ = some (.slice F3 m3.length f3) ∧ w'.cell? ⟨w.heap.size + 1, 4, none⟩ = some (.slice F4 m4.length f4)) (ds := []) #[false, false, false, false, false, false, false, false, false, false, false, false, false, false, false, false, false, false, false, false, false, false, false, false, false] (by kernel_rfl) rfl rfl ⟨q_BN_0, q_BN_1, q_BN_2, q_BN_3, q_BN_4, q_BM_0, q_BM_1, q_BM_2, q_BM_3, q_BM_4⟩ (fun hHeld => ?_)
       obtain ⟨wd, hwd⟩ : ∃ W, W = w13.drew := ⟨_, rfl⟩
       rw [← hwd] at hHeld ⊢
       have hbR : Below w13.heap.size w13 wd := by rw [hwd]; exact (Below.refl _ _).drew
       clear hwd
       refine take_ (i := 0) (N := some 76) (v := ?_) (a' := ?_) #[true, false, false, false, false, false, false, false, false, false, false, false, false, false, false, false, false, false, false, false, false, false, false, false, false] rfl rfl (by kernel_rfl) (fun _ _ _ h => h) (Or.inl ⟨by rfl, ?_⟩) hHeld ?_ ?_
       rotate_left
       ·rintro w' ⟨s0, s1, s2, s3, s4, s5, s6, s7, s8, s9⟩
        go_simp
        with_reducible rfl
       rotate_left
       ·simp only [Act.put, List.setIfInBounds_toArray, List.set_cons_zero, List.set_cons_succ, i64_w, i32_w]
        rfl
       refine take_ (i := 2) (N := some 78) (v := ?_) (a' := ?_) #[true, false, true, false, false, false, false, false, false, false, false, false, false, false, false, false, false, false, false, false, false, false, false, false, false] rfl rfl (by kernel_rfl) (fun _ _ _ h => h) (Or.inl ⟨by rfl, ?_⟩) hHeld ?_ ?_
       rotate_left
       ·rintro w' ⟨s0, s1, s2, s3, s4, s5, s6, s7, s8, s9⟩
        go_simp
        with_reducible rfl
       rotate_left
       ·simp only [Act.put, List.setIfInBounds_toArray, List.set_cons_zero, List.set_cons_succ, i64_w, i32_w]
        rfl
       refine one_ (i := 1) (N := some 77) #[true, true, true, false, false, false, false, false, false, false, false, false, false, false, false, false, false, false, false, false, false, false, false, false, false] rfl rfl (by kernel_rfl) (by decide) (fun K hK => ?_)
       refine goes_ Tryd.func10 (by kernel_rfl) rfl #[.agg #[.int .i64 x0, .int .i64 x1, .int .i64 x2, .slice A3 l3.length c3, .slice A4 l4.length c4]] (by rfl) rfl rfl (by simp only [List.map_toArray, List.map_cons, List.map_nil]; rfl) ?_
       with_reducible refine (node_Valid.calls 0 x0 x1 x2 A3 c3 l3 A4 c4 l4 false _ (Kd.C_below HR3.out hbR) hc3 (Kd.C_below HR4.out hbR) hc4 HVA.out (HT.out.below hbR)).mono ?_
       rintro e w14 ⟨rfl, hb⟩
       refine ⟨_, rfl, ?_⟩
       replace hbR := hbR.trans (hb.mono hbR.size)
       clear hb
       refine hK.out _ _ (fx _ hbR) (fun hHeld => ?_)
       clear hK K
       refine norm_ (a' := ?_) ?_ ?_
       rotate_left
       ·show Act.put _ (some 77) _ = _
        simp only [Act.put, List.setIfInBounds_toArray, List.set_cons_zero, List.set_cons_succ, i64_w, i32_w]
        rfl
       refine one_ (i := 3) (N := some 79) #[true, true, true, true, false, false, false, false, false, false, false, false, false, false, false, false, false, false, false, false, false, false, false, false, false] rfl rfl (by kernel_rfl) (by decide) (fun K hK => ?_)
       refine goes_ Tryd.func10 (by kernel_rfl) rfl #[.agg #[.int .i64 y0, .int .i64 y1, .int .i64 y2, .slice F3 m3.length f3, .slice F4 m4.length f4]] (by rfl) rfl rfl (by simp only [List.map_toArray, List.map_cons, List.map_nil]; rfl) ?_
       with_reducible refine (node_Valid.calls 0 y0 y1 y2 F3 f3 m3 F4 f4 m4 false _ (Kd.C_below HQ3.out hbR) hd3 (Kd.C_below HQ4.out hbR) hd4 HVB.out (HT.out.below hbR)).mono ?_
       rintro e w15 ⟨rfl, hb⟩
       refine ⟨_, rfl, ?_⟩
       replace hbR := hbR.trans (hb.mono hbR.size)
       clear hb
       refine hK.out _ _ (fx _ hbR) (fun hHeld => ?_)
       clear hK K
       refine norm_ (a' := ?_) ?_ ?_
       rotate_left
       ·show Act.put _ (some 79) _ = _
        simp only [Act.put, List.setIfInBounds_toArray, List.set_cons_zero, List.set_cons_succ, i64_w, i32_w]
        rfl
       refine pure_ (i := 4) (N := some 80) (v := ?_) (a' := ?_) #[true, true, true, true, true, false, false, false, false, false, false, false, false, false, false, false, false, false, false, false, false, false, false, false, false] rfl rfl (by kernel_rfl) (fun _ _ _ h => h) (Or.inl ⟨by rfl, ?_⟩) ?_ ?_
       rotate_left
       ·intro w'
        go_simp
        with_reducible rfl
       rotate_left
       ·simp only [Act.put, List.setIfInBounds_toArray, List.set_cons_zero, List.set_cons_succ, i64_w, i32_w]
        rfl
       refine pure_ (i := 5) (N := some 81) (v := ?_) (a' := ?_) #[true, true, true, true, true, true, false, false, false, false, false, false, false, false, false, false, false, false, false, false, false, false, false, false, false] rfl rfl (by kernel_rfl) (fun _ _ _ h => h) (Or.inl ⟨by rfl, ?_⟩) ?_ ?_
       rotate_left
       ·intro w'
        go_simp
        with_reducible rfl
       rotate_left
       ·simp only [Act.put, List.setIfInBounds_toArray, List.set_cons_zero, List.set_cons_succ, i64_w, i32_w]
        rfl
       refine take_ (i := 6) (N := some 82) (v := ?_) (a' := ?_) #[true, true, true, true, true, true, true, false, false, false, false, false, false, false, false, false, false, false, false, false, false, false, false, false, false] rfl rfl (by kernel_rfl) (fun _ _ _ h => h) (Or.inl ⟨by rfl, ?_⟩) hHeld ?_ ?_
       rotate_left
       ·rintro w' ⟨s0, s1, s2, s3, s4, s5, s6, s7, s8, s9⟩
        go_simp
        with_reducible rfl
       rotate_left
       ·simp only [Act.put, List.setIfInBounds_toArray, List.set_cons_zero, List.set_cons_succ, i64_w, i32_w]
        rfl
       refine one_ (i := 7) (N := some 83) #[true, true, true, true, true, true, true, true, false, false, false, false, false, false, false, false, false, false, false, false, false, false, false, false, false] rfl rfl (by kernel_rfl) (by decide) (fun K hK => ?_)
       refine goes_ Tryd.func10 (by kernel_rfl) rfl #[.agg #[.int .i64 x0, .int .i64 x1, .int .i64 x2, .slice A3 l3.length c3, .slice A4 l4.length c4]] (by rfl) rfl rfl (by simp only [List.map_toArray, List.map_cons, List.map_nil]; rfl) ?_
       with_reducible refine (node_Valid.calls 0 x0 x1 x2 A3 c3 l3 A4 c4 l4 false _ (Kd.C_below HR3.out hbR) hc3 (Kd.C_below HR4.out hbR) hc4 HVA.out (HT.out.below hbR)).mono ?_
       rintro e w16 ⟨rfl, hb⟩
       refine ⟨_, rfl, ?_⟩
       replace hbR := hbR.trans (hb.mono hbR.size)
       clear hb
       refine hK.out _ _ (fx _ hbR) (fun hHeld => ?_)
       clear hK K
       refine norm_ (a' := ?_) ?_ ?_
       rotate_left
       ·show Act.put _ (some 83) _ = _
        simp only [Act.put, List.setIfInBounds_toArray, List.set_cons_zero, List.set_cons_succ, i64_w, i32_w]
        rfl
       refine pure_ (i := 8) (N := some 84) (v := ?_) (a' := ?_) #[true, true, true, true, true, true, true, true, true, false, false, false, false, false, false, false, false, false, false, false, false, false, false, false, false] rfl rfl (by kernel_rfl) (fun _ _ _ h => h) (Or.inl ⟨by rfl, ?_⟩) ?_ ?_
       rotate_left
       ·intro w'
        go_simp
        with_reducible rfl
       rotate_left
       ·simp only [Act.put, List.setIfInBounds_toArray, List.set_cons_zero, List.set_cons_succ, i64_w, i32_w]
        rfl
       refine pure_ (i := 9) (N := some 85) (v := ?_) (a' := ?_) #[true, true, true, true, true, true, true, true, true, true, false, false, false, false, false, false, false, false, false, false, false, false, false, false, false] rfl rfl (by kernel_rfl) (fun _ _ _ h => h) (Or.inl ⟨by rfl, ?_⟩) ?_ ?_
       rotate_left
       ·intro w'
        go_simp
        with_reducible rfl
       rotate_left
       ·simp only [Act.put, List.setIfInBounds_toArray, List.set_cons_zero, List.set_cons_succ, i64_w, i32_w]
        rfl
       refine pure_ (i := 10) (N := some 86) (v := undef) (a' := ?_) #[true, true, true, true, true, true, true, true, true, true, true, false, false, false, false, false, false, false, false, false, false, false, false, false, false] rfl rfl (by kernel_rfl) (fun _ _ _ h => h) (Or.inr ⟨by rfl, rfl⟩) ?_ ?_
       rotate_left
       ·simp only [Act.put, List.setIfInBounds_toArray, List.set_cons_zero, List.set_cons_succ, i64_w, i32_w]
        rfl
       refine pure_ (i := 11) (N := some 87) (v := undef) (a' := ?_) #[true, true, true, true, true, true, true, true, true, true, true, true, false, false, false, false, false, false, false, false, false, false, false, false, false] rfl rfl (by kernel_rfl) (fun _ _ _ h => h) (Or.inr ⟨by rfl, rfl⟩) ?_ ?_
       rotate_left
       ·simp only [Act.put, List.setIfInBounds_toArray, List.set_cons_zero, List.set_cons_succ, i64_w, i32_w]
        rfl
       refine pure_ (i := 12) (N := some 88) (v := undef) (a' := ?_) #[true, true, true, true, true, true, true, true, true, true, true, true, true, false, false, false, false, false, false, false, false, false, false, false, false] rfl rfl (by kernel_rfl) (fun _ _ _ h => h) (Or.inr ⟨by rfl, rfl⟩) ?_ ?_
       rotate_left
       ·simp only [Act.put, List.setIfInBounds_toArray, List.set_cons_zero, List.set_cons_succ, i64_w, i32_w]
        rfl
       refine pure_ (i := 13) (N := some 89) (v := undef) (a' := ?_) #[true, true, true, true, true, true, true, true, true, true, true, true, true, true, false, false, false, false, false, false, false, false, false, false, false] rfl rfl (by kernel_rfl) (fun _ _ _ h => h) (Or.inr ⟨by rfl, rfl⟩) ?_ ?_
       rotate_left
       ·simp only [Act.put, List.setIfInBounds_toArray, List.set_cons_zero, List.set_cons_succ, i64_w, i32_w]
        rfl
       refine pure_ (i := 14) (N := some 90) (v := undef) (a' := ?_) #[true, true, true, true, true, true, true, true, true, true, true, true, true, true, true, false, false, false, false, false, false, false, false, false, false] rfl rfl (by kernel_rfl) (fun _ _ _ h => h) (Or.inr ⟨by rfl, rfl⟩) ?_ ?_
       rotate_left
       ·simp only [Act.put, List.setIfInBounds_toArray, List.set_cons_zero, List.set_cons_succ, i64_w, i32_w]
        rfl
       refine pure_ (i := 15) (N := some 91) (v := undef) (a' := ?_) #[true, true, true, true, true, true, true, true, true, true, true, true, true, true, true, true, false, false, false, false, false, false, false, false, false] rfl rfl (by kernel_rfl) (fun _ _ _ h => h) (Or.inr ⟨by rfl, rfl⟩) ?_ ?_
       rotate_left
       ·simp only [Act.put, List.setIfInBounds_toArray, List.set_cons_zero, List.set_cons_succ, i64_w, i32_w]
        rfl
       refine pure_ (i := 16) (N := some 92) (v := undef) (a' := ?_) #[true, true, true, true, true, true, true, true, true, true, true, true, true, true, true, true, true, false, false, false, false, false, false, false, false] rfl rfl (by kernel_rfl) (fun _ _ _ h => h) (Or.inr ⟨by rfl, rfl⟩) ?_ ?_
       rotate_left
       ·simp only [Act.put, List.setIfInBounds_toArray, List.set_cons_zero, List.set_cons_succ, i64_w, i32_w]
        rfl
       refine pure_ (i := 17) (N := some 93) (v := undef) (a' := ?_) #[true, true, true, true, true, true, true, true, true, true, true, true, true, true, true, true, true, true, false, false, false, false, false, false, false] rfl rfl (by kernel_rfl) (fun _ _ _ h => h) (Or.inr ⟨by rfl, rfl⟩) ?_ ?_
       rotate_left
       ·simp only [Act.put, List.setIfInBounds_toArray, List.set_cons_zero, List.set_cons_succ, i64_w, i32_w]
        rfl
       refine pure_ (i := 18) (N := some 94) (v := undef) (a' := ?_) #[true, true, true, true, true, true, true, true, true, true, true, true, true, true, true, true, true, true, true, false, false, false, false, false, false] rfl rfl (by kernel_rfl) (fun _ _ _ h => h) (Or.inr ⟨by rfl, rfl⟩) ?_ ?_
       rotate_left
       ·simp only [Act.put, List.setIfInBounds_toArray, List.set_cons_zero, List.set_cons_succ, i64_w, i32_w]
        rfl
       refine pure_ (i := 19) (N := some 95) (v := undef) (a' := ?_) #[true, true, true, true, true, true, true, true, true, true, true, true, true, true, true, true, true, true, true, true, false, false, false, false, false] rfl rfl (by kernel_rfl) (fun _ _ _ h => h) (Or.inr ⟨by rfl, rfl⟩) ?_ ?_
       rotate_left
       ·simp only [Act.put, List.setIfInBounds_toArray, List.set_cons_zero, List.set_cons_succ, i64_w, i32_w]
        rfl
       refine pure_ (i := 20) (N := some 96) (v := undef) (a' := ?_) #[true, true, true, true, true, true, true, true, true, true, true, true, true, true, true, true, true, true, true, true, true, false, false, false, false] rfl rfl (by kernel_rfl) (fun _ _ _ h => h) (Or.inr ⟨by rfl, rfl⟩) ?_ ?_
       rotate_left
       ·simp only [Act.put, List.setIfInBounds_toArray, List.set_cons_zero, List.set_cons_succ, i64_w, i32_w]
        rfl
       refine pure_ (i := 21) (N := some 97) (v := undef) (a' := ?_) #[true, true, true, true, true, true, true, true, true, true, true, true, true, true, true, true, true, true, true, true, true, true, false, false, false] rfl rfl (by kernel_rfl) (fun _ _ _ h => h) (Or.inr ⟨by rfl, rfl⟩) ?_ ?_
       rotate_left
       ·simp only [Act.put, List.setIfInBounds_toArray, List.set_cons_zero, List.set_cons_succ, i64_w, i32_w]
        rfl
       refine pure_ (i := 22) (N := some 98) (v := ?_) (a' := ?_) #[true, true, true, true, true, true, true, true, true, true, true, true, true, true, true, true, true, true, true, true, true, true, true, false, false] rfl rfl (by kernel_rfl) (fun _ _ _ h => h) (Or.inl ⟨by rfl, ?_⟩) ?_ ?_
       rotate_left
       ·intro w'
        go_simp
        with_reducible rfl
       rotate_left
       ·simp only [Act.put, List.setIfInBounds_toArray, List.set_cons_zero, List.set_cons_succ, i64_w, i32_w]
        rfl
       refine pure_ (i := 23) (N := some 99) (v := ?_) (a' := ?_) #[true, true, true, true, true, true, true, true, true, true, true, true, true, true, true, true, true, true, true, true, true, true, true, true, false] rfl rfl (by kernel_rfl) (fun _ _ _ h => h) (Or.inl ⟨by rfl, ?_⟩) ?_ ?_
       rotate_left
       ·intro w'
        go_simp
        with_reducible rfl
       rotate_left
       ·simp only [Act.put, List.setIfInBounds_toArray, List.set_cons_zero, List.set_cons_succ, i64_w, i32_w]
        rfl
       refine pure_ (i := 24) (N := some 6) (v := ?_) (a' := ?_) #[true, true, true, true, true, true, true, true, true, true, true, true, true, true, true, true, true, true, true, true, true, true, true, true, true] rfl rfl (by kernel_rfl) (fun _ _ _ h => h) (Or.inl ⟨by rfl, ?_⟩) ?_ ?_
       rotate_left
       ·intro w'
        go_simp
        with_reducible rfl
       rotate_left
       ·simp only [Act.put, List.setIfInBounds_toArray, List.set_cons_zero, List.set_cons_succ, i64_w, i32_w]
        rfl
       refine done_ (by kernel_rfl) ?_
       clear fx hHeld l_BN q_BN_0 q_BN_1 q_BN_2 q_BN_3 q_BN_4 l_BM q_BM_0 q_BM_1 q_BM_2 q_BM_3 q_BM_4
       replace HT := Lib.hid (HT.out.below hbR)
       replace HR3 := Lib.hid (Kd.C_below HR3.out hbR)
       replace HR4 := Lib.hid (Kd.C_below HR4.out hbR)
       replace HQ3 := Lib.hid (Kd.C_below HQ3.out hbR)
       replace HQ4 := Lib.hid (Kd.C_below HQ4.out hbR)
       replace HS3 := Lib.hid (Kd.C_below HS3.out hbR)
       replace HS4 := Lib.hid (Kd.C_below HS4.out hbR)
       replace HB := Lib.hid (below_step HB.out hbR)
       replace HX4 := Lib.hid (Kd.C_below HX4.out hbR)
       replace BN := Lib.hid (blk_below BN.out hbR)
       replace BM := Lib.hid (blk_below BM.out hbR)
       replace BK := Lib.hid (blk_below BK.out hbR)
       replace BX := Lib.hid (blk_below BX.out hbR)
       clear hbR
       go_wp2
       go_ret
       exact ⟨by simp, HB.out⟩
      | true =>
       have HVA : Hid (node_Valid.f 0 x0 x1 x2 l3 l4 = some true) := Lib.hid (val_f true hok hv)
       have HVB : Hid (node_Valid.f 0 y0 y1 y2 m3 m4 = some true) := Lib.hid (val_f true hok2 (by rw [← HE.out]; exact hv))
       obtain ⟨D, hD⟩ : ∃ D : Int, (tdepth ⟨x0, x1, x2, l3, l4⟩ : Int) = D := ⟨_, rfl⟩
       obtain ⟨O, hO⟩ : ∃ O : Int, (tobjs ⟨x0, x1, x2, l3, l4⟩ : Int) = O := ⟨_, rfl⟩
       have HDA : Hid (node_Depth.f 0 x0 x1 x2 l3 l4 = some D) := Lib.hid (dep_g D hv HS62.out hD)
       have HDB : Hid (node_Depth.f 0 y0 y1 y2 m3 m4 = some D) := Lib.hid (dep_g D (by rw [← HE.out]; exact hv) (by rw [← HE.out]; exact HS62.out) (by rw [← HE.out]; exact hD))
       have HOA : Hid (node_Objects.f 0 x0 x1 x2 l3 l4 = some O) := Lib.hid (obj_g O hv HS62.out hO)
       have HOB : Hid (node_Objects.f 0 y0 y1 y2 m3 m4 = some O) := Lib.hid (obj_g O (by rw [← HE.out]; exact hv) (by rw [← HE.out]; exact HS62.out) (by rw [← HE.out]; exact hO))
       clear hD hO
       clear hv
       have l_BN : w.heap.size < w13.heap.size := blk_lt BN.out
       have q_BN_0 : w13.cell? ⟨w.heap.size, 0, none⟩ = some (.int .i64 x0) := (blk_cell BN.out 0).trans rfl
       have q_BN_1 : w13.cell? ⟨w.heap.size, 1, none⟩ = some (.int .i64 x1) := (blk_cell BN.out 1).trans rfl
       have q_BN_2 : w13.cell? ⟨w.heap.size, 2, none⟩ = some (.int .i64 x2) := (blk_cell BN.out 2).trans rfl
       have q_BN_3 : w13.cell? ⟨w.heap.size, 3, none⟩ = some (.slice A3 l3.length c3) := (blk_cell BN.out 3).trans rfl
       have q_BN_4 : w13.cell? ⟨w.heap.size, 4, none⟩ = some (.slice A4 l4.length c4) := (blk_cell BN.out 4).trans rfl
       have l_BM : w.heap.size + 1 < w13.heap.size := blk_lt BM.out
       have q_BM_0 : w13.cell? ⟨w.heap.size + 1, 0, none⟩ = some (.int .i64 y0) := (blk_cell BM.out 0).trans rfl
       have q_BM_1 : w13.cell? ⟨w.heap.size + 1, 1, none⟩ = some (.int .i64 y1) := (blk_cell BM.out 1).trans rfl
       have q_BM_2 : w13.cell? ⟨w.heap.size + 1, 2, none⟩ = some (.int .i64 y2) := (blk_cell BM.out 2).trans rfl
       have q_BM_3 : w13.cell? ⟨w.heap.size + 1, 3, none⟩ = some (.slice F3 m3.length f3) := (blk_cell BM.out 3).trans rfl
       have q_BM_4 : w13.cell? ⟨w.heap.size + 1, 4, none⟩ = some (.slice F4 m4.length f4) := (blk_cell BM.out 4).trans rfl
       have fx : ∀ W' : World, Below w13.heap.size w13 W' → (W'.cell? ⟨w.heap.size, 0, none⟩ = some (.int .i64 x0) ∧ W'.cell? ⟨w.heap.size, 1, none⟩ = some (.int .i64 x1) ∧ W'.cell? ⟨w.heap.size, 2, none⟩ = some (.int .i64 x2) ∧ W'.cell? ⟨w.heap.size, 3, none⟩ = some (.slice A3 l3.length c3) ∧ W'.cell? ⟨w.heap.size, 4, none⟩ = some (.slice A4 l4.length c4) ∧ W'.cell? ⟨w.heap.size + 1, 0, none⟩ = some (.int .i64 y0) ∧ W'.cell? ⟨w.heap.size + 1, 1, none⟩ = some (.int .i64 y1) ∧ W'.cell? ⟨w.heap.size + 1, 2, none⟩ = some (.int .i64 y2) ∧ W'.cell? ⟨w.heap.size + 1, 3, none⟩ = some (.slice F3 m3.length f3) ∧ W'.cell? ⟨w.heap.size + 1, 4, none⟩ = some (.slice F4 m4.length f4)) := fun W' hbR => ⟨(hbR.cell (p := ⟨w.heap.size, 0, none⟩) l_BN).trans q_BN_0, (hbR.cell (p := ⟨w.heap.size, 1, none⟩) l_BN).trans q_BN_1, (hbR.cell (p := ⟨w.heap.size, 2, none⟩) l_BN).trans q_BN_2, (hbR.cell (p := ⟨w.heap.size, 3, none⟩) l_BN).trans q_BN_3, (hbR.cell (p := ⟨w.heap.size, 4, none⟩) l_BN).trans q_BN_4, (hbR.cell (p := ⟨w.heap.size + 1, 0, none⟩) l_BM).trans q_BM_0, (hbR.cell (p := ⟨w.heap.size + 1, 1, none⟩) l_BM).trans q_BM_1, (hbR.cell (p := ⟨w.heap.size + 1, 2, none⟩) l_BM).trans q_BM_2, (hbR.cell (p := ⟨w.heap.size + 1, 3, none⟩) l_BM).trans q_BM_3, (hbR.cell (p := ⟨w.heap.size + 1, 4, none⟩) l_BM).trans q_BM_4⟩
       refine start_ (n := 25) (S := fun w' => w'.cell? ⟨w.heap.size, 0, none⟩ = some (.int .i64 x0) ∧ w'.cell? ⟨w.heap.size, 1, none⟩ = some (.int .i64 x1) ∧ w'.cell? ⟨w.heap.size, 2, none⟩ = some (.int .i64 x2) ∧ w'.cell? ⟨w.heap.size, 3, none⟩ = some (.slice A3 l3.length c3) ∧ w'.cell? ⟨w.heap.size, 4, none⟩ = some (.slice A4 l4.length c4) ∧ w'.cell? ⟨w.heap.size + 1, 0, none⟩ = some (.int .i64 y0) ∧ w'.cell? ⟨w.heap.size + 1, 1, none⟩ = some (.int .i64 y1) ∧ w'.cell? ⟨w.heap.size + 1, 2, none⟩ = some (.int .i64 y2) ∧ w'.cell? ⟨w.heap.size + 1, 3, none⟩ = some (.slice F3 m3.length f3) ∧ w'.cell? ⟨w.heap.size + 1, 4, none⟩ = some (.slice F4 m4.length f4)) (ds := []) #[false, false, false, false, false, false, false, false, false, false, false, false, false, false, false, false, false, false, false, false, false, false, false, false, false] (by kernel_rfl) rfl rfl ⟨q_BN_0, q_BN_1, q_BN_2, q_BN_3, q_BN_4, q_BM_0, q_BM_1, q_BM_2, q_BM_3, q_BM_4⟩ (fun hHeld => ?_)
       obtain ⟨wd, hwd⟩ : ∃ W, W = w13.drew := ⟨_, rfl⟩
       rw [← hwd] at hHeld ⊢
       have hbR : Below w13.heap.size w13 wd := by rw [hwd]; exact (Below.refl _ _).drew
       clear hwd
       refine take_ (i := 0) (N := some 76) (v := ?_) (a' := ?_) #[true, false, false, false, false, false, false, false, false, false, false, false, false, false, false, false, false, false, false, false, false, false, false, false, false] rfl rfl (by kernel_rfl) (fun _ _ _ h => h) (Or.inl ⟨by rfl, ?_⟩) hHeld ?_ ?_
       rotate_left
       ·rintro w' ⟨s0, s1, s2, s3, s4, s5, s6, s7, s8, s9⟩
        go_simp
        with_reducible rfl
       rotate_left
       ·simp only [Act.put, List.setIfInBounds_toArray, List.set_cons_zero, List.set_cons_succ, i64_w, i32_w]
        rfl
       refine take_ (i := 2) (N := some 78) (v := ?_) (a' := ?_) #[true, false, true, false, false, false, false, false, false, false, false, false, false, false, false, false, false, false, false, false, false, false, false, false, false] rfl rfl (by kernel_rfl) (fun _ _ _ h => h) (Or.inl ⟨by rfl, ?_⟩) hHeld ?_ ?_
       rotate_left
       ·rintro w' ⟨s0, s1, s2, s3, s4, s5, s6, s7, s8, s9⟩
        go_simp
        with_reducible rfl
       rotate_left
       ·simp only [Act.put, List.setIfInBounds_toArray, List.set_cons_zero, List.set_cons_succ, i64_w, i32_w]
        rfl
       refine one_ (i := 1) (N := some 77) #[true, true, true, false, false, false, false, false, false, false, false, false, false, false, false, false, false, false, false, false, false, false, false, false, false] rfl rfl (by kernel_rfl) (by decide) (fun K hK => ?_)
       refine goes_ Tryd.func10 (by kernel_rfl) rfl #[.agg #[.int .i64 x0, .int .i64 x1, .int .i64 x2, .slice A3 l3.length c3, .slice A4 l4.length c4]] (by rfl) rfl rfl (by simp only [List.map_toArray, List.map_cons, List.map_nil]; rfl) ?_
       with_reducible refine (node_Valid.calls 0 x0 x1 x2 A3 c3 l3 A4 c4 l4 true _ (Kd.C_below HR3.out hbR) hc3 (Kd.C_below HR4.out hbR) hc4 HVA.out (HT.out.below hbR)).mono ?_
       rintro e w14 ⟨rfl, hb⟩
       refine ⟨_, rfl, ?_⟩
       replace hbR := hbR.trans (hb.mono hbR.size)
       clear hb
       refine hK.out _ _ (fx _ hbR) (fun hHeld => ?_)
       clear hK K
       refine norm_ (a' := ?_) ?_ ?_
       rotate_left
       ·show Act.put _ (some 77) _ = _
        simp only [Act.put, List.setIfInBounds_toArray, List.set_cons_zero, List.set_cons_succ, i64_w, i32_w]
        rfl
       refine one_ (i := 3) (N := some 79) #[true, true, true, true, false, false, false, false, false, false, false, false, false, false, false, false, false, false, false, false, false, false, false, false, false] rfl rfl (by kernel_rfl) (by decide) (fun K hK => ?_)
       refine goes_ Tryd.func10 (by kernel_rfl) rfl #[.agg #[.int .i64 y0, .int .i64 y1, .int .i64 y2, .slice F3 m3.length f3, .slice F4 m4.length f4]] (by rfl) rfl rfl (by simp only [List.map_toArray, List.map_cons, List.map_nil]; rfl) ?_
       with_reducible refine (node_Valid.calls 0 y0 y1 y2 F3 f3 m3 F4 f4 m4 true _ (Kd.C_below HQ3.out hbR) hd3 (Kd.C_below HQ4.out hbR) hd4 HVB.out (HT.out.below hbR)).mono ?_
       rintro e w15 ⟨rfl, hb⟩
       refine ⟨_, rfl, ?_⟩
       replace hbR := hbR.trans (hb.mono hbR.size)
       clear hb
       refine hK.out _ _ (fx _ hbR) (fun hHeld => ?_)
       clear hK K
       refine norm_ (a' := ?_) ?_ ?_
       rotate_left
       ·show Act.put _ (some 79) _ = _
        simp only [Act.put, List.setIfInBounds_toArray, List.set_cons_zero, List.set_cons_succ, i64_w, i32_w]
        rfl
       refine pure_ (i := 4) (N := some 80) (v := ?_) (a' := ?_) #[true, true, true, true, true, false, false, false, false, false, false, false, false, false, false, false, false, false, false, false, false, false, false, false, false] rfl rfl (by kernel_rfl) (fun _ _ _ h => h) (Or.inl ⟨by rfl, ?_⟩) ?_ ?_
       rotate_left
       ·intro w'
        go_simp
        with_reducible rfl
       rotate_left
       ·simp only [Act.put, List.setIfInBounds_toArray, List.set_cons_zero, List.set_cons_succ, i64_w, i32_w]
        rfl
       refine pure_ (i := 5) (N := some 81) (v := ?_) (a' := ?_) #[true, true, true, true, true, true, false, false, false, false, false, false, false, false, false, false, false, false, false, false, false, false, false, false, false] rfl rfl (by kernel_rfl) (fun _ _ _ h => h) (Or.inl ⟨by rfl, ?_⟩) ?_ ?_
       rotate_left
       ·intro w'
        go_simp
        with_reducible rfl
       rotate_left
       ·simp only [Act.put, List.setIfInBounds_toArray, List.set_cons_zero, List.set_cons_succ, i64_w, i32_w]
        rfl
       refine take_ (i := 6) (N := some 82) (v := ?_) (a' := ?_) #[true, true, true, true, true, true, true, false, false, false, false, false, false, false, false, false, false, false, false, false, false, false, false, false, false] rfl rfl (by kernel_rfl) (fun _ _ _ h => h) (Or.inl ⟨by rfl, ?_⟩) hHeld ?_ ?_
       rotate_left
       ·rintro w' ⟨s0, s1, s2, s3, s4, s5, s6, s7, s8, s9⟩
        go_simp
        with_reducible rfl
       rotate_left
       ·simp only [Act.put, List.setIfInBounds_toArray, List.set_cons_zero, List.set_cons_succ, i64_w, i32_w]
        rfl
       refine one_ (i := 7) (N := some 83) #[true, true, true, true, true, true, true, true, false, false, false, false, false, false, false, false, false, false, false, false, false, false, false, false, false] rfl rfl (by kernel_rfl) (by decide) (fun K hK => ?_)
       refine goes_ Tryd.func10 (by kernel_rfl) rfl #[.agg #[.int .i64 x0, .int .i64 x1, .int .i64 x2, .slice A3 l3.length c3, .slice A4 l4.length c4]] (by rfl) rfl rfl (by simp only [List.map_toArray, List.map_cons, List.map_nil]; rfl) ?_
       with_reducible refine (node_Valid.calls 0 x0 x1 x2 A3 c3 l3 A4 c4 l4 true _ (Kd.C_below HR3.out hbR) hc3 (Kd.C_below HR4.out hbR) hc4 HVA.out (HT.out.below hbR)).mono ?_
       rintro e w16 ⟨rfl, hb⟩
       refine ⟨_, rfl, ?_⟩
       replace hbR := hbR.trans (hb.mono hbR.size)
       clear hb
       refine hK.out _ _ (fx _ hbR) (fun hHeld => ?_)
       clear hK K
       refine norm_ (a' := ?_) ?_ ?_
       rotate_left
       ·show Act.put _ (some 83) _ = _
        simp only [Act.put, List.setIfInBounds_toArray, List.set_cons_zero, List.set_cons_succ, i64_w, i32_w]
        rfl
       refine pure_ (i := 8) (N := some 84) (v := ?_) (a' := ?_) #[true, true, true, true, true, true, true, true, true, false, false, false, false, false, false, false, false, false, false, false, false, false, false, false, false] rfl rfl (by kernel_rfl) (fun _ _ _ h => h) (Or.inl ⟨by rfl, ?_⟩) ?_ ?_
       rotate_left
       ·intro w'
        go_simp
        with_reducible rfl
       rotate_left
       ·simp only [Act.put, List.setIfInBounds_toArray, List.set_cons_zero, List.set_cons_succ, i64_w, i32_w]
        rfl
       refine pure_ (i := 9) (N := some 85) (v := ?_) (a' := ?_) #[true, true, true, true, true, true, true, true, true, true, false, false, false, false, false, false, false, false, false, false, false, false, false, false, false] rfl rfl (by kernel_rfl) (fun _ _ _ h => h) (Or.inl ⟨by rfl, ?_⟩) ?_ ?_
       rotate_left
       ·intro w'
        go_simp
        with_reducible rfl
       rotate_left
       ·simp only [Act.put, List.setIfInBounds_toArray, List.set_cons_zero, List.set_cons_succ, i64_w, i32_w]
        rfl
       refine take_ (i := 10) (N := some 86) (v := ?_) (a' := ?_) #[true, true, true, true, true, true, true, true, true, true, true, false, false, false, false, false, false, false, false, false, false, false, false, false, false] rfl rfl (by kernel_rfl) (fun _ _ _ h => h) (Or.inl ⟨by rfl, ?_⟩) hHeld ?_ ?_
       rotate_left
       ·rintro w' ⟨s0, s1, s2, s3, s4, s5, s6, s7, s8, s9⟩
        go_simp
        with_reducible rfl
       rotate_left
       ·simp only [Act.put, List.setIfInBounds_toArray, List.set_cons_zero, List.set_cons_succ, i64_w, i32_w]
        rfl
       refine take_ (i := 12) (N := some 88) (v := ?_) (a' := ?_) #[true, true, true, true, true, true, true, true, true, true, true, false, true, false, false, false, false, false, false, false, false, false, false, false, false] rfl rfl (by kernel_rfl) (fun _ _ _ h => h) (Or.inl ⟨by rfl, ?_⟩) hHeld ?_ ?_
       rotate_left
       ·rintro w' ⟨s0, s1, s2, s3, s4, s5, s6, s7, s8, s9⟩
        go_simp
        with_reducible rfl
       rotate_left
       ·simp only [Act.put, List.setIfInBounds_toArray, List.set_cons_zero, List.set_cons_succ, i64_w, i32_w]
        rfl
       refine one_ (i := 11) (N := some 87) #[true, true, true, true, true, true, true, true, true, true, true, true, true, false, false, false, false, false, false, false, false, false, false, false, false] rfl rfl (by kernel_rfl) (by decide) (fun K hK => ?_)
       refine goes_ Tryd.func14 (by kernel_rfl) rfl #[.agg #[.int .i64 x0, .int .i64 x1, .int .i64 x2, .slice A3 l3.length c3, .slice A4 l4.length c4]] (by rfl) rfl rfl (by simp only [List.map_toArray, List.map_cons, List.map_nil]; rfl) ?_
       with_reducible refine (node_Depth.calls 0 x0 x1 x2 A3 c3 l3 A4 c4 l4 D _ (Kd.C_below HR3.out hbR) hc3 (Kd.C_below HR4.out hbR) hc4 HDA.out).mono ?_
       rintro e w17 ⟨rfl, hb⟩
       refine ⟨_, rfl, ?_⟩
       replace hbR := hbR.trans (hb.mono hbR.size)
       clear hb
       refine hK.out _ _ (fx _ hbR) (fun hHeld => ?_)
       clear hK K
       refine norm_ (a' := ?_) ?_ ?_
       rotate_left
       ·show Act.put _ (some 87) _ = _
        simp only [Act.put, List.setIfInBounds_toArray, List.set_cons_zero, List.set_cons_succ, i64_w, i32_w]
        rfl
       refine one_ (i := 13) (N := some 89) #[true, true, true, true, true, true, true, true, true, true, true, true, true, true, false, false, false, false, false, false, false, false, false, false, false] rfl rfl (by kernel_rfl) (by decide) (fun K hK => ?_)
       refine goes_ Tryd.func14 (by kernel_rfl) rfl #[.agg #[.int .i64 y0, .int .i64 y1, .int .i64 y2, .slice F3 m3.length f3, .slice F4 m4.length f4]] (by rfl) rfl rfl (by simp only [List.map_toArray, List.map_cons, List.map_nil]; rfl) ?_
       with_reducible refine (node_Depth.calls 0 y0 y1 y2 F3 f3 m3 F4 f4 m4 D _ (Kd.C_below HQ3.out hbR) hd3 (Kd.C_below HQ4.out hbR) hd4 HDB.out).mono ?_
       rintro e w18 ⟨rfl, hb⟩
       refine ⟨_, rfl, ?_⟩
       replace hbR := hbR.trans (hb.mono hbR.size)
       clear hb
       refine hK.out _ _ (fx _ hbR) (fun hHeld => ?_)
       clear hK K
       refine norm_ (a' := ?_) ?_ ?_
       rotate_left
       ·show Act.put _ (some 89) _ = _
        simp only [Act.put, List.setIfInBounds_toArray, List.set_cons_zero, List.set_cons_succ, i64_w, i32_w]
        rfl
       refine pure_ (i := 14) (N := some 90) (v := ?_) (a' := ?_) #[true, true, true, true, true, true, true, true, true, true, true, true, true, true, true, false, false, false, false, false, false, false, false, false, false] rfl rfl (by kernel_rfl) (fun _ _ _ h => h) (Or.inl ⟨by rfl, ?_⟩) ?_ ?_
       rotate_left
       ·intro w'
        go_simp
        with_reducible rfl
       rotate_left
       ·simp only [Act.put, List.setIfInBounds_toArray, List.set_cons_zero, List.set_cons_succ, i64_w, i32_w]
        rfl
       refine pure_ (i := 15) (N := some 91) (v := ?_) (a' := ?_) #[true, true, true, true, true, true, true, true, true, true, true, true, true, true, true, true, false, false, false, false, false, false, false, false, false] rfl rfl (by kernel_rfl) (fun _ _ _ h => h) (Or.inl ⟨by rfl, ?_⟩) ?_ ?_
       rotate_left
       ·intro w'
        go_simp
        with_reducible rfl
       rotate_left
       ·simp only [Act.put, List.setIfInBounds_toArray, List.set_cons_zero, List.set_cons_succ, i64_w, i32_w]
        rfl
       refine take_ (i := 16) (N := some 92) (v := ?_) (a' := ?_) #[true, true, true, true, true, true, true, true, true, true, true, true, true, true, true, true, true, false, false, false, false, false, false, false, false] rfl rfl (by kernel_rfl) (fun _ _ _ h => h) (Or.inl ⟨by rfl, ?_⟩) hHeld ?_ ?_
       rotate_left
       ·rintro w' ⟨s0, s1, s2, s3, s4, s5, s6, s7, s8, s9⟩
        go_simp
        with_reducible rfl
       rotate_left
       ·simp only [Act.put, List.setIfInBounds_toArray, List.set_cons_zero, List.set_cons_succ, i64_w, i32_w]
        rfl
       refine take_ (i := 18) (N := some 94) (v := ?_) (a' := ?_) #[true, true, true, true, true, true, true, true, true, true, true, true, true, true, true, true, true, false, true, false, false, false, false, false, false] rfl rfl (by kernel_rfl) (fun _ _ _ h => h) (Or.inl ⟨by rfl, ?_⟩) hHeld ?_ ?_
       rotate_left
       ·rintro w' ⟨s0, s1, s2, s3, s4, s5, s6, s7, s8, s9⟩
        go_simp
        with_reducible rfl
       rotate_left
       ·simp only [Act.put, List.setIfInBounds_toArray, List.set_cons_zero, List.set_cons_succ, i64_w, i32_w]
        rfl
       refine one_ (i := 17) (N := some 93) #[true, true, true, true, true, true, true, true, true, true, true, true, true, true, true, true, true, true, true, false, false, false, false, false, false] rfl rfl (by kernel_rfl) (by decide) (fun K hK => ?_)
       refine goes_ Tryd.func16 (by kernel_rfl) rfl #[.agg #[.int .i64 x0, .int .i64 x1, .int .i64 x2, .slice A3 l3.length c3, .slice A4 l4.length c4]] (by rfl) rfl rfl (by simp only [List.map_toArray, List.map_cons, List.map_nil]; rfl) ?_
       with_reducible refine (node_Objects.calls 0 x0 x1 x2 A3 c3 l3 A4 c4 l4 O _ (Kd.C_below HR3.out hbR) hc3 (Kd.C_below HR4.out hbR) hc4 HOA.out).mono ?_
       rintro e w19 ⟨rfl, hb⟩
       refine ⟨_, rfl, ?_⟩
       replace hbR := hbR.trans (hb.mono hbR.size)
       clear hb
       refine hK.out _ _ (fx _ hbR) (fun hHeld => ?_)
       clear hK K
       refine norm_ (a' := ?_) ?_ ?_
       rotate_left
       ·show Act.put _ (some 93) _ = _
        simp only [Act.put, List.setIfInBounds_toArray, List.set_cons_zero, List.set_cons_succ, i64_w, i32_w]
        rfl
       refine one_ (i := 19) (N := some 95) #[true, true, true, true, true, true, true, true, true, true, true, true, true, true, true, true, true, true, true, true, false, false, false, false, false] rfl rfl (by kernel_rfl) (by decide) (fun K hK => ?_)
       refine goes_ Tryd.func16 (by kernel_rfl) rfl #[.agg #[.int .i64 y0, .int .i64 y1, .int .i64 y2, .slice F3 m3.length f3, .slice F4 m4.length f4]] (by rfl) rfl rfl (by simp only [List.map_toArray, List.map_cons, List.map_nil]; rfl) ?_
       with_reducible refine (node_Objects.calls 0 y0 y1 y2 F3 f3 m3 F4 f4 m4 O _ (Kd.C_below HQ3.out hbR) hd3 (Kd.C_below HQ4.out hbR) hd4 HOB.out).mono ?_
       rintro e w20 ⟨rfl, hb⟩
       refine ⟨_, rfl, ?_⟩
       replace hbR := hbR.trans (hb.mono hbR.size)
       clear hb
       refine hK.out _ _ (fx _ hbR) (fun hHeld => ?_)
       clear hK K
       refine norm_ (a' := ?_) ?_ ?_
       rotate_left
       ·show Act.put _ (some 95) _ = _
        simp only [Act.put, List.setIfInBounds_toArray, List.set_cons_zero, List.set_cons_succ, i64_w, i32_w]
        rfl
       refine pure_ (i := 20) (N := some 96) (v := ?_) (a' := ?_) #[true, true, true, true, true, true, true, true, true, true, true, true, true, true, true, true, true, true, true, true, true, false, false, false, false] rfl rfl (by kernel_rfl) (fun _ _ _ h => h) (Or.inl ⟨by rfl, ?_⟩) ?_ ?_
       rotate_left
       ·intro w'
        go_simp
        with_reducible rfl
       rotate_left
       ·simp only [Act.put, List.setIfInBounds_toArray, List.set_cons_zero, List.set_cons_succ, i64_w, i32_w]
        rfl
       refine pure_ (i := 21) (N := some 97) (v := ?_) (a' := ?_) #[true, true, true, true, true, true, true, true, true, true, true, true, true, true, true, true, true, true, true, true, true, true, false, false, false] rfl rfl (by kernel_rfl) (fun _ _ _ h => h) (Or.inl ⟨by rfl, ?_⟩) ?_ ?_
       rotate_left
       ·intro w'
        go_simp
        with_reducible rfl
       rotate_left
       ·simp only [Act.put, List.setIfInBounds_toArray, List.set_cons_zero, List.set_cons_succ, i64_w, i32_w]
        rfl
       refine pure_ (i := 22) (N := some 98) (v := ?_) (a' := ?_) #[true, true, true, true, true, true, true, true, true, true, true, true, true, true, true, true, true, true, true, true, true, true, true, false, false] rfl rfl (by kernel_rfl) (fun _ _ _ h => h) (Or.inl ⟨by rfl, ?_⟩) ?_ ?_
       rotate_left
       ·intro w'
        go_simp
        with_reducible rfl
       rotate_left
       ·simp only [Act.put, List.setIfInBounds_toArray, List.set_cons_zero, List.set_cons_succ, i64_w, i32_w]
        rfl
       refine pure_ (i := 23) (N := some 99) (v := ?_) (a' := ?_) #[true, true, true, true, true, true, true, true, true, true, true, true, true, true, true, true, true, true, true, true, true, true, true, true, false] rfl rfl (by kernel_rfl) (fun _ _ _ h => h) (Or.inl ⟨by rfl, ?_⟩) ?_ ?_
       rotate_left
       ·intro w'
        go_simp
        with_reducible rfl
       rotate_left
       ·simp only [Act.put, List.setIfInBounds_toArray, List.set_cons_zero, List.set_cons_succ, i64_w, i32_w]
        rfl
       refine pure_ (i := 24) (N := some 6) (v := ?_) (a' := ?_) #[true, true, true, true, true, true, true, true, true, true, true, true, true, true, true, true, true, true, true, true, true, true, true, true, true] rfl rfl (by kernel_rfl) (fun _ _ _ h => h) (Or.inl ⟨by rfl, ?_⟩) ?_ ?_
       rotate_left
       ·intro w'
        go_simp
        with_reducible rfl
       rotate_left
       ·simp only [Act.put, List.setIfInBounds_toArray, List.set_cons_zero, List.set_cons_succ, i64_w, i32_w]
        rfl
       refine done_ (by kernel_rfl) ?_
       clear fx hHeld l_BN q_BN_0 q_BN_1 q_BN_2 q_BN_3 q_BN_4 l_BM q_BM_0 q_BM_1 q_BM_2 q_BM_3 q_BM_4
       replace HT := Lib.hid (HT.out.below hbR)
       replace HR3 := Lib.hid (Kd.C_below HR3.out hbR)
       replace HR4 := Lib.hid (Kd.C_below HR4.out hbR)
       replace HQ3 := Lib.hid (Kd.C_below HQ3.out hbR)
       replace HQ4 := Lib.hid (Kd.C_below HQ4.out hbR)
       replace HS3 := Lib.hid (Kd.C_below HS3.out hbR)
       replace HS4 := Lib.hid (Kd.C_below HS4.out hbR)
       replace HB := Lib.hid (below_step HB.out hbR)
       replace HX4 := Lib.hid (Kd.C_below HX4.out hbR)
       replace BN := Lib.hid (blk_below BN.out hbR)
       replace BM := Lib.hid (blk_below BM.out hbR)
       replace BK := Lib.hid (blk_below BK.out hbR)
       replace BX := Lib.hid (blk_below BX.out hbR)
       clear hbR
       go_wp2
       go_ret
       exact ⟨by simp, HB.out⟩
     ·have HBC : Hid (node_Equal.f 0 y0 y1 y2 m3 m4 z0 z1 z2 n3 n4 = some false) := Lib.hid (equ_f false hok2 hok3 (eqT_false g))
      clear e g
      have l_BN : w.heap.size < w4.heap.size := blk_lt BN.out
      have q_BN_0 : w4.cell? ⟨w.heap.size, 0, none⟩ = some (.int .i64 x0) := (blk_cell BN.out 0).trans rfl
      have q_BN_1 : w4.cell? ⟨w.heap.size, 1, none⟩ = some (.int .i64 x1) := (blk_cell BN.out 1).trans rfl
      have q_BN_2 : w4.cell? ⟨w.heap.size, 2, none⟩ = some (.int .i64 x2) := (blk_cell BN.out 2).trans rfl
      have q_BN_3 : w4.cell? ⟨w.heap.size, 3, none⟩ = some (.slice A3 l3.length c3) := (blk_cell BN.out 3).trans rfl
      have q_BN_4 : w4.cell? ⟨w.heap.size, 4, none⟩ = some (.slice A4 l4.length c4) := (blk_cell BN.out 4).trans rfl
      have l_BM : w.heap.size + 1 < w4.heap.size := blk_lt BM.out
      have q_BM_0 : w4.cell? ⟨w.heap.size + 1, 0, none⟩ = some (.int .i64 y0) := (blk_cell BM.out 0).trans rfl
      have q_BM_1 : w4.cell? ⟨w.heap.size + 1, 1, none⟩ = some (.int .i64 y1) := (blk_cell BM.out 1).trans rfl
      have q_BM_2 : w4.cell? ⟨w.heap.size + 1, 2, none⟩ = some (.int .i64 y2) := (blk_cell BM.out 2).trans rfl
      have q_BM_3 : w4.cell? ⟨w.heap.size + 1, 3, none⟩ = some (.slice F3 m3.length f3) := (blk_cell BM.out 3).trans rfl
      have q_BM_4 : w4.cell? ⟨w.heap.size + 1, 4, none⟩ = some (.slice F4 m4.length f4) := (blk_cell BM.out 4).trans rfl
      have l_BK : w.heap.size + 1 + 1 < w4.heap.size := blk_lt BK.out
      have q_BK_0 : w4.cell? ⟨w.heap.size + 1 + 1, 0, none⟩ = some (.int .i64 z0) := (blk_cell BK.out 0).trans rfl
      have q_BK_1 : w4.cell? ⟨w.heap.size + 1 + 1, 1, none⟩ = some (.int .i64 z1) := (blk_cell BK.out 1).trans rfl
      have q_BK_2 : w4.cell? ⟨w.heap.size + 1 + 1, 2, none⟩ = some (.int .i64 z2) := (blk_cell BK.out 2).trans rfl
      have q_BK_3 : w4.cell? ⟨w.heap.size + 1 + 1, 3, none⟩ = some (.slice G3 n3.length g3) := (blk_cell BK.out 3).trans rfl
      have q_BK_4 : w4.cell? ⟨w.heap.size + 1 + 1, 4, none⟩ = some (.slice G4 n4.length g4) := (blk_cell BK.out 4).trans rfl
      have fx : ∀ W' : World, Below w4.heap.size w4 W' → (W'.cell? ⟨w.heap.size, 0, none⟩ = some (.int .i64 x0) ∧ W'.cell? ⟨w.heap.size, 1, none⟩ = some (.int .i64 x1) ∧ W'.cell? ⟨w.heap.size, 2, none⟩ = some (.int .i64 x2) ∧ W'.cell? ⟨w.heap.size, 3, none⟩ = some (.slice A3 l3.length c3) ∧ W'.cell? ⟨w.heap.size, 4, none⟩ = some (.slice A4 l4.length c4) ∧ W'.cell? ⟨w.heap.size + 1, 0, none⟩ = some (.int .i64 y0) ∧ W'.cell? ⟨w.heap.size + 1, 1, none⟩ = some (.int .i64 y1) ∧ W'.cell? ⟨w.heap.size + 1, 2, none⟩ = some (.int .i64 y2) ∧ W'.cell? ⟨w.heap.size + 1, 3, none⟩ = some (.slice F3 m3.length f3) ∧ W'.cell? ⟨w.heap.size + 1, 4, none⟩ = some (.slice F4 m4.length f4) ∧ W'.cell? ⟨w.heap.size + 1 + 1, 0, none⟩ = some (.int .i64 z0) ∧ W'.cell? ⟨w.heap.size + 1 + 1, 1, none⟩ = some (.int .i64 z1) ∧ W'.cell? ⟨w.heap.size + 1 + 1, 2, none⟩ = some (.int .i64 z2) ∧ W'.cell? ⟨w.heap.size + 1 + 1, 3, none⟩ = some (.slice G3 n3.length g3) ∧ W'.cell? ⟨w.heap.size + 1 + 1, 4, none⟩ = some (.slice G4 n4.length g4)) := fun W' hbR => ⟨(hbR.cell (p := ⟨w.heap.size, 0, none⟩) l_BN).trans q_BN_0, (hbR.cell (p := ⟨w.heap.size, 1, none⟩) l_BN).trans q_BN_1, (hbR.cell (p := ⟨w.heap.size, 2, none⟩) l_BN).trans q_BN_2, (hbR.cell (p := ⟨w.heap.size, 3, none⟩) l_BN).trans q_BN_3, (hbR.cell (p := ⟨w.heap.size, 4, none⟩) l_BN).trans q_BN_4, (hbR.cell (p := ⟨w.heap.size + 1, 0, none⟩) l_BM).trans q_BM_0, (hbR.cell (p := ⟨w.heap.size + 1, 1, none⟩) l_BM).trans q_BM_1, (hbR.cell (p := ⟨w.heap.size + 1, 2, none⟩) l_BM).trans q_BM_2, (hbR.cell (p := ⟨w.heap.size + 1, 3, none⟩) l_BM).trans q_BM_3, (hbR.cell (p := ⟨w.heap.size + 1, 4, none⟩) l_BM).trans q_BM_4, (hbR.cell (p := ⟨w.heap.size + 1 + 1, 0, none⟩) l_BK).trans q_BK_0, (hbR.cell (p := ⟨w.heap.size + 1 + 1, 1, none⟩) l_BK).trans q_BK_1, (hbR.cell (p := ⟨w.heap.size + 1 + 1, 2, none⟩) l_BK).trans q_BK_2, (hbR.cell (p := ⟨w.heap.size + 1 + 1, 3, none⟩) l_BK).trans q_BK_3, (hbR.cell (p := ⟨w.heap.size + 1 + 1, 4, none⟩) l_BK).trans q_BK_4⟩
      refine start_ (n := 29) (S := fun w' => w'.cell? ⟨w.heap.size, 0, none⟩ = some (.int .i64 x0) ∧ w'.cell? ⟨w.heap.size, 1, none⟩ = some (.int .i64 x1) ∧ w'.cell? ⟨w.heap.size, 2, none⟩ = some (.int .i64 x2) ∧ w'.cell? ⟨w.heap.size, 3, none⟩ = some (.slice A3 l3.length c3) ∧ w'.cell? ⟨w.heap.size, 4, none⟩ = some (.slice A4 l4.length c4) ∧ w'.cell? ⟨w.heap.size + 1, 0, none⟩ = some (.int .i64 y0) ∧ w'.cell? ⟨w.heap.size + 1, 1, none⟩ = some (.int .i64 y1) ∧ w'.cell? ⟨w.heap.size + 1, 2, none⟩ = some (.int .i64 y2) ∧ w'.cell? ⟨w.heap.size + 1, 3, none⟩ = some (.slice F3 m3.length f3) ∧ w'.cell? ⟨w.heap.size + 1, 4, none⟩ = some (.slice F4 m4.length f4) ∧ w'.cell? ⟨w.heap.size + 1 + 1, 0, none⟩ = some (.int .i64 z0) ∧ w'.cell? ⟨w.heap.size + 1 + 1, 1, none⟩ = some (.int .i64 z1) ∧ w'.cell? ⟨w.heap.size + 1 + 1, 2, none⟩ = some (.int .i64 z2) ∧ w'.cell? ⟨w.heap.size + 1 + 1, 3, none⟩ = some (.slice G3 n3.length g3) ∧ w'.cell? ⟨w.heap.size + 1 + 1, 4, none⟩ = some (.slice G4 n4.length g4)) (ds := []) #[false, false, false, false, false, false, false, false, false, false, false, false, false, false, false, false, false, false, false, false, false, false, false, false, false, false, false, false, false] (by kernel_rfl) rfl rfl ⟨q_BN_0, q_BN_1, q_BN_2, q_BN_3, q_BN_4, q_BM_0, q_BM_1, q_BM_2, q_BM_3, q_BM_4, q_BK_0, q_BK_1, q_BK_2, q_BK_3, q_BK_4⟩ (fun hHeld => ?_)
      obtain ⟨wd, hwd⟩ : ∃ W, W = w4.drew := ⟨_, rfl⟩
      rw [← hwd] at hHeld ⊢
      have hbR : Below w4.heap.size w4 wd := by rw [hwd]; exact (Below.refl _ _).drew
      clear hwd
      refine take_ (i := 0) (N := some 26) (v := ?_) (a' := ?_) #[true, false, false, false, false, false, false, false, false, false, false, false, false, false, false, false, false, false, false, false, false, false, false, false, false, false, false, false, false] rfl rfl (by kernel_rfl) (fun _ _ _ h => h) (Or.inl ⟨by rfl, ?_⟩) hHeld ?_ ?_
      rotate_left
      ·rintro w' ⟨s0, s1, s2, s3, s4, s5, s6, s7, s8, s9, s10, s11, s12, s13, s14⟩
       go_simp
       with_reducible rfl
      rotate_left
      ·simp only [Act.put, List.setIfInBounds_toArray, List.set_cons_zero, List.set_cons_succ, i64_w, i32_w]
       rfl
      refine take_ (i := 1) (N := some 27) (v := ?_) (a' := ?_) #[true, true, false, false, false, false, false, false, false, false, false, false, false, false, false, false, false, false, false, false, false, false, false, false, false, false, false, false, false] rfl rfl (by kernel_rfl) (fun _ _ _ h => h) (Or.inl ⟨by rfl, ?_⟩) hHeld ?_ ?_
      rotate_left
      ·rintro w' ⟨s0, s1, s2, s3, s4, s5, s6, s7, s8, s9, s10, s11, s12, s13, s14⟩
       go_simp
       with_reducible rfl
      rotate_left
      ·simp only [Act.put, List.setIfInBounds_toArray, List.set_cons_zero, List.set_cons_succ, i64_w, i32_w]
       rfl
      refine one_ (i := 2) (N := some 28) #[true, true, true, false, false, false, false, false, false, false, false, false, false, false, false, false, false, false, false, false, false, false, false, false, false, false, false, false, false] rfl rfl (by kernel_rfl) (by decide) (fun K hK => ?_)
      refine goes_ Tryd.func12 (by kernel_rfl) rfl #[.agg #[.int .i64 x0, .int .i64 x1, .int .i64 x2, .slice A3 l3.length c3, .slice A4 l4.length c4], .agg #[.int .i64 x0, .int .i64 x1, .int .i64 x2, .slice A3 l3.length c3, .slice A4 l4.length c4]] (by rfl) rfl rfl (by simp only [List.map_toArray, List.map_cons, List.map_nil]; rfl) ?_
      with_reducible refine (node_Equal.calls 0 x0 x1 x2 A3 c3 l3 A4 c4 l4 x0 x1 x2 A3 c3 l3 A4 c4 l4 true _ (Kd.C_below HR3.out hbR) hc3 (Kd.C_below HR4.out hbR) hc4 (Kd.C_below HR3.out hbR) hc3 (Kd.C_below HR4.out hbR) hc4 HXX.out).mono ?_
      rintro e w5 ⟨rfl, hb⟩
      refine ⟨_, rfl, ?_⟩
      replace hbR := hbR.trans (hb.mono hbR.size)
      clear hb
      refine hK.out _ _ (fx _ hbR) (fun hHeld => ?_)
      clear hK K
      refine norm_ (a' := ?_) ?_ ?_
      rotate_left
      ·show Act.put _ (some 28) _ = _
       simp only [Act.put, List.setIfInBounds_toArray, List.set_cons_zero, List.set_cons_succ, i64_w, i32_w]
       rfl
      refine pure_ (i := 3) (N := some 29) (v := ?_) (a' := ?_) #[true, true, true, true, false, false, false, false, false, false, false, false, false, false, false, false, false, false, false, false, false, false, false, false, false, false, false, false, false] rfl rfl (by kernel_rfl) (fun _ _ _ h => h) (Or.inl ⟨by rfl, ?_⟩) ?_ ?_
      rotate_left
      ·intro w'
       go_simp
       with_reducible rfl
      rotate_left
      ·simp only [Act.put, List.setIfInBounds_toArray, List.set_cons_zero, List.set_cons_succ, i64_w, i32_w]
       rfl
      refine pure_ (i := 4) (N := some 30) (v := ?_) (a' := ?_) #[true, true, true, true, true, false, false, false, false, false, false, false, false, false, false, false, false, false, false, false, false, false, false, false, false, false, false, false, false] rfl rfl (by kernel_rfl) (fun _ _ _ h => h) (Or.inl ⟨by rfl, ?_⟩) ?_ ?_
      rotate_left
      ·intro w'
       go_simp
       with_reducible rfl
      rotate_left
      ·simp only [Act.put, List.setIfInBounds_toArray, List.set_cons_zero, List.set_cons_succ, i64_w, i32_w]
       rfl
      refine take_ (i := 5) (N := some 31) (v := ?_) (a' := ?_) #[true, true, true, true, true, true, false, false, false, false, false, false, false, false, false, false, false, false, false, false, false, false, false, false, false, false, false, false, false] rfl rfl (by kernel_rfl) (fun _ _ _ h => h) (Or.inl ⟨by rfl, ?_⟩) hHeld ?_ ?_
      rotate_left
      ·rintro w' ⟨s0, s1, s2, s3, s4, s5, s6, s7, s8, s9, s10, s11, s12, s13, s14⟩
       go_simp
       with_reducible rfl
      rotate_left
      ·simp only [Act.put, List.setIfInBounds_toArray, List.set_cons_zero, List.set_cons_succ, i64_w, i32_w]
       rfl
      refine take_ (i := 6) (N := some 32) (v := ?_) (a' := ?_) #[true, true, true, true, true, true, true, false, false, false, false, false, false, false, false, false, false, false, false, false, false, false, false, false, false, false, false, false, false] rfl rfl (by kernel_rfl) (fun _ _ _ h => h) (Or.inl ⟨by rfl, ?_⟩) hHeld ?_ ?_
      rotate_left
      ·rintro w' ⟨s0, s1, s2, s3, s4, s5, s6, s7, s8, s9, s10, s11, s12, s13, s14⟩
       go_simp
       with_reducible rfl
      rotate_left
      ·simp only [Act.put, List.setIfInBounds_toArray, List.set_cons_zero, List.set_cons_succ, i64_w, i32_w]
       rfl
      refine take_ (i := 8) (N := some 34) (v := ?_) (a' := ?_) #[true, true, true, true, true, true, true, false, true, false, false, false, false, false, false, false, false, false, false, false, false, false, false, false, false, false, false, false, false] rfl rfl (by kernel_rfl) (fun _ _ _ h => h) (Or.inl ⟨by rfl, ?_⟩) hHeld ?_ ?_
      rotate_left
      ·rintro w' ⟨s0, s1, s2, s3, s4, s5, s6, s7, s8, s9, s10, s11, s12, s13, s14⟩
       go_simp
       with_reducible rfl
      rotate_left
      ·simp only [Act.put, List.setIfInBounds_toArray, List.set_cons_zero, List.set_cons_succ, i64_w, i32_w]
       rfl
      refine take_ (i := 9) (N := some 35) (v := ?_) (a' := ?_) #[true, true, true, true, true, true, true, false, true, true, false, false, false, false, false, false, false, false, false, false, false, false, false, false, false, false, false, false, false] rfl rfl (by kernel_rfl) (fun _ _ _ h => h) (Or.inl ⟨by rfl, ?_⟩) hHeld ?_ ?_
      rotate_left
      ·rintro w' ⟨s0, s1, s2, s3, s4, s5, s6, s7, s8, s9, s10, s11, s12, s13, s14⟩
       go_simp
       with_reducible rfl
      rotate_left
      ·simp only [Act.put, List.setIfInBounds_toArray, List.set_cons_zero, List.set_cons_succ, i64_w, i32_w]
       rfl
      refine one_ (i := 7) (N := some 33) #[true, true, true, true, true, true, true, true, true, true, false, false, false, false, false, false, false, false, false, false, false, false, false, false, false, false, false, false, false] rfl rfl (by kernel_rfl) (by decide) (fun K hK => ?_)
      refine goes_ Tryd.func12 (by kernel_rfl) rfl #[.agg #[.int .i64 x0, .int .i64 x1, .int .i64 x2, .slice A3 l3.length c3, .slice A4 l4.length c4], .agg #[.int .i64 y0, .int .i64 y1, .int .i64 y2, .slice F3 m3.length f3, .slice F4 m4.length f4]] (by rfl) rfl rfl (by simp only [List.map_toArray, List.map_cons, List.map_nil]; rfl) ?_
      with_reducible refine (node_Equal.calls 0 x0 x1 x2 A3 c3 l3 A4 c4 l4 y0 y1 y2 F3 f3 m3 F4 f4 m4 true _ (Kd.C_below HR3.out hbR) hc3 (Kd.C_below HR4.out hbR) hc4 (Kd.C_below HQ3.out hbR) hd3 (Kd.C_below HQ4.out hbR) hd4 HAB.out).mono ?_
      rintro e w6 ⟨rfl, hb⟩
      refine ⟨_, rfl, ?_⟩
      replace hbR := hbR.trans (hb.mono hbR.size)
      clear hb
      refine hK.out _ _ (fx _ hbR) (fun hHeld => ?_)
      clear hK K
      refine norm_ (a' := ?_) ?_ ?_
      rotate_left
      ·show Act.put _ (some 33) _ = _
       simp only [Act.put, List.setIfInBounds_toArray, List.set_cons_zero, List.set_cons_succ, i64_w, i32_w]
       rfl
      refine one_ (i := 10) (N := some 36) #[true, true, true, true, true, true, true, true, true, true, true, false, false, false, false, false, false, false, false, false, false, false, false, false, false, false, false, false, false] rfl rfl (by kernel_rfl) (by decide) (fun K hK => ?_)
      refine goes_ Tryd.func12 (by kernel_rfl) rfl #[.agg #[.int .i64 y0, .int .i64 y1, .int .i64 y2, .slice F3 m3.length f3, .slice F4 m4.length f4], .agg #[.int .i64 x0, .int .i64 x1, .int .i64 x2, .slice A3 l3.length c3, .slice A4 l4.length c4]] (by rfl) rfl rfl (by simp only [List.map_toArray, List.map_cons, List.map_nil]; rfl) ?_
      with_reducible refine (node_Equal.calls 0 y0 y1 y2 F3 f3 m3 F4 f4 m4 x0 x1 x2 A3 c3 l3 A4 c4 l4 true _ (Kd.C_below HQ3.out hbR) hd3 (Kd.C_below HQ4.out hbR) hd4 (Kd.C_below HR3.out hbR) hc3 (Kd.C_below HR4.out hbR) hc4 HBA.out).mono ?_
      rintro e w7 ⟨rfl, hb⟩
      refine ⟨_, rfl, ?_⟩
      replace hbR := hbR.trans (hb.mono hbR.size)
      clear hb
      refine hK.out _ _ (fx _ hbR) (fun hHeld => ?_)
      clear hK K
      refine norm_ (a' := ?_) ?_ ?_
      rotate_left
      ·show Act.put _ (some 36) _ = _
       simp only [Act.put, List.setIfInBounds_toArray, List.set_cons_zero, List.set_cons_succ, i64_w, i32_w]
       rfl
      refine pure_ (i := 11) (N := some 37) (v := ?_) (a' := ?_) #[true, true, true, true, true, true, true, true, true, true, true, true, false, false, false, false, false, false, false, false, false, false, false, false, false, false, false, false, false] rfl rfl (by kernel_rfl) (fun _ _ _ h => h) (Or.inl ⟨by rfl, ?_⟩) ?_ ?_
      rotate_left
      ·intro w'
       go_simp
       with_reducible rfl
      rotate_left
      ·simp only [Act.put, List.setIfInBounds_toArray, List.set_cons_zero, List.set_cons_succ, i64_w, i32_w]
       rfl
      refine pure_ (i := 12) (N := some 38) (v := ?_) (a' := ?_) #[true, true, true, true, true, true, true, true, true, true, true, true, true, false, false, false, false, false, false, false, false, false, false, false, false, false, false, false, false] rfl rfl (by kernel_rfl) (fun _ _ _ h => h) (Or.inl ⟨by rfl, ?_⟩) ?_ ?_
      rotate_left
      ·intro w'
       go_simp
       with_reducible rfl
      rotate_left
      ·simp only [Act.put, List.setIfInBounds_toArray, List.set_cons_zero, List.set_cons_succ, i64_w, i32_w]
       rfl
      refine pure_ (i := 13) (N := some 39) (v := ?_) (a' := ?_) #[true, true, true, true, true, true, true, true, true, true, true, true, true, true, false, false, false, false, false, false, false, false, false, false, false, false, false, false, false] rfl rfl (by kernel_rfl) (fun _ _ _ h => h) (Or.inl ⟨by rfl, ?_⟩) ?_ ?_
      rotate_left
      ·intro w'
       go_simp
       with_reducible rfl
      rotate_left
      ·simp only [Act.put, List.setIfInBounds_toArray, List.set_cons_zero, List.set_cons_succ, i64_w, i32_w]
       rfl
      refine take_ (i := 14) (N := some 40) (v := ?_) (a' := ?_) #[true, true, true, true, true, true, true, true, true, true, true, true, true, true, true, false, false, false, false, false, false, false, false, false, false, false, false, false, false] rfl rfl (by kernel_rfl) (fun _ _ _ h => h) (Or.inl ⟨by rfl, ?_⟩) hHeld ?_ ?_
      rotate_left
      ·rintro w' ⟨s0, s1, s2, s3, s4, s5, s6, s7, s8, s9, s10, s11, s12, s13, s14⟩
       go_simp
       with_reducible rfl
      rotate_left
      ·simp only [Act.put, List.setIfInBounds_toArray, List.set_cons_zero, List.set_cons_succ, i64_w, i32_w]
       rfl
      refine take_ (i := 15) (N := some 41) (v := ?_) (a' := ?_) #[true, true, true, true, true, true, true, true, true, true, true, true, true, true, true, true, false, false, false, false, false, false, false, false, false, false, false, false, false] rfl rfl (by kernel_rfl) (fun _ _ _ h => h) (Or.inl ⟨by rfl, ?_⟩) hHeld ?_ ?_
      rotate_left
      ·rintro w' ⟨s0, s1, s2, s3, s4, s5, s6, s7, s8, s9, s10, s11, s12, s13, s14⟩
       go_simp
       with_reducible rfl
      rotate_left
      ·simp only [Act.put, List.setIfInBounds_toArray, List.set_cons_zero, List.set_cons_succ, i64_w, i32_w]
       rfl
      refine one_ (i := 16) (N := some 42) #[true, true, true, true, true, true, true, true, true, true, true, true, true, true, true, true, true, false, false, false, false, false, false, false, false, false, false, false, false] rfl rfl (by kernel_rfl) (by decide) (fun K hK => ?_)
      refine goes_ Tryd.func12 (by kernel_rfl) rfl #[.agg #[.int .i64 x0, .int .i64 x1, .int .i64 x2, .slice A3 l3.length c3, .slice A4 l4.length c4], .agg #[.int .i64 y0, .int .i64 y1, .int .i64 y2, .slice F3 m3.length f3, .slice F4 m4.length f4]] (by rfl) rfl rfl (by simp only [List.map_toArray, List.map_cons, List.map_nil]; rfl) ?_
      with_reducible refine (node_Equal.calls 0 x0 x1 x2 A3 c3 l3 A4 c4 l4 y0 y1 y2 F3 f3 m3 F4 f4 m4 true _ (Kd.C_below HR3.out hbR) hc3 (Kd.C_below HR4.out hbR) hc4 (Kd.C_below HQ3.out hbR) hd3 (Kd.C_below HQ4.out hbR) hd4 HAB.out).mono ?_
      rintro e w8 ⟨rfl, hb⟩
      refine ⟨_, rfl, ?_⟩
      replace hbR := hbR.trans (hb.mono hbR.size)
      clear hb
      refine hK.out _ _ (fx _ hbR) (fun hHeld => ?_)
      clear hK K
      refine norm_ (a' := ?_) ?_ ?_
      rotate_left
      ·show Act.put _ (some 42) _ = _
       simp only [Act.put, List.setIfInBounds_toArray, List.set_cons_zero, List.set_cons_succ, i64_w, i32_w]
       rfl
      refine pure_ (i := 17) (N := some 43) (v := ?_) (a' := ?_) #[true, true, true, true, true, true, true, true, true, true, true, true, true, true, true, true, true, true, false, false, false, false, false, false, false, false, false, false, false] rfl rfl (by kernel_rfl) (fun _ _ _ h => h) (Or.inl ⟨by rfl, ?_⟩) ?_ ?_
      rotate_left
      ·intro w'
       go_simp
       with_reducible rfl
      rotate_left
      ·simp only [Act.put, List.setIfInBounds_toArray, List.set_cons_zero, List.set_cons_succ, i64_w, i32_w]
       rfl
      refine take_ (i := 18) (N := some 44) (v := ?_) (a' := ?_) #[true, true, true, true, true, true, true, true, true, true, true, true, true, true, true, true, true, true, true, false, false, false, false, false, false, false, false, false, false] rfl rfl (by kernel_rfl) (fun _ _ _ h => h) (Or.inl ⟨by rfl, ?_⟩) hHeld ?_ ?_
      rotate_left
      ·rintro w' ⟨s0, s1, s2, s3, s4, s5, s6, s7, s8, s9, s10, s11, s12, s13, s14⟩
       go_simp
       with_reducible rfl
      rotate_left
      ·simp only [Act.put, List.setIfInBounds_toArray, List.set_cons_zero, List.set_cons_succ, i64_w, i32_w]
       rfl
      refine take_ (i := 19) (N := some 45) (v := ?_) (a' := ?_) #[true, true, true, true, true, true, true, true, true, true, true, true, true, true, true, true, true, true, true, true, false, false, false, false, false, false, false, false, false] rfl rfl (by kernel_rfl) (fun _ _ _ h => h) (Or.inl ⟨by rfl, ?_⟩) hHeld ?_ ?_
      rotate_left
      ·rintro w' ⟨s0, s1, s2, s3, s4, s5, s6, s7, s8, s9, s10, s11, s12, s13, s14⟩
       go_simp
       with_reducible rfl
      rotate_left
      ·simp only [Act.put, List.setIfInBounds_toArray, List.set_cons_zero, List.set_cons_succ, i64_w, i32_w]
       rfl
      refine one_ (i := 20) (N := some 46) #[true, true, true, true, true, true, true, true, true, true, true, true, true, true, true, true, true, true, true, true, true, false, false, false, false, false, false, false, false] rfl rfl (by kernel_rfl) (by decide) (fun K hK => ?_)
      refine goes_ Tryd.func12 (by kernel_rfl) rfl #[.agg #[.int .i64 y0, .int .i64 y1, .int .i64 y2, .slice F3 m3.length f3, .slice F4 m4.length f4], .agg #[.int .i64 z0, .int .i64 z1, .int .i64 z2, .slice G3 n3.length g3, .slice G4 n4.length g4]] (by rfl) rfl rfl (by simp only [List.map_toArray, List.map_cons, List.map_nil]; rfl) ?_
      with_reducible refine (node_Equal.calls 0 y0 y1 y2 F3 f3 m3 F4 f4 m4 z0 z1 z2 G3 g3 n3 G4 g4 n4 false _ (Kd.C_below HQ3.out hbR) hd3 (Kd.C_below HQ4.out hbR) hd4 (Kd.C_below HS3.out hbR) he3 (Kd.C_below HS4.out hbR) he4 HBC.out).mono ?_
      rintro e w9 ⟨rfl, hb⟩
      refine ⟨_, rfl, ?_⟩
      replace hbR := hbR.trans (hb.mono hbR.size)
      clear hb
      refine hK.out _ _ (fx _ hbR) (fun hHeld => ?_)
      clear hK K
      refine norm_ (a' := ?_) ?_ ?_
      rotate_left
      ·show Act.put _ (some 46) _ = _
       simp only [Act.put, List.setIfInBounds_toArray, List.set_cons_zero, List.set_cons_succ, i64_w, i32_w]
       rfl
      refine pure_ (i := 21) (N := some 47) (v := ?_) (a' := ?_) #[true, true, true, true, true, true, true, true, true, true, true, true, true, true, true, true, true, true, true, true, true, true, false, false, false, false, false, false, false] rfl rfl (by kernel_rfl) (fun _ _ _ h => h) (Or.inl ⟨by rfl, ?_⟩) ?_ ?_
      rotate_left
      ·intro w'
       go_simp
       with_reducible rfl
      rotate_left
      ·simp only [Act.put, List.setIfInBounds_toArray, List.set_cons_zero, List.set_cons_succ, i64_w, i32_w]
       rfl
      refine pure_ (i := 22) (N := some 48) (v := ?_) (a' := ?_) #[true, true, true, true, true, true, true, true, true, true, true, true, true, true, true, true, true, true, true, true, true, true, true, false, false, false, false, false, false] rfl rfl (by kernel_rfl) (fun _ _ _ h => h) (Or.inl ⟨by rfl, ?_⟩) ?_ ?_
      rotate_left
      ·intro w'
       go_simp
       with_reducible rfl
      rotate_left
      ·simp only [Act.put, List.setIfInBounds_toArray, List.set_cons_zero, List.set_cons_succ, i64_w, i32_w]
       rfl
      refine pure_ (i := 23) (N := some 49) (v := undef) (a' := ?_) #[true, true, true, true, true, true, true, true, true, true, true, true, true, true, true, true, true, true, true, true, true, true, true, true, false, false, false, false, false] rfl rfl (by kernel_rfl) (fun _ _ _ h => h) (Or.inr ⟨by rfl, rfl⟩) ?_ ?_
      rotate_left
      ·simp only [Act.put, List.setIfInBounds_toArray, List.set_cons_zero, List.set_cons_succ, i64_w, i32_w]
       rfl
      refine pure_ (i := 24) (N := some 50) (v := undef) (a' := ?_) #[true, true, true, true, true, true, true, true, true, true, true, true, true, true, true, true, true, true, true, true, true, true, true, true, true, false, false, false, false] rfl rfl (by kernel_rfl) (fun _ _ _ h => h) (Or.inr ⟨by rfl, rfl⟩) ?_ ?_
      rotate_left
      ·simp only [Act.put, List.setIfInBounds_toArray, List.set_cons_zero, List.set_cons_succ, i64_w, i32_w]
       rfl
      refine pure_ (i := 25) (N := some 51) (v := undef) (a' := ?_) #[true, true, true, true, true, true, true, true, true, true, true, true, true, true, true, true, true, true, true, true, true, true, true, true, true, true, false, false, false] rfl rfl (by kernel_rfl) (fun _ _ _ h => h) (Or.inr ⟨by rfl, rfl⟩) ?_ ?_
      rotate_left
      ·simp only [Act.put, List.setIfInBounds_toArray, List.set_cons_zero, List.set_cons_succ, i64_w, i32_w]
       rfl
      refine pure_ (i := 26) (N := some 52) (v := undef) (a' := ?_) #[true, true, true, true, true, true, true, true, true, true, true, true, true, true, true, true, true, true, true, true, true, true, true, true, true, true, true, false, false] rfl rfl (by kernel_rfl) (fun _ _ _ h => h) (Or.inr ⟨by rfl, rfl⟩) ?_ ?_
      rotate_left
      ·simp only [Act.put, List.setIfInBounds_toArray, List.set_cons_zero, List.set_cons_succ, i64_w, i32_w]
       rfl
      refine pure_ (i := 27) (N := some 53) (v := ?_) (a' := ?_) #[true, true, true, true, true, true, true, true, true, true, true, true, true, true, true, true, true, true, true, true, true, true, true, true, true, true, true, true, false] rfl rfl (by kernel_rfl) (fun _ _ _ h => h) (Or.inl ⟨by rfl, ?_⟩) ?_ ?_
      rotate_left
      ·intro w'
       go_simp
       with_reducible rfl
      rotate_left
      ·simp only [Act.put, List.setIfInBounds_toArray, List.set_cons_zero, List.set_cons_succ, i64_w, i32_w]
       rfl
      refine pure_ (i := 28) (N := some 54) (v := ?_) (a' := ?_) #[true, true, true, true, true, true, true, true, true, true, true, true, true, true, true, true, true, true, true, true, true, true, true, true, true, true, true, true, true] rfl rfl (by kernel_rfl) (fun _ _ _ h => h) (Or.inl ⟨by rfl, ?_⟩) ?_ ?_
      rotate_left
      ·intro w'
       go_simp
       with_reducible rfl
      rotate_left
      ·simp only [Act.put, List.setIfInBounds_toArray, List.set_cons_zero, List.set_cons_succ, i64_w, i32_w]
       rfl
      refine done_ (by kernel_rfl) ?_
      clear fx hHeld l_BN q_BN_0 q_BN_1 q_BN_2 q_BN_3 q_BN_4 l_BM q_BM_0 q_BM_1 q_BM_2 q_BM_3 q_BM_4 l_BK q_BK_0 q_BK_1 q_BK_2 q_BK_3 q_BK_4
      replace HT := Lib.hid (HT.out.below hbR)
      replace HR3 := Lib.hid (Kd.C_below HR3.out hbR)
      replace HR4 := Lib.hid (Kd.C_below HR4.out hbR)
      replace HQ3 := Lib.hid (Kd.C_below HQ3.out hbR)
      replace HQ4 := Lib.hid (Kd.C_below HQ4.out hbR)
      replace HS3 := Lib.hid (Kd.C_below HS3.out hbR)
      replace HS4 := Lib.hid (Kd.C_below HS4.out hbR)
      replace HB := Lib.hid (below_step HB.out hbR)
      replace BN := Lib.hid (blk_below BN.out hbR)
      replace BM := Lib.hid (blk_below BM.out hbR)
      replace BK := Lib.hid (blk_below BK.out hbR)
      clear hbR
      have l_BN : w.heap.size < w9.heap.size := blk_lt BN.out
      have q_BN_0 : w9.cell? ⟨w.heap.size, 0, none⟩ = some (.int .i64 x0) := (blk_cell BN.out 0).trans rfl
      have q_BN_1 : w9.cell? ⟨w.heap.size, 1, none⟩ = some (.int .i64 x1) := (blk_cell BN.out 1).trans rfl
      have q_BN_2 : w9.cell? ⟨w.heap.size, 2, none⟩ = some (.int .i64 x2) := (blk_cell BN.out 2).trans rfl
      have q_BN_3 : w9.cell? ⟨w.heap.size, 3, none⟩ = some (.slice A3 l3.length c3) := (blk_cell BN.out 3).trans rfl
      have q_BN_4 : w9.cell? ⟨w.heap.size, 4, none⟩ = some (.slice A4 l4.length c4) := (blk_cell BN.out 4).trans rfl
      go_upto_region 6 with fail
      clear l_BN q_BN_0 q_BN_1 q_BN_2 q_BN_3 q_BN_4
      refine wp_at (fun W1 hW => ?_)
      have BT0 : Hid (W1.heap[w9.heap.size]? = some (.cells #[.int .i64 x0, .int .i64 x1, .int .i64 x2, .slice A3 l3.length c3, .slice A4 l4.length c4] 25 (0, 0))) := Lib.hid (by rw [hW]; exact heap_alloc_new _ _)
      have hb81 : Below w9.heap.size w9 W1 := by rw [hW]; exact (Below.refl _ _).alloc (Nat.le_refl _) _
      clear hW
      have q_s4 : W1.cell? ⟨w.heap.size, 4, none⟩ = some (.slice A4 l4.length c4) := (blk_cell (blk_below BN.out hb81) 4).trans rfl
      have q_m0 : W1.cell? ⟨w.heap.size + 1, 0, none⟩ = some (.int .i64 y0) := (blk_cell (blk_below BM.out hb81) 0).trans rfl
      have q_m1 : W1.cell? ⟨w.heap.size + 1, 1, none⟩ = some (.int .i64 y1) := (blk_cell (blk_below BM.out hb81) 1).trans rfl
      have q_m2 : W1.cell? ⟨w.heap.size + 1, 2, none⟩ = some (.int .i64 y2) := (blk_cell (blk_below BM.out hb81) 2).trans rfl
      have q_m3 : W1.cell? ⟨w.heap.size + 1, 3, none⟩ = some (.slice F3 m3.length f3) := (blk_cell (blk_below BM.out hb81) 3).trans rfl
      have q_m4 : W1.cell? ⟨w.heap.size + 1, 4, none⟩ = some (.slice F4 m4.length f4) := (blk_cell (blk_below BM.out hb81) 4).trans rfl
      obtain ⟨rowsN, hRK, hRC⟩ := rows_of_C HR4.out
      have hrl : rowsN.length = l4.length := hRK.1
      refine start_ (n := 9) (S := fun w' => w'.cell? ⟨w.heap.size, 4, none⟩ = some (.slice A4 l4.length c4) ∧ w'.cell? ⟨w.heap.size + 1, 0, none⟩ = some (.int .i64 y0) ∧ w'.cell? ⟨w.heap.size + 1, 1, none⟩ = some (.int .i64 y1) ∧ w'.cell? ⟨w.heap.size + 1, 2, none⟩ = some (.int .i64 y2) ∧ w'.cell? ⟨w.heap.size + 1, 3, none⟩ = some (.slice F3 m3.length f3) ∧ w'.cell? ⟨w.heap.size + 1, 4, none⟩ = some (.slice F4 m4.length f4)) (ds := [8]) #[false, false, false, false, false, false, false, false, false] (by kernel_rfl) rfl rfl ⟨q_s4, q_m0, q_m1, q_m2, q_m3, q_m4⟩ (fun hHeld => ?_)
      obtain ⟨wd, hwd⟩ : ∃ W, W = W1.drew := ⟨_, rfl⟩
      rw [← hwd] at hHeld ⊢
      have hb1d : Below W1.heap.size W1 wd := by rw [hwd]; exact (Below.refl _ _).drew
      clear hwd q_s4 q_m0 q_m1 q_m2 q_m3 q_m4
      have hb8d : Below w9.heap.size w9 wd := hb81.trans (hb1d.mono hb81.size)
      have BT_ := Lib.hid (blk_below BT0.out hb1d)
      have HC4 := Lib.hid (Kd.C_below hRC hb8d)
      have HRK := Lib.hid hRK
      clear hRC hRK BT0
      have hHd := hHeld
      obtain ⟨qd_s4, qd_m0, qd_m1, qd_m2, qd_m3, qd_m4⟩ := hHd
      have l_src : w.heap.size < wd.heap.size := blk_lt (blk_below BN.out hb8d)
      have l_more : w.heap.size + 1 < wd.heap.size := blk_lt (blk_below BM.out hb8d)
      refine pure_ (i := 1) (N := some 57) (v := ?_) (a' := ?_) #[false, true, false, false, false, false, false, false, false] rfl rfl (by kernel_rfl) (fun _ _ _ h => h) (Or.inl ⟨by rfl, ?_⟩) ?_ ?_
      rotate_left
      ·intro w'
       go_simp
       with_reducible rfl
      rotate_left
      ·simp only [Act.put, List.setIfInBounds_toArray, List.set_cons_zero, List.set_cons_succ, i64_w, i32_w]
       rfl
      refine take_ (i := 2) (N := some 58) (v := ?_) (a' := ?_) #[false, true, true, false, false, false, false, false, false] rfl rfl (by kernel_rfl) (fun _ _ _ h => h) (Or.inl ⟨by rfl, ?_⟩) hHeld ?_ ?_
      rotate_left
      ·rintro w' ⟨s0, s1, s2, s3, s4, s5⟩
       go_simp
       with_reducible rfl
      rotate_left
      ·simp only [Act.put, List.setIfInBounds_toArray, List.set_cons_zero, List.set_cons_succ, i64_w, i32_w]
       rfl
      refine take_ (i := 4) (N := some 60) (v := ?_) (a' := ?_) #[false, true, true, false, true, false, false, false, false] rfl rfl (by kernel_rfl) (fun _ _ _ h => h) (Or.inl ⟨by rfl, ?_⟩) hHeld ?_ ?_
      rotate_left
      ·rintro w' ⟨s0, s1, s2, s3, s4, s5⟩
       go_simp
       with_reducible rfl
      rotate_left
      ·simp only [Act.put, List.setIfInBounds_toArray, List.set_cons_zero, List.set_cons_succ, i64_w, i32_w]
       rfl
      refine join_ (σ := Value × Value × Value) 3 #[true, true, true, true, true, true, false, false, false] (fun s_ => [(56, s_.1), (59, s_.2.1), (61, s_.2.2)]) (fun s_ w' => (w'.cell? ⟨w.heap.size, 4, none⟩ = some (.slice A4 l4.length c4) ∧ w'.cell? ⟨w.heap.size + 1, 0, none⟩ = some (.int .i64 y0) ∧ w'.cell? ⟨w.heap.size + 1, 1, none⟩ = some (.int .i64 y1) ∧ w'.cell? ⟨w.heap.size + 1, 2, none⟩ = some (.int .i64 y2) ∧ w'.cell? ⟨w.heap.size + 1, 3, none⟩ = some (.slice F3 m3.length f3) ∧ w'.cell? ⟨w.heap.size + 1, 4, none⟩ = some (.slice F4 m4.length f4)) ∧ Below wd.heap.size wd w' ∧ Hid ((Kd.raw 5).R 25 w' wd.heap.size (fun _ => True) s_.2.1 ([] ++ rowsN)) ∧ Hid ((Kd.raw 5).R 25 w' wd.heap.size (fun _ => True) s_.2.2 [[.int .i64 y0, .int .i64 y1, .int .i64 y2, .slice F3 m3.length f3, .slice F4 m4.length f4]])) ?_ ?_
      rotate_left
      ·intro hCont
       refine two_ (i := 0) (j := 5) (Ni := some 56) (Nj := some 61) #[true, true, true, false, true, false, false, false, false] #[false, true, true, false, true, true, false, false, false] rfl rfl rfl rfl (by kernel_rfl) (by decide) (by decide) (fun K hK => ?_) (fun K hK => ?_)
       ·skip
        refine Kd.R_lit_step (Kd.raw 5) (w0 := wd) wd.heap.size 25 ?hg (N := 56) ?hd (xs := []) (inner := []) (ok := fun _ => True) (okp := fun _ => False) ?hr ?hp (fun _ hk => hk.elim) trivial (Below.refl _ _) (Nat.le_refl _) (by simp) ?_; (case hd => rfl); (case hg => rfl); (case hr => first | (go_simp; done) | (go_simp; rfl)); (case hp => exact (Reps.none _ _))
        intro v0 we0 ho hb hg hnew
        have H0 := Lib.hid ho
        have n_hb := hb
        have hbd := n_hb
        clear n_hb hb ho hg
        refine hK.out _ _ ⟨(hbd.cell (p := ⟨w.heap.size, 4, none⟩) l_src).trans qd_s4, (hbd.cell (p := ⟨w.heap.size + 1, 0, none⟩) l_more).trans qd_m0, (hbd.cell (p := ⟨w.heap.size + 1, 1, none⟩) l_more).trans qd_m1, (hbd.cell (p := ⟨w.heap.size + 1, 2, none⟩) l_more).trans qd_m2, (hbd.cell (p := ⟨w.heap.size + 1, 3, none⟩) l_more).trans qd_m3, (hbd.cell (p := ⟨w.heap.size + 1, 4, none⟩) l_more).trans qd_m4⟩ (fun hHeld => ?_)
        clear hK K
        refine norm_ (a' := ?_) ?_ ?_
        rotate_left
        ·show Act.put _ (some 56) _ = _
         simp only [Act.put, List.setIfInBounds_toArray, List.set_cons_zero, List.set_cons_succ, i64_w, i32_w]
         rfl
        refine two_ (i := 3) (j := 5) (Ni := some 59) (Nj := some 61) #[true, true, true, true, true, false, false, false, false] #[true, true, true, false, true, true, false, false, false] rfl rfl rfl rfl (by kernel_rfl) (by decide) (by decide) (fun K hK => ?_) (fun K hK => ?_)
        ·skip
         refine Kd.R_append_rows_step (Kd.raw 5) (Rr := Kd.K (Kd.raw 5) wd) (w0 := wd) wd.heap.size (by rfl) (.tmp 56) (.tmp 58) 23 25 (.agg #[(.int .i64 0), (.int .i64 0), (.int .i64 0), (.slice none 0 0), (.slice none 0 0)]) 72 rfl Tryd.underlying23 info25 rfl (by decide) (by omega) v0 [] rowsN _ _ _ (fun _ => True) (fun _ => False) rfl rfl ?aO ?aR (fun _ _ h => h) (fun _ h => h.elim) (fun _ _ => trivial) ?aB ?aS ?aL ?_
         (case aO => exact H0.out)
         (case aR => exact Kd.C_below HC4.out hbd)
         (case aB => exact hbd)
         (case aS => exact hbd.size)
         (case aL => have := HL4.out; simp only [List.length_nil]; omega)
         intro v3 we1 ho hb hg hat
         have H3 := Lib.hid ho
         have n_hb := hb
         clear hbd
         have hbd := n_hb
         clear n_hb hb ho hg
         refine hK.out _ _ ⟨(hbd.cell (p := ⟨w.heap.size, 4, none⟩) l_src).trans qd_s4, (hbd.cell (p := ⟨w.heap.size + 1, 0, none⟩) l_more).trans qd_m0, (hbd.cell (p := ⟨w.heap.size + 1, 1, none⟩) l_more).trans qd_m1, (hbd.cell (p := ⟨w.heap.size + 1, 2, none⟩) l_more).trans qd_m2, (hbd.cell (p := ⟨w.heap.size + 1, 3, none⟩) l_more).trans qd_m3, (hbd.cell (p := ⟨w.heap.size + 1, 4, none⟩) l_more).trans qd_m4⟩ (fun hHeld => ?_)
         clear hK K
         refine norm_ (a' := ?_) ?_ ?_
         rotate_left
         ·show Act.put _ (some 59) _ = _
          simp only [Act.put, List.setIfInBounds_toArray, List.set_cons_zero, List.set_cons_succ, i64_w, i32_w]
          rfl
         refine one_ (i := 5) (N := some 61) #[true, true, true, true, true, true, false, false, false] rfl rfl (by kernel_rfl) (by decide) (fun K hK => ?_)
         refine Kd.R_lit_step (Kd.raw 5) (w0 := wd) wd.heap.size 25 ?hg (N := 61) ?hd (xs := [[.int .i64 y0, .int .i64 y1, .int .i64 y2, .slice F3 m3.length f3, .slice F4 m4.length f4]]) (inner := [.int .i64 y0, .int .i64 y1, .int .i64 y2, .slice F3 m3.length f3, .slice F4 m4.length f4]) (ok := fun _ => True) (okp := fun _ => False) ?hr ?hp (fun _ hk => hk.elim) trivial hbd hbd.size (by simp) ?_; (case hd => rfl); (case hg => rfl); (case hr => first | (go_simp; done) | (go_simp; rfl)); (case hp => exact (Reps.c5 (show Kd.M (Kd.raw 5) _ _ _ [.int .i64 y0, .int .i64 y1, .int .i64 y2, .slice F3 m3.length f3, .slice F4 m4.length f4] [.int .i64 y0, .int .i64 y1, .int .i64 y2, .slice F3 m3.length f3, .slice F4 m4.length f4] from raw_M rfl (by simp [Value.oneCell'])) (Reps.none _ _)))
         intro v5 we2 ho hb hg hnew
         replace H3 := Lib.hid (raw_kept H3.out hg (fun k _ h => by cases h))
         have H5 := Lib.hid ho
         have n_hb := hb
         clear hbd
         have hbd := n_hb
         clear n_hb hb ho hg
         refine hK.out _ _ ⟨(hbd.cell (p := ⟨w.heap.size, 4, none⟩) l_src).trans qd_s4, (hbd.cell (p := ⟨w.heap.size + 1, 0, none⟩) l_more).trans qd_m0, (hbd.cell (p := ⟨w.heap.size + 1, 1, none⟩) l_more).trans qd_m1, (hbd.cell (p := ⟨w.heap.size + 1, 2, none⟩) l_more).trans qd_m2, (hbd.cell (p := ⟨w.heap.size + 1, 3, none⟩) l_more).trans qd_m3, (hbd.cell (p := ⟨w.heap.size + 1, 4, none⟩) l_more).trans qd_m4⟩ (fun hHeld => ?_)
         clear hK K
         refine norm_ (a' := ?_) ?_ ?_
         rotate_left
         ·show Act.put _ (some 61) _ = _
          simp only [Act.put, List.setIfInBounds_toArray, List.set_cons_zero, List.set_cons_succ, i64_w, i32_w]
          rfl
         exact norm_ (by simp only [putAll, Act.put, List.setIfInBounds_toArray, List.set_cons_zero, List.set_cons_succ]) (hCont (v0, v3, v5) _ ⟨⟨(hbd.cell (p := ⟨w.heap.size, 4, none⟩) l_src).trans qd_s4, (hbd.cell (p := ⟨w.heap.size + 1, 0, none⟩) l_more).trans qd_m0, (hbd.cell (p := ⟨w.heap.size + 1, 1, none⟩) l_more).trans qd_m1, (hbd.cell (p := ⟨w.heap.size + 1, 2, none⟩) l_more).trans qd_m2, (hbd.cell (p := ⟨w.heap.size + 1, 3, none⟩) l_more).trans qd_m3, (hbd.cell (p := ⟨w.heap.size + 1, 4, none⟩) l_more).trans qd_m4⟩, hbd, H3, H5⟩)
        ·skip
         refine Kd.R_lit_step (Kd.raw 5) (w0 := wd) wd.heap.size 25 ?hg (N := 61) ?hd (xs := [[.int .i64 y0, .int .i64 y1, .int .i64 y2, .slice F3 m3.length f3, .slice F4 m4.length f4]]) (inner := [.int .i64 y0, .int .i64 y1, .int .i64 y2, .slice F3 m3.length f3, .slice F4 m4.length f4]) (ok := fun _ => True) (okp := fun _ => False) ?hr ?hp (fun _ hk => hk.elim) trivial hbd hbd.size (by simp) ?_; (case hd => rfl); (case hg => rfl); (case hr => first | (go_simp; done) | (go_simp; rfl)); (case hp => exact (Reps.c5 (show Kd.M (Kd.raw 5) _ _ _ [.int .i64 y0, .int .i64 y1, .int .i64 y2, .slice F3 m3.length f3, .slice F4 m4.length f4] [.int .i64 y0, .int .i64 y1, .int .i64 y2, .slice F3 m3.length f3, .slice F4 m4.length f4] from raw_M rfl (by simp [Value.oneCell'])) (Reps.none _ _)))
         intro v5 we1 ho hb hg hnew
         have D05 : Hid (∀ k, v5.ownBlock = some k → v0.ownBlock ≠ some k) := fun k hk he => by obtain ⟨b, e_, hle⟩ := hnew; rw [e_] at hk; have := (raw_block H0.out he).2; injection hk with hk; omega
         replace H0 := Lib.hid (raw_kept H0.out hg (fun k _ h => by cases h))
         have H5 := Lib.hid ho
         have n_hb := hb
         clear hbd
         have hbd := n_hb
         clear n_hb hb ho hg
         refine hK.out _ _ ⟨(hbd.cell (p := ⟨w.heap.size, 4, none⟩) l_src).trans qd_s4, (hbd.cell (p := ⟨w.heap.size + 1, 0, none⟩) l_more).trans qd_m0, (hbd.cell (p := ⟨w.heap.size + 1, 1, none⟩) l_more).trans qd_m1, (hbd.cell (p := ⟨w.heap.size + 1, 2, none⟩) l_more).trans qd_m2, (hbd.cell (p := ⟨w.heap.size + 1, 3, none⟩) l_more).trans qd_m3, (hbd.cell (p := ⟨w.heap.size + 1, 4, none⟩) l_more).trans qd_m4⟩ (fun hHeld => ?_)
         clear hK K
         refine norm_ (a' := ?_) ?_ ?_
         rotate_left
         ·show Act.put _ (some 61) _ = _
          simp only [Act.put, List.setIfInBounds_toArray, List.set_cons_zero, List.set_cons_succ, i64_w, i32_w]
          rfl
         refine one_ (i := 3) (N := some 59) #[true, true, true, true, true, true, false, false, false] rfl rfl (by kernel_rfl) (by decide) (fun K hK => ?_)
         refine Kd.R_append_rows_step (Kd.raw 5) (Rr := Kd.K (Kd.raw 5) wd) (w0 := wd) wd.heap.size (by rfl) (.tmp 56) (.tmp 58) 23 25 (.agg #[(.int .i64 0), (.int .i64 0), (.int .i64 0), (.slice none 0 0), (.slice none 0 0)]) 72 rfl Tryd.underlying23 info25 rfl (by decide) (by omega) v0 [] rowsN _ _ _ (fun _ => True) (fun _ => False) rfl rfl ?aO ?aR (fun _ _ h => h) (fun _ h => h.elim) (fun _ _ => trivial) ?aB ?aS ?aL ?_
         (case aO => exact H0.out)
         (case aR => exact Kd.C_below HC4.out hbd)
         (case aB => exact hbd)
         (case aS => exact hbd.size)
         (case aL => have := HL4.out; simp only [List.length_nil]; omega)
         intro v3 we2 ho hb hg hat
         replace H5 := Lib.hid (raw_kept H5.out hg (fun k hk => D05.out k hk))
         have H3 := Lib.hid ho
         have n_hb := hb
         clear hbd
         have hbd := n_hb
         clear n_hb hb ho hg
         refine hK.out _ _ ⟨(hbd.cell (p := ⟨w.heap.size, 4, none⟩) l_src).trans qd_s4, (hbd.cell (p := ⟨w.heap.size + 1, 0, none⟩) l_more).trans qd_m0, (hbd.cell (p := ⟨w.heap.size + 1, 1, none⟩) l_more).trans qd_m1, (hbd.cell (p := ⟨w.heap.size + 1, 2, none⟩) l_more).trans qd_m2, (hbd.cell (p := ⟨w.heap.size + 1, 3, none⟩) l_more).trans qd_m3, (hbd.cell (p := ⟨w.heap.size + 1, 4, none⟩) l_more).trans qd_m4⟩ (fun hHeld => ?_)
         clear hK K
         refine norm_ (a' := ?_) ?_ ?_
         rotate_left
         ·show Act.put _ (some 59) _ = _
          simp only [Act.put, List.setIfInBounds_toArray, List.set_cons_zero, List.set_cons_succ, i64_w, i32_w]
          rfl
         exact norm_ (by simp only [putAll, Act.put, List.setIfInBounds_toArray, List.set_cons_zero, List.set_cons_succ]) (hCont (v0, v3, v5) _ ⟨⟨(hbd.cell (p := ⟨w.heap.size, 4, none⟩) l_src).trans qd_s4, (hbd.cell (p := ⟨w.heap.size + 1, 0, none⟩) l_more).trans qd_m0, (hbd.cell (p := ⟨w.heap.size + 1, 1, none⟩) l_more).trans qd_m1, (hbd.cell (p := ⟨w.heap.size + 1, 2, none⟩) l_more).trans qd_m2, (hbd.cell (p := ⟨w.heap.size + 1, 3, none⟩) l_more).trans qd_m3, (hbd.cell (p := ⟨w.heap.size + 1, 4, none⟩) l_more).trans qd_m4⟩, hbd, H3, H5⟩)
       ·skip
        refine Kd.R_lit_step (Kd.raw 5) (w0 := wd) wd.heap.size 25 ?hg (N := 61) ?hd (xs := [[.int .i64 y0, .int .i64 y1, .int .i64 y2, .slice F3 m3.length f3, .slice F4 m4.length f4]]) (inner := [.int .i64 y0, .int .i64 y1, .int .i64 y2, .slice F3 m3.length f3, .slice F4 m4.length f4]) (ok := fun _ => True) (okp := fun _ => False) ?hr ?hp (fun _ hk => hk.elim) trivial (Below.refl _ _) (Nat.le_refl _) (by simp) ?_; (case hd => rfl); (case hg => rfl); (case hr => first | (go_simp; done) | (go_simp; rfl)); (case hp => exact (Reps.c5 (show Kd.M (Kd.raw 5) _ _ _ [.int .i64 y0, .int .i64 y1, .int .i64 y2, .slice F3 m3.length f3, .slice F4 m4.length f4] [.int .i64 y0, .int .i64 y1, .int .i64 y2, .slice F3 m3.length f3, .slice F4 m4.length f4] from raw_M rfl (by simp [Value.oneCell'])) (Reps.none _ _)))
        intro v5 we0 ho hb hg hnew
        have H5 := Lib.hid ho
        have n_hb := hb
        have hbd := n_hb
        clear n_hb hb ho hg
        refine hK.out _ _ ⟨(hbd.cell (p := ⟨w.heap.size, 4, none⟩) l_src).trans qd_s4, (hbd.cell (p := ⟨w.heap.size + 1, 0, none⟩) l_more).trans qd_m0, (hbd.cell (p := ⟨w.heap.size + 1, 1, none⟩) l_more).trans qd_m1, (hbd.cell (p := ⟨w.heap.size + 1, 2, none⟩) l_more).trans qd_m2, (hbd.cell (p := ⟨w.heap.size + 1, 3, none⟩) l_more).trans qd_m3, (hbd.cell (p := ⟨w.heap.size + 1, 4, none⟩) l_more).trans qd_m4⟩ (fun hHeld => ?_)
        clear hK K
        refine norm_ (a' := ?_) ?_ ?_
        rotate_left
        ·show Act.put _ (some 61) _ = _
         simp only [Act.put, List.setIfInBounds_toArray, List.set_cons_zero, List.set_cons_succ, i64_w, i32_w]
         rfl
        refine one_ (i := 0) (N := some 56) #[true, true, true, false, true, true, false, false, false] rfl rfl (by kernel_rfl) (by decide) (fun K hK => ?_)
        refine Kd.R_lit_step (Kd.raw 5) (w0 := wd) wd.heap.size 25 ?hg (N := 56) ?hd (xs := []) (inner := []) (ok := fun _ => True) (okp := fun _ => False) ?hr ?hp (fun _ hk => hk.elim) trivial hbd hbd.size (by simp) ?_; (case hd => rfl); (case hg => rfl); (case hr => first | (go_simp; done) | (go_simp; rfl)); (case hp => exact (Reps.none _ _))
        intro v0 we1 ho hb hg hnew
        have D05 : Hid (∀ k, v5.ownBlock = some k → v0.ownBlock ≠ some k) := fun k hk he => by obtain ⟨b, e_, hle⟩ := hnew; rw [e_] at he; have := (raw_block H5.out hk).2; injection he with he; omega
        replace H5 := Lib.hid (raw_kept H5.out hg (fun k _ h => by cases h))
        have H0 := Lib.hid ho
        have n_hb := hb
        clear hbd
        have hbd := n_hb
        clear n_hb hb ho hg
        refine hK.out _ _ ⟨(hbd.cell (p := ⟨w.heap.size, 4, none⟩) l_src).trans qd_s4, (hbd.cell (p := ⟨w.heap.size + 1, 0, none⟩) l_more).trans qd_m0, (hbd.cell (p := ⟨w.heap.size + 1, 1, none⟩) l_more).trans qd_m1, (hbd.cell (p := ⟨w.heap.size + 1, 2, none⟩) l_more).trans qd_m2, (hbd.cell (p := ⟨w.heap.size + 1, 3, none⟩) l_more).trans qd_m3, (hbd.cell (p := ⟨w.heap.size + 1, 4, none⟩) l_more).trans qd_m4⟩ (fun hHeld => ?_)
        clear hK K
        refine norm_ (a' := ?_) ?_ ?_
        rotate_left
        ·show Act.put _ (some 56) _ = _
         simp only [Act.put, List.setIfInBounds_toArray, List.set_cons_zero, List.set_cons_succ, i64_w, i32_w]
         rfl
        refine one_ (i := 3) (N := some 59) #[true, true, true, true, true, true, false, false, false] rfl rfl (by kernel_rfl) (by decide) (fun K hK => ?_)
        refine Kd.R_append_rows_step (Kd.raw 5) (Rr := Kd.K (Kd.raw 5) wd) (w0 := wd) wd.heap.size (by rfl) (.tmp 56) (.tmp 58) 23 25 (.agg #[(.int .i64 0), (.int .i64 0), (.int .i64 0), (.slice none 0 0), (.slice none 0 0)]) 72 rfl Tryd.underlying23 info25 rfl (by decide) (by omega) v0 [] rowsN _ _ _ (fun _ => True) (fun _ => False) rfl rfl ?aO ?aR (fun _ _ h => h) (fun _ h => h.elim) (fun _ _ => trivial) ?aB ?aS ?aL ?_
        (case aO => exact H0.out)
        (case aR => exact Kd.C_below HC4.out hbd)
        (case aB => exact hbd)
        (case aS => exact hbd.size)
        (case aL => have := HL4.out; simp only [List.length_nil]; omega)
        intro v3 we2 ho hb hg hat
        replace H5 := Lib.hid (raw_kept H5.out hg (fun k hk => D05.out k hk))
        have H3 := Lib.hid ho
        have n_hb := hb
        clear hbd
        have hbd := n_hb
        clear n_hb hb ho hg
        refine hK.out _ _ ⟨(hbd.cell (p := ⟨w.heap.size, 4, none⟩) l_src).trans qd_s4, (hbd.cell (p := ⟨w.heap.size + 1, 0, none⟩) l_more).trans qd_m0, (hbd.cell (p := ⟨w.heap.size + 1, 1, none⟩) l_more).trans qd_m1, (hbd.cell (p := ⟨w.heap.size + 1, 2, none⟩) l_more).trans qd_m2, (hbd.cell (p := ⟨w.heap.size + 1, 3, none⟩) l_more).trans qd_m3, (hbd.cell (p := ⟨w.heap.size + 1, 4, none⟩) l_more).trans qd_m4⟩ (fun hHeld => ?_)
        clear hK K
        refine norm_ (a' := ?_) ?_ ?_
        rotate_left
        ·show Act.put _ (some 59) _ = _
         simp only [Act.put, List.setIfInBounds_toArray, List.set_cons_zero, List.set_cons_succ, i64_w, i32_w]
         rfl
        exact norm_ (by simp only [putAll, Act.put, List.setIfInBounds_toArray, List.set_cons_zero, List.set_cons_succ]) (hCont (v0, v3, v5) _ ⟨⟨(hbd.cell (p := ⟨w.heap.size, 4, none⟩) l_src).trans qd_s4, (hbd.cell (p := ⟨w.heap.size + 1, 0, none⟩) l_more).trans qd_m0, (hbd.cell (p := ⟨w.heap.size + 1, 1, none⟩) l_more).trans qd_m1, (hbd.cell (p := ⟨w.heap.size + 1, 2, none⟩) l_more).trans qd_m2, (hbd.cell (p := ⟨w.heap.size + 1, 3, none⟩) l_more).trans qd_m3, (hbd.cell (p := ⟨w.heap.size + 1, 4, none⟩) l_more).trans qd_m4⟩, hbd, H3, H5⟩)
      rintro ⟨v0, v3, v5⟩ wj ⟨hS_, hbj, H3, H5⟩
      have hHeld : wj.cell? ⟨w.heap.size, 4, none⟩ = some (.slice A4 l4.length c4) ∧ wj.cell? ⟨w.heap.size + 1, 0, none⟩ = some (.int .i64 y0) ∧ wj.cell? ⟨w.heap.size + 1, 1, none⟩ = some (.int .i64 y1) ∧ wj.cell? ⟨w.heap.size + 1, 2, none⟩ = some (.int .i64 y2) ∧ wj.cell? ⟨w.heap.size + 1, 3, none⟩ = some (.slice F3 m3.length f3) ∧ wj.cell? ⟨w.heap.size + 1, 4, none⟩ = some (.slice F4 m4.length f4) := hS_
      clear hS_
      obtain ⟨A5, c5, rfl, _, hC5⟩ := Kd.R_reads H5.out
      have HC5 := Lib.hid hC5
      clear hC5 H5
      refine norm_ (a' := ?_) ?_ ?_
      rotate_left
      ·simp only [putAll, Act.put, List.setIfInBounds_toArray, List.set_cons_zero, List.set_cons_succ]
       rfl
      refine one_ (i := 6) (N := some 62) #[true, true, true, true, true, true, true, false, false] rfl rfl (by kernel_rfl) (by decide) (fun K hK => ?_)
      refine Kd.R_append_rows_step (Kd.raw 5) (Rr := Kd.K (Kd.raw 5) wj) (w0 := wd) wd.heap.size (by rfl) (.tmp 59) (.tmp 61) 23 25 (.agg #[(.int .i64 0), (.int .i64 0), (.int .i64 0), (.slice none 0 0), (.slice none 0 0)]) 72 rfl Tryd.underlying23 info25 rfl (by decide) (by omega) v3 ([] ++ rowsN) [[.int .i64 y0, .int .i64 y1, .int .i64 y2, .slice F3 m3.length f3, .slice F4 m4.length f4]] _ _ _ (fun _ => True) (fun _ => False) rfl rfl ?aO ?aR (fun _ _ h => h) (fun _ h => h.elim) (fun _ _ => trivial) ?aB ?aS ?aL ?_
      (case aO => exact H3.out)
      (case aR => exact HC5.out)
      (case aB => exact hbj)
      (case aS => exact hbj.size)
      (case aL => have := HL4.out; simp only [List.nil_append, List.length_singleton]; omega)
      intro v6 wk ho hb hg hat
      have H6 := Lib.hid ho
      have hbk := hb
      clear ho hb hg hat H3 HC5
      refine hK.out _ _ ⟨(hbk.cell (p := ⟨w.heap.size, 4, none⟩) l_src).trans qd_s4, (hbk.cell (p := ⟨w.heap.size + 1, 0, none⟩) l_more).trans qd_m0, (hbk.cell (p := ⟨w.heap.size + 1, 1, none⟩) l_more).trans qd_m1, (hbk.cell (p := ⟨w.heap.size + 1, 2, none⟩) l_more).trans qd_m2, (hbk.cell (p := ⟨w.heap.size + 1, 3, none⟩) l_more).trans qd_m3, (hbk.cell (p := ⟨w.heap.size + 1, 4, none⟩) l_more).trans qd_m4⟩ (fun hHeld => ?_)
      clear hK K
      refine norm_ (a' := ?_) ?_ ?_
      rotate_left
      ·show Act.put _ (some 62) _ = _
       simp only [Act.put, List.setIfInBounds_toArray, List.set_cons_zero, List.set_cons_succ, i64_w, i32_w]
       rfl
      refine pure_ (i := 7) (N := some 63) (v := ?_) (a' := ?_) #[true, true, true, true, true, true, true, true, false] rfl rfl (by kernel_rfl) (fun _ _ _ h => h) (Or.inl ⟨by rfl, ?_⟩) ?_ ?_
      rotate_left
      ·intro w'
       go_simp
       with_reducible rfl
      rotate_left
      ·simp only [Act.put, List.setIfInBounds_toArray, List.set_cons_zero, List.set_cons_succ, i64_w, i32_w]
       rfl
      refine last_ (i := 8) (N := none) #[true, true, true, true, true, true, true, true, true] rfl rfl (by kernel_rfl) (by decide) (fun K hK => ?_)
      have BT6 := blk_below BT_.out hbk
      have lt6 := blk_lt BT6
      have qt6 : wk.cell? ⟨w9.heap.size, 4, none⟩ = some (.slice A4 l4.length c4) := (blk_cell BT6 4).trans rfl
      have ft6 := blk_frozen BT6 4
      clear BT6
      obtain ⟨A6, c6, rfl, hl6, hC6⟩ := Kd.R_reads H6.out
      clear hC6
      refine skip_ (w1 := ?_) (by rfl) rfl ?_ ?_
      rotate_left
      ·go_simp
       rfl
      refine hK.out _ _ ?_
      clear hK K
      refine done_ (by kernel_rfl) ?_
      obtain ⟨Y4, hL⟩ : ∃ L, l4 ++ [⟨y0, y1, y2, m3, m4⟩] = L := ⟨_, rfl⟩
      have hLL : l4.length + 1 = Y4.length := by rw [← hL]; simp
      rw [hLL]
      obtain ⟨wf, hwf⟩ : ∃ W, W = wk.setCell ⟨w9.heap.size, 4, none⟩ (.slice A6 Y4.length c6) := ⟨_, rfl⟩
      rw [← hwf]
      have hb8f : Below w9.heap.size w9 wf := by rw [hwf]; exact (hb8d.trans (hbk.mono hb8d.size)).setCell (p := ⟨w9.heap.size, 4, none⟩) (Nat.le_refl _) _
      have hBX : wf.heap[w9.heap.size]? = some (.cells #[.int .i64 x0, .int .i64 x1, .int .i64 x2, .slice A3 l3.length c3, .slice A6 Y4.length c6] 25 (0, 0)) := by rw [hwf]; exact blk_put (blk_below BT_.out hbk) 4 _ rfl
      have hR6 := raw_far (u := .slice A6 Y4.length c6) H6.out (p := ⟨w9.heap.size, 4, none⟩) (Nat.lt_of_lt_of_le (blk_lt BT_.out) (Nat.le_refl _))
      rw [← hwf] at hR6
      have hC6 := (Kd.R_reads' hR6).2.2
      have hrk := ((RowsK.nil k25 w9).append HRK.out).append (RowsK.one (k25_mk w9 ⟨y0, y1, y2, m3, m4⟩ hd3 HQ3.out hd4 HQ4.out))
      rw [List.nil_append, hL] at hrk
      have hCx := C_of_rows hC6 (hrk.below hb8f)
      rw [show List.length (([] : List (List Value)) ++ rowsN ++ [([.int .i64 y0, .int .i64 y1, .int .i64 y2, .slice F3 m3.length f3, .slice F4 m4.length f4] : List Value)]) = Y4.length by rw [← hLL]; simp [hrl]] at hCx
      have hcL : Y4.length ≤ c6 := by have := hl6; rw [← hLL]; simpa [hrl] using this
      have HLd := Lib.hid hL
      have HX4 := Lib.hid hCx
      clear hCx hC6 hrk hR6 hwf H6 BT_ HRK HC4 hHeld qt6 ft6 lt6 qd_s4 qd_m0 qd_m1 qd_m2 qd_m3 qd_m4 l_src l_more hl6 hL
      replace HT := Lib.hid (HT.out.below hb8f)
      replace HR3 := Lib.hid (Kd.C_below HR3.out hb8f)
      replace HR4 := Lib.hid (Kd.C_below HR4.out hb8f)
      replace HQ3 := Lib.hid (Kd.C_below HQ3.out hb8f)
      replace HQ4 := Lib.hid (Kd.C_below HQ4.out hb8f)
      replace HS3 := Lib.hid (Kd.C_below HS3.out hb8f)
      replace HS4 := Lib.hid (Kd.C_below HS4.out hb8f)
      replace HB := Lib.hid (below_step HB.out hb8f)
      replace BN := Lib.hid (blk_below BN.out hb8f)
      replace BM := Lib.hid (blk_below BM.out hb8f)
      replace BK := Lib.hid (blk_below BK.out hb8f)
      have BX := Lib.hid hBX
      clear hBX hb8f hbk hbj hb8d hb1d hb81
      have t1 := HE1.out; have t2 := HE2.out
      rw [HLd.out] at t1 t2
      replace HE1 := Lib.hid t1; replace HE2 := Lib.hid t2
      clear t1 t2
      have l_BN : w.heap.size < wf.heap.size := blk_lt BN.out
      have q_BN_0 : wf.cell? ⟨w.heap.size, 0, none⟩ = some (.int .i64 x0) := (blk_cell BN.out 0).trans rfl
      have q_BN_1 : wf.cell? ⟨w.heap.size, 1, none⟩ = some (.int .i64 x1) := (blk_cell BN.out 1).trans rfl
      have q_BN_2 : wf.cell? ⟨w.heap.size, 2, none⟩ = some (.int .i64 x2) := (blk_cell BN.out 2).trans rfl
      have q_BN_3 : wf.cell? ⟨w.heap.size, 3, none⟩ = some (.slice A3 l3.length c3) := (blk_cell BN.out 3).trans rfl
      have q_BN_4 : wf.cell? ⟨w.heap.size, 4, none⟩ = some (.slice A4 l4.length c4) := (blk_cell BN.out 4).trans rfl
      have l_BX : w9.heap.size < wf.heap.size := blk_lt BX.out
      have q_BX_0 : wf.cell? ⟨w9.heap.size, 0, none⟩ = some (.int .i64 x0) := (blk_cell BX.out 0).trans rfl
      have q_BX_1 : wf.cell? ⟨w9.heap.size, 1, none⟩ = some (.int .i64 x1) := (blk_cell BX.out 1).trans rfl
      have q_BX_2 : wf.cell? ⟨w9.heap.size, 2, none⟩ = some (.int .i64 x2) := (blk_cell BX.out 2).trans rfl
      have q_BX_3 : wf.cell? ⟨w9.heap.size, 3, none⟩ = some (.slice A3 l3.length c3) := (blk_cell BX.out 3).trans rfl
      have q_BX_4 : wf.cell? ⟨w9.heap.size, 4, none⟩ = some (.slice A6 Y4.length c6) := (blk_cell BX.out 4).trans rfl
      go_wp2_with fail
      clear l_BN q_BN_0 q_BN_1 q_BN_2 q_BN_3 q_BN_4 l_BX q_BX_0 q_BX_1 q_BX_2 q_BX_3 q_BX_4
      refine (node_Equal.calls 0 x0 x1 x2 A3 c3 l3 A4 c4 l4 x0 x1 x2 A3 c3 l3 A6 c6 Y4 false _ HR3.out hc3 HR4.out hc4 HR3.out hc3 HX4.out hcL HE1.out).mono ?_
      rintro e w10 ⟨rfl, hb⟩
      replace HT := Lib.hid (HT.out.below hb)
      replace HR3 := Lib.hid (Kd.C_below HR3.out hb)
      replace HR4 := Lib.hid (Kd.C_below HR4.out hb)
      replace HQ3 := Lib.hid (Kd.C_below HQ3.out hb)
      replace HQ4 := Lib.hid (Kd.C_below HQ4.out hb)
      replace HS3 := Lib.hid (Kd.C_below HS3.out hb)
      replace HS4 := Lib.hid (Kd.C_below HS4.out hb)
      replace HB := Lib.hid (below_step HB.out hb)
      replace HX4 := Lib.hid (Kd.C_below HX4.out hb)
      replace BN := Lib.hid (blk_below BN.out hb)
      replace BM := Lib.hid (blk_below BM.out hb)
      replace BK := Lib.hid (blk_below BK.out hb)
      replace BX := Lib.hid (blk_below BX.out hb)
      clear hb
      have l_BN : w.heap.size < w10.heap.size := blk_lt BN.out
      have q_BN_0 : w10.cell? ⟨w.heap.size, 0, none⟩ = some (.int .i64 x0) := (blk_cell BN.out 0).trans rfl
      have q_BN_1 : w10.cell? ⟨w.heap.size, 1, none⟩ = some (.int .i64 x1) := (blk_cell BN.out 1).trans rfl
      have q_BN_2 : w10.cell? ⟨w.heap.size, 2, none⟩ = some (.int .i64 x2) := (blk_cell BN.out 2).trans rfl
      have q_BN_3 : w10.cell? ⟨w.heap.size, 3, none⟩ = some (.slice A3 l3.length c3) := (blk_cell BN.out 3).trans rfl
      have q_BN_4 : w10.cell? ⟨w.heap.size, 4, none⟩ = some (.slice A4 l4.length c4) := (blk_cell BN.out 4).trans rfl
      have l_BX : w9.heap.size < w10.heap.size := blk_lt BX.out
      have q_BX_0 : w10.cell? ⟨w9.heap.size, 0, none⟩ = some (.int .i64 x0) := (blk_cell BX.out 0).trans rfl
      have q_BX_1 : w10.cell? ⟨w9.heap.size, 1, none⟩ = some (.int .i64 x1) := (blk_cell BX.out 1).trans rfl
      have q_BX_2 : w10.cell? ⟨w9.heap.size, 2, none⟩ = some (.int .i64 x2) := (blk_cell BX.out 2).trans rfl
      have q_BX_3 : w10.cell? ⟨w9.heap.size, 3, none⟩ = some (.slice A3 l3.length c3) := (blk_cell BX.out 3).trans rfl
      have q_BX_4 : w10.cell? ⟨w9.heap.size, 4, none⟩ = some (.slice A6 Y4.length c6) := (blk_cell BX.out 4).trans rfl
      go_wp2_with fail
      clear l_BN q_BN_0 q_BN_1 q_BN_2 q_BN_3 q_BN_4 l_BX q_BX_0 q_BX_1 q_BX_2 q_BX_3 q_BX_4
      refine (node_Equal.calls 0 x0 x1 x2 A3 c3 l3 A6 c6 Y4 x0 x1 x2 A3 c3 l3 A4 c4 l4 false _ HR3.out hc3 HX4.out hcL HR3.out hc3 HR4.out hc4 HE2.out).mono ?_
      rintro e w11 ⟨rfl, hb⟩
      replace HT := Lib.hid (HT.out.below hb)
      replace HR3 := Lib.hid (Kd.C_below HR3.out hb)
      replace HR4 := Lib.hid (Kd.C_below HR4.out hb)
      replace HQ3 := Lib.hid (Kd.C_below HQ3.out hb)
      replace HQ4 := Lib.hid (Kd.C_below HQ4.out hb)
      replace HS3 := Lib.hid (Kd.C_below HS3.out hb)
      replace HS4 := Lib.hid (Kd.C_below HS4.out hb)
      replace HB := Lib.hid (below_step HB.out hb)
      replace HX4 := Lib.hid (Kd.C_below HX4.out hb)
      replace BN := Lib.hid (blk_below BN.out hb)
      replace BM := Lib.hid (blk_below BM.out hb)
      replace BK := Lib.hid (blk_below BK.out hb)
      replace BX := Lib.hid (blk_below BX.out hb)
      clear hb
      have l_BN : w.heap.size < w11.heap.size := blk_lt BN.out
      have q_BN_0 : w11.cell? ⟨w.heap.size, 0, none⟩ = some (.int .i64 x0) := (blk_cell BN.out 0).trans rfl
      have q_BN_1 : w11.cell? ⟨w.heap.size, 1, none⟩ = some (.int .i64 x1) := (blk_cell BN.out 1).trans rfl
      have q_BN_2 : w11.cell? ⟨w.heap.size, 2, none⟩ = some (.int .i64 x2) := (blk_cell BN.out 2).trans rfl
      have q_BN_3 : w11.cell? ⟨w.heap.size, 3, none⟩ = some (.slice A3 l3.length c3) := (blk_cell BN.out 3).trans rfl
      have q_BN_4 : w11.cell? ⟨w.heap.size, 4, none⟩ = some (.slice A4 l4.length c4) := (blk_cell BN.out 4).trans rfl
      have l_BM : w.heap.size + 1 < w11.heap.size := blk_lt BM.out
      have q_BM_0 : w11.cell? ⟨w.heap.size + 1, 0, none⟩ = some (.int .i64 y0) := (blk_cell BM.out 0).trans rfl
      have q_BM_1 : w11.cell? ⟨w.heap.size + 1, 1, none⟩ = some (.int .i64 y1) := (blk_cell BM.out 1).trans rfl
      have q_BM_2 : w11.cell? ⟨w.heap.size + 1, 2, none⟩ = some (.int .i64 y2) := (blk_cell BM.out 2).trans rfl
      have q_BM_3 : w11.cell? ⟨w.heap.size + 1, 3, none⟩ = some (.slice F3 m3.length f3) := (blk_cell BM.out 3).trans rfl
      have q_BM_4 : w11.cell? ⟨w.heap.size + 1, 4, none⟩ = some (.slice F4 m4.length f4) := (blk_cell BM.out 4).trans rfl
      go_wp2_with fail
      clear l_BN q_BN_0 q_BN_1 q_BN_2 q_BN_3 q_BN_4 l_BM q_BM_0 q_BM_1 q_BM_2 q_BM_3 q_BM_4
      refine (node_Equal.calls 0 x0 x1 x2 A3 c3 l3 A4 c4 l4 y0 y1 y2 F3 f3 m3 F4 f4 m4 true _ HR3.out hc3 HR4.out hc4 HQ3.out hd3 HQ4.out hd4 HAB.out).mono ?_
      rintro e w12 ⟨rfl, hb⟩
      replace HT := Lib.hid (HT.out.below hb)
      replace HR3 := Lib.hid (Kd.C_below HR3.out hb)
      replace HR4 := Lib.hid (Kd.C_below HR4.out hb)
      replace HQ3 := Lib.hid (Kd.C_below HQ3.out hb)
      replace HQ4 := Lib.hid (Kd.C_below HQ4.out hb)
      replace HS3 := Lib.hid (Kd.C_below HS3.out hb)
      replace HS4 := Lib.hid (Kd.C_below HS4.out hb)
      replace HB := Lib.hid (below_step HB.out hb)
      replace HX4 := Lib.hid (Kd.C_below HX4.out hb)
      replace BN := Lib.hid (blk_below BN.out hb)
      replace BM := Lib.hid (blk_below BM.out hb)
      replace BK := Lib.hid (blk_below BK.out hb)
      replace BX := Lib.hid (blk_below BX.out hb)
      clear hb
      go_upto_region 11 with fail
      cases hv : tvalid ⟨x0, x1, x2, l3, l4⟩ with
      | false =>
       have HVA : Hid (node_Valid.f 0 x0 x1 x2 l3 l4 = some false) := Lib.hid (val_f false hok hv)
       have HVB : Hid (node_Valid.f 0 y0 y1 y2 m3 m4 = some false) := Lib.hid (val_f false hok2 (by rw [← HE.out]; exact hv))
       clear hv
       have l_BN : w.heap.size < w12.heap.size := blk_lt BN.out
       have q_BN_0 : w12.cell? ⟨w.heap.size, 0, none⟩ = some (.int .i64 x0) := (blk_cell BN.out 0).trans rfl
       have q_BN_1 : w12.cell? ⟨w.heap.size, 1, none⟩ = some (.int .i64 x1) := (blk_cell BN.out 1).trans rfl
       have q_BN_2 : w12.cell? ⟨w.heap.size, 2, none⟩ = some (.int .i64 x2) := (blk_cell BN.out 2).trans rfl
       have q_BN_3 : w12.cell? ⟨w.heap.size, 3, none⟩ = some (.slice A3 l3.length c3) := (blk_cell BN.out 3).trans rfl
       have q_BN_4 : w12.cell? ⟨w.heap.size, 4, none⟩ = some (.slice A4 l4.length c4) := (blk_cell BN.out 4).trans rfl
       have l_BM : w.heap.size + 1 < w12.heap.size := blk_lt BM.out
       have q_BM_0 : w12.cell? ⟨w.heap.size + 1, 0, none⟩ = some (.int .i64 y0) := (blk_cell BM.out 0).trans rfl
       have q_BM_1 : w12.cell? ⟨w.heap.size + 1, 1, none⟩ = some (.int .i64 y1) := (blk_cell BM.out 1).trans rfl
       have q_BM_2 : w12.cell? ⟨w.heap.size + 1, 2, none⟩ = some (.int .i64 y2) := (blk_cell BM.out 2).trans rfl
       have q_BM_3 : w12.cell? ⟨w.heap.size + 1, 3, none⟩ = some (.slice F3 m3.length f3) := (blk_cell BM.out 3).trans rfl
       have q_BM_4 : w12.cell? ⟨w.heap.size + 1, 4, none⟩ = some (.slice F4 m4.length f4) := (blk_cell BM.out 4).trans rfl
       have fx : ∀ W' : World, Below w12.heap.size w12 W' → (W'.cell? ⟨w.heap.size, 0, none⟩ = some (.int .i64 x0) ∧ W'.cell? ⟨w.heap.size, 1, none⟩ = some (.int .i64 x1) ∧ W'.cell? ⟨w.heap.size, 2, none⟩ = some (.int .i64 x2) ∧ W'.cell? ⟨w.heap.size, 3, none⟩ = some (.slice A3 l3.length c3) ∧ W'.cell? ⟨w.heap.size, 4, none⟩ = some (.slice A4 l4.length c4) ∧ W'.cell? ⟨w.heap.size + 1, 0, none⟩ = some (.int .i64 y0) ∧ W'.cell? ⟨w.heap.size + 1, 1, none⟩ = some (.int .i64 y1) ∧ W'.cell? ⟨w.heap.size + 1, 2, none⟩ = some (.int .i64 y2) ∧ W'.cell? ⟨w.heap.size + 1, 3, none⟩ = some (.slice F3 m3.length f3) ∧ W'.cell? ⟨w.heap.size + 1, 4, none⟩ = some (.slice F4 m4.length f4)) := fun W' hbR => ⟨(hbR.cell (p := ⟨w.heap.size, 0, none⟩) l_BN).trans q_BN_0, (hbR.cell (p := ⟨w.heap.size, 1, none⟩) l_BN).trans q_BN_1, (hbR.cell (p := ⟨w.heap.size, 2, none⟩) l_BN).trans q_BN_2, (hbR.cell (p := ⟨w.heap.size, 3, none⟩) l_BN).trans q_BN_3, (hbR.cell (p := ⟨w.heap.size, 4, none⟩) l_BN).trans q_BN_4, (hbR.cell (p := ⟨w.heap.size + 1, 0, none⟩) l_BM).trans q_BM_0, (hbR.cell (p := ⟨w.heap.size + 1, 1, none⟩) l_BM).trans q_BM_1, (hbR.cell (p := ⟨w.heap.size + 1, 2, none⟩) l_BM).trans q_BM_2, (hbR.cell (p := ⟨w.heap.size + 1, 3, none⟩) l_BM).trans q_BM_3, (hbR.cell (p := ⟨w.heap.size + 1, 4, none⟩) l_BM).trans q_BM_4⟩
       refine start_ (n := 25) (S := fun w' => w'.cell? ⟨w.heap.size, 0, none⟩ = some (.int .i64 x0) ∧ w'.cell? ⟨w.heap.size, 1, none⟩ = some (.int .i64 x1) ∧ w'.cell? ⟨w.heap.size, 2, none⟩ = some (.int .i64 x2) ∧ w'.cell? ⟨w.heap.size, 3, none⟩ = some (.slice A3 l3.length c3) ∧ w'.cell? ⟨w.heap.size, 4, none⟩ = some (.slice A4 l4.length c4) ∧ w'.cell? ⟨w.heap.size + 1, 0, none⟩ = some (.int .i64 y0) ∧ w'.cell? ⟨w.heap.size + 1, 1, none⟩ = some (.int .i64 y1) ∧ w'.cell? ⟨w.heap.size + 1, 2, none⟩ = some (.int .i64 y2) ∧ w'.cell? ⟨w.heap.size + 1, 3, none⟩ = some (.slice F3 m3.length f3) ∧ w'.cell? ⟨w.heap.size + 1, 4, none⟩ = some (.slice F4 m4.length f4)) (ds := []) #[false, false, false, false, false, false, false, false, false, false, false, false, false, false, false, false, false, false, false, false, false, false, false, false, false] (by kernel_rfl) rfl rfl ⟨q_BN_0, q_BN_1, q_BN_2, q_BN_3, q_BN_4, q_BM_0, q_BM_1, q_BM_2, q_BM_3, q_BM_4⟩ (fun hHeld => ?_)
       obtain ⟨wd, hwd⟩ : ∃ W, W = w12.drew := ⟨_, rfl⟩
       rw [← hwd] at hHeld ⊢
       have hbR : Below w12.heap.size w12 wd := by rw [hwd]; exact (Below.refl _ _).drew
       clear hwd
       refine take_ (i := 0) (N := some 76) (v := ?_) (a' := ?_) #[true, false, false, false, false, false, false, false, false, false, false, false, false, false, false, false, false, false, false, false, false, false, false, false, false] rfl rfl (by kernel_rfl) (fun _ _ _ h => h) (Or.inl ⟨by rfl, ?_⟩) hHeld ?_ ?_
       rotate_left
       ·rintro w' ⟨s0, s1, s2, s3, s4, s5, s6, s7, s8, s9⟩
        go_simp
        with_reducible rfl
       rotate_left
       ·simp only [Act.put, List.setIfInBounds_toArray, List.set_cons_zero, List.set_cons_succ, i64_w, i32_w]
        rfl
       refine take_ (i := 2) (N := some 78) (v := ?_) (a' := ?_) #[true, false, true, false, false, false, false, false, false, false, false, false, false, false, false, false, false, false, false, false, false, false, false, false, false] rfl rfl (by kernel_rfl) (fun _ _ _ h => h) (Or.inl ⟨by rfl, ?_⟩) hHeld ?_ ?_
       rotate_left
       ·rintro w' ⟨s0, s1, s2, s3, s4, s5, s6, s7, s8, s9⟩
        go_simp
        with_reducible rfl
       rotate_left
       ·simp only [Act.put, List.setIfInBounds_toArray, List.set_cons_zero, List.set_cons_succ, i64_w, i32_w]
        rfl
       refine one_ (i := 1) (N := some 77) #[true, true, true, false, false, false, false, false, false, false, false, false, false, false, false, false, false, false, false, false, false, false, false, false, false] rfl rfl (by kernel_rfl) (by decide) (fun K hK => ?_)
       refine goes_ Tryd.func10 (by kernel_rfl) rfl #[.agg #[.int .i64 x0, .int .i64 x1, .int .i64 x2, .slice A3 l3.length c3, .slice A4 l4.length c4]] (by rfl) rfl rfl (by simp only [List.map_toArray, List.map_cons, List.map_nil]; rfl) ?_
       with_reducible refine (node_Valid.calls 0 x0 x1 x2 A3 c3 l3 A4 c4 l4 false _ (Kd.C_below HR3.out hbR) hc3 (Kd.C_below HR4.out hbR) hc4 HVA.out (HT.out.below hbR)).mono ?_
       rintro e w13 ⟨rfl, hb⟩
       refine ⟨_, rfl, ?_⟩
       replace hbR := hbR.trans (hb.mono hbR.size)
       clear hb
       refine hK.out _ _ (fx _ hbR) (fun hHeld => ?_)
       clear hK K
       refine norm_ (a' := ?_) ?_ ?_
       rotate_left
       ·show Act.put _ (some 77) _ = _
        simp only [Act.put, List.setIfInBounds_toArray, List.set_cons_zero, List.set_cons_succ, i64_w, i32_w]
        rfl
       refine one_ (i := 3) (N := some 79) #[true, true, true, true, false, false, false, false, false, false, false, false, false, false, false, false, false, false, false, false, false, false, false, false, false] rfl rfl (by kernel_rfl) (by decide) (fun K hK => ?_)
       refine goes_ Tryd.func10 (by kernel_rfl) rfl #[.agg #[.int .i64 y0, .int .i64 y1, .int .i64 y2, .slice F3 m3.length f3, .slice F4 m4.length f4]] (by rfl) rfl rfl (by simp only [List.map_toArray, List.map_cons, List.map_nil]; rfl) ?_
       with_reducible refine (node_Valid.calls 0 y0 y1 y2 F3 f3 m3 F4 f4 m4 false _ (Kd.C_below HQ3.out hbR) hd3 (Kd.C_below HQ4.out hbR) hd4 HVB.out (HT.out.below hbR)).mono ?_
       rintro e w14 ⟨rfl, hb⟩
       refine ⟨_, rfl, ?_⟩
       replace hbR := hbR.trans (hb.mono hbR.size)
       clear hb
       refine hK.out _ _ (fx _ hbR) (fun hHeld => ?_)
       clear hK K
       refine norm_ (a' := ?_) ?_ ?_
       rotate_left
       ·show Act.put _ (some 79) _ = _
        simp only [Act.put, List.setIfInBounds_toArray, List.set_cons_zero, List.set_cons_succ, i64_w, i32_w]
        rfl
       refine pure_ (i := 4) (N := some 80) (v := ?_) (a' := ?_) #[true, true, true, true, true, false, false, false, false, false, false, false, false, false, false, false, false, false, false, false, false, false, false, false, false] rfl rfl (by kernel_rfl) (fun _ _ _ h => h) (Or.inl ⟨by rfl, ?_⟩) ?_ ?_
       rotate_left
       ·intro w'
        go_simp
        with_reducible rfl
       rotate_left
       ·simp only [Act.put, List.setIfInBounds_toArray, List.set_cons_zero, List.set_cons_succ, i64_w, i32_w]
        rfl
       refine pure_ (i := 5) (N := some 81) (v := ?_) (a' := ?_) #[true, true, true, true, true, true, false, false, false, false, false, false, false, false, false, false, false, false, false, false, false, false, false, false, false] rfl rfl (by kernel_rfl) (fun _ _ _ h => h) (Or.inl ⟨by rfl, ?_⟩) ?_ ?_
       rotate_left
       ·intro w'
        go_simp
        with_reducible rfl
       rotate_left
       ·simp only [Act.put, List.setIfInBounds_toArray, List.set_cons_zero, List.set_cons_succ, i64_w, i32_w]
        rfl
       refine take_ (i := 6) (N := some 82) (v := ?_) (a' := ?_) #[true, true, true, true, true, true, true, false, false, false, false, false, false, false, false, false, false, false, false, false, false, false, false, false, false] rfl rfl (by kernel_rfl) (fun _ _ _ h => h) (Or.inl ⟨by rfl, ?_⟩) hHeld ?_ ?_
       rotate_left
       ·rintro w' ⟨s0, s1, s2, s3, s4, s5, s6, s7, s8, s9⟩
        go_simp
        with_reducible rfl
       rotate_left
       ·simp only [Act.put, List.setIfInBounds_toArray, List.set_cons_zero, List.set_cons_succ, i64_w, i32_w]
        rfl
       refine one_ (i := 7) (N := some 83) #[true, true, true, true, true, true, true, true, false, false, false, false, false, false, false, false, false, false, false, false, false, false, false, false, false] rfl rfl (by kernel_rfl) (by decide) (fun K hK => ?_)
       refine goes_ Tryd.func10 (by kernel_rfl) rfl #[.agg #[.int .i64 x0, .int .i64 x1, .int .i64 x2, .slice A3 l3.length c3, .slice A4 l4.length c4]] (by rfl) rfl rfl (by simp only [List.map_toArray, List.map_cons, List.map_nil]; rfl) ?_
       with_reducible refine (node_Valid.calls 0 x0 x1 x2 A3 c3 l3 A4 c4 l4 false _ (Kd.C_below HR3.out hbR) hc3 (Kd.C_below HR4.out hbR) hc4 HVA.out (HT.out.below hbR)).mono ?_
       rintro e w15 ⟨rfl, hb⟩
       refine ⟨_, rfl, ?_⟩
       replace hbR := hbR.trans (hb.mono hbR.size)
       clear hb
       refine hK.out _ _ (fx _ hbR) (fun hHeld => ?_)
       clear hK K
       refine norm_ (a' := ?_) ?_ ?_
       rotate_left
       ·show Act.put _ (some 83) _ = _
        simp only [Act.put, List.setIfInBounds_toArray, List.set_cons_zero, List.set_cons_succ, i64_w, i32_w]
        rfl
       refine pure_ (i := 8) (N := some 84) (v := ?_) (a' := ?_) #[true, true, true, true, true, true, true, true, true, false, false, false, false, false, false, false, false, false, false, false, false, false, false, false, false] rfl rfl (by kernel_rfl) (fun _ _ _ h => h) (Or.inl ⟨by rfl, ?_⟩) ?_ ?_
       rotate_left
       ·intro w'
        go_simp
        with_reducible rfl
       rotate_left
       ·simp only [Act.put, List.setIfInBounds_toArray, List.set_cons_zero, List.set_cons_succ, i64_w, i32_w]
        rfl
       refine pure_ (i := 9) (N := some 85) (v := ?_) (a' := ?_) #[true, true, true, true, true, true, true, true, true, true, false, false, false, false, false, false, false, false, false, false, false, false, false, false, false] rfl rfl (by kernel_rfl) (fun _ _ _ h => h) (Or.inl ⟨by rfl, ?_⟩) ?_ ?_
       rotate_left
       ·intro w'
        go_simp
        with_reducible rfl
       rotate_left
       ·simp only [Act.put, List.setIfInBounds_toArray, List.set_cons_zero, List.set_cons_succ, i64_w, i32_w]
        rfl
       refine pure_ (i := 10) (N := some 86) (v := undef) (a' := ?_) #[true, true, true, true, true, true, true, true, true, true, true, false, false, false, false, false, false, false, false, false, false, false, false, false, false] rfl rfl (by kernel_rfl) (fun _ _ _ h => h) (Or.inr ⟨by rfl, rfl⟩) ?_ ?_
       rotate_left
       ·simp only [Act.put, List.setIfInBounds_toArray, List.set_cons_zero, List.set_cons_succ, i64_w, i32_w]
        rfl
       refine pure_ (i := 11) (N := some 87) (v := undef) (a' := ?_) #[true, true, true, true, true, true, true, true, true, true, true, true, false, false, false, false, false, false, false, false, false, false, false, false, false] rfl rfl (by kernel_rfl) (fun _ _ _ h => h) (Or.inr ⟨by rfl, rfl⟩) ?_ ?_
       rotate_left
       ·simp only [Act.put, List.setIfInBounds_toArray, List.set_cons_zero, List.set_cons_succ, i64_w, i32_w]
        rfl
       refine pure_ (i := 12) (N := some 88) (v := undef) (a' := ?_) #[true, true, true, true, true, true, true, true, true, true, true, true, true, false, false, false, false, false, false, false, false, false, false, false, false] rfl rfl (by kernel_rfl) (fun _ _ _ h => h) (Or.inr ⟨by rfl, rfl⟩) ?_ ?_
       rotate_left
       ·simp only [Act.put, List.setIfInBounds_toArray, List.set_cons_zero, List.set_cons_succ, i64_w, i32_w]
        rfl
       refine pure_ (i := 13) (N := some 89) (v := undef) (a' := ?_) #[true, true, true, true, true, true, true, true, true, true, true, true, true, true, false, false, false, false, false, false, false, false, false, false, false] rfl rfl (by kernel_rfl) (fun _ _ _ h => h) (Or.inr ⟨by rfl, rfl⟩) ?_ ?_
       rotate_left
       ·simp only [Act.put, List.setIfInBounds_toArray, List.set_cons_zero, List.set_cons_succ, i64_w, i32_w]
        rfl
       refine pure_ (i := 14) (N := some 90) (v := undef) (a' := ?_) #[true, true, true, true, true, true, true, true, true, true, true, true, true, true, true, false, false, false, false, false, false, false, false, false, false] rfl rfl (by kernel_rfl) (fun _ _ _ h => h) (Or.inr ⟨by rfl, rfl⟩) ?_ ?_
       rotate_left
       ·simp only [Act.put, List.setIfInBounds_toArray, List.set_cons_zero, List.set_cons_succ, i64_w, i32_w]
        rfl
       refine pure_ (i := 15) (N := some 91) (v := undef) (a' := ?_) #[true, true, true, true, true, true, true, true, true, true, true, true, true, true, true, true, false, false, false, false, false, false, false, false, false] rfl rfl (by kernel_rfl) (fun _ _ _ h => h) (Or.inr ⟨by rfl, rfl⟩) ?_ ?_
       rotate_left
       ·simp only [Act.put, List.setIfInBounds_toArray, List.set_cons_zero, List.set_cons_succ, i64_w, i32_w]
        rfl
       refine pure_ (i := 16) (N := some 92) (v := undef) (a' := ?_) #[true, true, true, true, true, true, true, true, true, true, true, true, true, true, true, true, true, false, false, false, false, false, false, false, false] rfl rfl (by kernel_rfl) (fun _ _ _ h => h) (Or.inr ⟨by rfl, rfl⟩) ?_ ?_
       rotate_left
       ·simp only [Act.put, List.setIfInBounds_toArray, List.set_cons_zero, List.set_cons_succ, i64_w, i32_w]
        rfl
       refine pure_ (i := 17) (N := some 93) (v := undef) (a' := ?_) #[true, true, true, true, true, true, true, true, true, true, true, true, true, true, true, true, true, true, false, false, false, false, false, false, false] rfl rfl (by kernel_rfl) (fun _ _ _ h => h) (Or.inr ⟨by rfl, rfl⟩) ?_ ?_
       rotate_left
       ·simp only [Act.put, List.setIfInBounds_toArray, List.set_cons_zero, List.set_cons_succ, i64_w, i32_w]
        rfl
       refine pure_ (i := 18) (N := some 94) (v := undef) (a' := ?_) #[true, true, true, true, true, true, true, true, true, true, true, true, true, true, true, true, true, true, true, false, false, false, false, false, false] rfl rfl (by kernel_rfl) (fun _ _ _ h => h) (Or.inr ⟨by rfl, rfl⟩) ?_ ?_
       rotate_left
       ·simp only [Act.put, List.setIfInBounds_toArray, List.set_cons_zero, List.set_cons_succ, i64_w, i32_w]
        rfl
       refine pure_ (i := 19) (N := some 95) (v := undef) (a' := ?_) #[true, true, true, true, true, true, true, true, true, true, true, true, true, true, true, true, true, true, true, true, false, false, false, false, false] rfl rfl (by kernel_rfl) (fun _ _ _ h => h) (Or.inr ⟨by rfl, rfl⟩) ?_ ?_
       rotate_left
       ·simp only [Act.put, List.setIfInBounds_toArray, List.set_cons_zero, List.set_cons_succ, i64_w, i32_w]
        rfl
       refine pure_ (i := 20) (N := some 96) (v := undef) (a' := ?_) #[true, true, true, true, true, true, true, true, true, true, true, true, true, true, true, true, true, true, true, true, true, false, false, false, false] rfl rfl (by kernel_rfl) (fun _ _ _ h => h) (Or.inr ⟨by rfl, rfl⟩) ?_ ?_
       rotate_left
       ·simp only [Act.put, List.setIfInBounds_toArray, List.set_cons_zero, List.set_cons_succ, i64_w, i32_w]
        rfl
       refine pure_ (i := 21) (N := some 97) (v := undef) (a' := ?_) #[true, true, true, true, true, true, true, true, true, true, true, true, true, true, true, true, true, true, true, true, true, true, false, false, false] rfl rfl (by kernel_rfl) (fun _ _ _ h => h) (Or.inr ⟨by rfl, rfl⟩) ?_ ?_
       rotate_left
       ·simp only [Act.put, List.setIfInBounds_toArray, List.set_cons_zero, List.set_cons_succ, i64_w, i32_w]
        rfl
       refine pure_ (i := 22) (N := some 98) (v := ?_) (a' := ?_) #[true, true, true, true, true, true, true, true, true, true, true, true, true, true, true, true, true, true, true, true, true, true, true, false, false] rfl rfl (by kernel_rfl) (fun _ _ _ h => h) (Or.inl ⟨by rfl, ?_⟩) ?_ ?_
       rotate_left
       ·intro w'
        go_simp
        with_reducible rfl
       rotate_left
       ·simp only [Act.put, List.setIfInBounds_toArray, List.set_cons_zero, List.set_cons_succ, i64_w, i32_w]
        rfl
       refine pure_ (i := 23) (N := some 99) (v := ?_) (a' := ?_) #[true, true, true, true, true, true, true, true, true, true, true, true, true, true, true, true, true, true, true, true, true, true, true, true, false] rfl rfl (by kernel_rfl) (fun _ _ _ h => h) (Or.inl ⟨by rfl, ?_⟩) ?_ ?_
       rotate_left
       ·intro w'
        go_simp
        with_reducible rfl
       rotate_left
       ·simp only [Act.put, List.setIfInBounds_toArray, List.set_cons_zero, List.set_cons_succ, i64_w, i32_w]
        rfl
       refine pure_ (i := 24) (N := some 6) (v := ?_) (a' := ?_) #[true, true, true, true, true, true, true, true, true, true, true, true, true, true, true, true, true, true, true, true, true, true, true, true, true] rfl rfl (by kernel_rfl) (fun _ _ _ h => h) (Or.inl ⟨by rfl, ?_⟩) ?_ ?_
       rotate_left
       ·intro w'
        go_simp
        with_reducible rfl
       rotate_left
       ·simp only [Act.put, List.setIfInBounds_toArray, List.set_cons_zero, List.set_cons_succ, i64_w, i32_w]
        rfl
       refine done_ (by kernel_rfl) ?_
       clear fx hHeld l_BN q_BN_0 q_BN_1 q_BN_2 q_BN_3 q_BN_4 l_BM q_BM_0 q_BM_1 q_BM_2 q_BM_3 q_BM_4
       replace HT := Lib.hid (HT.out.below hbR)
       replace HR3 := Lib.hid (Kd.C_below HR3.out hbR)
       replace HR4 := Lib.hid (Kd.C_below HR4.out hbR)
       replace HQ3 := Lib.hid (Kd.C_below HQ3.out hbR)
       replace HQ4 := Lib.hid (Kd.C_below HQ4.out hbR)
       replace HS3 := Lib.hid (Kd.C_below HS3.out hbR)
       replace HS4 := Lib.hid (Kd.C_below HS4.out hbR)
       replace HB := Lib.hid (below_step HB.out hbR)
       replace HX4 := Lib.hid (Kd.C_below HX4.out hbR)
       replace BN := Lib.hid (blk_below BN.out hbR)
       replace BM := Lib.hid (blk_below BM.out hbR)
       replace BK := Lib.hid (blk_below BK.out hbR)
       replace BX := Lib.hid (blk_below BX.out hbR)
       clear hbR
       go_wp2
       go_ret
       exact ⟨by simp, HB.out⟩
      | true =>
       have HVA : Hid (node_Valid.f 0 x0 x1 x2 l3 l4 = some true) := Lib.hid (val_f true hok hv)
       have HVB : Hid (node_Valid.f 0 y0 y1 y2 m3 m4 = some true) := Lib.hid (val_f true hok2 (by rw [← HE.out]; exact hv))
       obtain ⟨D, hD⟩ : ∃ D : Int, (tdepth ⟨x0, x1, x2, l3, l4⟩ : Int) = D := ⟨_, rfl⟩
       obtain ⟨O, hO⟩ : ∃ O : Int, (tobjs ⟨x0, x1, x2, l3, l4⟩ : Int) = O := ⟨_, rfl⟩
       have HDA : Hid (node_Depth.f 0 x0 x1 x2 l3 l4 = some D) := Lib.hid (dep_g D hv HS62.out hD)
       have HDB : Hid (node_Depth.f 0 y0 y1 y2 m3 m4 = some D) := Lib.hid (dep_g D (by rw [← HE.out]; exact hv) (by rw [← HE.out]; exact HS62.out) (by rw [← HE.out]; exact hD))
       have HOA : Hid (node_Objects.f 0 x0 x1 x2 l3 l4 = some O) := Lib.hid (obj_g O hv HS62.out hO)
       have HOB : Hid (node_Objects.f 0 y0 y1 y2 m3 m4 = some O) := Lib.hid (obj_g O (by rw [← HE.out]; exact hv) (by rw [← HE.out]; exact HS62.out) (by rw [← HE.out]; exact hO))
       clear hD hO
       clear hv
       have l_BN : w.heap.size < w12.heap.size := blk_lt BN.out
       have q_BN_0 : w12.cell? ⟨w.heap.size, 0, none⟩ = some (.int .i64 x0) := (blk_cell BN.out 0).trans rfl
       have q_BN_1 : w12.cell? ⟨w.heap.size, 1, none⟩ = some (.int .i64 x1) := (blk_cell BN.out 1).trans rfl
       have q_BN_2 : w12.cell? ⟨w.heap.size, 2, none⟩ = some (.int .i64 x2) := (blk_cell BN.out 2).trans rfl
       have q_BN_3 : w12.cell? ⟨w.heap.size, 3, none⟩ = some (.slice A3 l3.length c3) := (blk_cell BN.out 3).trans rfl
       have q_BN_4 : w12.cell? ⟨w.heap.size, 4, none⟩ = some (.slice A4 l4.length c4) := (blk_cell BN.out 4).trans rfl
       have l_BM : w.heap.size + 1 < w12.heap.size := blk_lt BM.out
       have q_BM_0 : w12.cell? ⟨w.heap.size + 1, 0, none⟩ = some (.int .i64 y0) := (blk_cell BM.out 0).trans rfl
       have q_BM_1 : w12.cell? ⟨w.heap.size + 1, 1, none⟩ = some (.int .i64 y1) := (blk_cell BM.out 1).trans rfl
       have q_BM_2 : w12.cell? ⟨w.heap.size + 1, 2, none⟩ = some (.int .i64 y2) := (blk_cell BM.out 2).trans rfl
       have q_BM_3 : w12.cell? ⟨w.heap.size + 1, 3, none⟩ = some (.slice F3 m3.length f3) := (blk_cell BM.out 3).trans rfl
       have q_BM_4 : w12.cell? ⟨w.heap.size + 1, 4, none⟩ = some (.slice F4 m4.length f4) := (blk_cell BM.out 4).trans rfl
       have fx : ∀ W' : World, Below w12.heap.size w12 W' → (W'.cell? ⟨w.heap.size, 0, none⟩ = some (.int .i64 x0) ∧ W'.cell? ⟨w.heap.size, 1, none⟩ = some (.int .i64 x1) ∧ W'.cell? ⟨w.heap.size, 2, none⟩ = some (.int .i64 x2) ∧ W'.cell? ⟨w.heap.size, 3, none⟩ = some (.slice A3 l3.length c3) ∧ W'.cell? ⟨w.heap.size, 4, none⟩ = some (.slice A4 l4.length c4) ∧ W'.cell? ⟨w.heap.size + 1, 0, none⟩ = some (.int .i64 y0) ∧ W'.cell? ⟨w.heap.size + 1, 1, none⟩ = some (.int .i64 y1) ∧ W'.cell? ⟨w.heap.size + 1, 2, none⟩ = some (.int .i64 y2) ∧ W'.cell? ⟨w.heap.size + 1, 3, none⟩ = some (.slice F3 m3.length f3) ∧ W'.cell? ⟨w.heap.size + 1, 4, none⟩ = some (.slice F4 m4.length f4)) := fun W' hbR => ⟨(hbR.cell (p := ⟨w.heap.size, 0, none⟩) l_BN).trans q_BN_0, (hbR.cell (p := ⟨w.heap.size, 1, none⟩) l_BN).trans q_BN_1, (hbR.cell (p := ⟨w.heap.size, 2, none⟩) l_BN).trans q_BN_2, (hbR.cell (p := ⟨w.heap.size, 3, none⟩) l_BN).trans q_BN_3, (hbR.cell (p := ⟨w.heap.size, 4, none⟩) l_BN).trans q_BN_4, (hbR.cell (p := ⟨w.heap.size + 1, 0, none⟩) l_BM).trans q_BM_0, (hbR.cell (p := ⟨w.heap.size + 1, 1, none⟩) l_BM).trans q_BM_1, (hbR.cell (p := ⟨w.heap.size + 1, 2, none⟩) l_BM).trans q_BM_2, (hbR.cell (p := ⟨w.heap.size + 1, 3, none⟩) l_BM).trans q_BM_3, (hbR.cell (p := ⟨w.heap.size + 1, 4, none⟩) l_BM).trans q_BM_4⟩
       refine start_ (n := 25) (S := fun w' => w'.cell? ⟨w.heap.size, 0, none⟩ = some (.int .i64 x0) ∧ w'.cell? ⟨w.heap.size, 1, none⟩ = some (.int .i64 x1) ∧ w'.cell? ⟨w.heap.size, 2, none⟩ = some (.int .i64 x2) ∧ w'.cell? ⟨w.heap.size, 3, none⟩ = some (.slice A3 l3.length c3) ∧ w'.cell? ⟨w.heap.size, 4, none⟩ = some (.slice A4 l4.length c4) ∧ w'.cell? ⟨w.heap.size + 1, 0, none⟩ = some (.int .i64 y0) ∧ w'.cell? ⟨w.heap.size + 1, 1, none⟩ = some (.int .i64 y1) ∧ w'.cell? ⟨w.heap.size + 1, 2, none⟩ = some (.int .i64 y2) ∧ w'.cell? ⟨w.heap.size + 1, 3, none⟩ = some (.slice F3 m3.length f3) ∧ w'.cell? ⟨w.heap.size + 1, 4, none⟩ = some (.slice F4 m4.length f4)) (ds := []) #[false, false, false, false, false, false, false, false, false, false, false, false, false, false, false, false, false, false, false, false, false, false, false, false, false] (by kernel_rfl) rfl rfl ⟨q_BN_0, q_BN_1, q_BN_2, q_BN_3, q_BN_4, q_BM_0, q_BM_1, q_BM_2, q_BM_3, q_BM_4⟩ (fun hHeld => ?_)
       obtain ⟨wd, hwd⟩ : ∃ W, W = w12.drew := ⟨_, rfl⟩
       rw [← hwd] at hHeld ⊢
       have hbR : Below w12.heap.size w12 wd := by rw [hwd]; exact (Below.refl _ _).drew
       clear hwd
       refine take_ (i := 0) (N := some 76) (v := ?_) (a' := ?_) #[true, false, false, false, false, false, false, false, false, false, false, false, false, false, false, false, false, false, false, false, false, false, false, false, false] rfl rfl (by kernel_rfl) (fun _ _ _ h => h) (Or.inl ⟨by rfl, ?_⟩) hHeld ?_ ?_
       rotate_left
       ·rintro w' ⟨s0, s1, s2, s3, s4, s5, s6, s7, s8, s9⟩
        go_simp
        with_reducible rfl
       rotate_left
       ·simp only [Act.put, List.setIfInBounds_toArray, List.set_cons_zero, List.set_cons_succ, i64_w, i32_w]
        rfl
       refine take_ (i := 2) (N := some 78) (v := ?_) (a' := ?_) #[true, false, true, false, false, false, false, false, false, false, false, false, false, false, false, false, false, false, false, false, false, false, false, false, false] rfl rfl (by kernel_rfl) (fun _ _ _ h => h) (Or.inl ⟨by rfl, ?_⟩) hHeld ?_ ?_
       rotate_left
       ·rintro w' ⟨s0, s1, s2, s3, s4, s5, s6, s7, s8, s9⟩
        go_simp
        with_reducible rfl
       rotate_left
       ·simp only [Act.put, List.setIfInBounds_toArray, List.set_cons_zero, List.set_cons_succ, i64_w, i32_w]
        rfl
       refine one_ (i := 1) (N := some 77) #[true, true, true, false, false, false, false, false, false, false, false, false, false, false, false, false, false, false, false, false, false, false, false, false, false] rfl rfl (by kernel_rfl) (by decide) (fun K hK => ?_)
       refine goes_ Tryd.func10 (by kernel_rfl) rfl #[.agg #[.int .i64 x0, .int .i64 x1, .int .i64 x2, .slice A3 l3.length c3, .slice A4 l4.length c4]] (by rfl) rfl rfl (by simp only [List.map_toArray, List.map_cons, List.map_nil]; rfl) ?_
       with_reducible refine (node_Valid.calls 0 x0 x1 x2 A3 c3 l3 A4 c4 l4 true _ (Kd.C_below HR3.out hbR) hc3 (Kd.C_below HR4.out hbR) hc4 HVA.out (HT.out.below hbR)).mono ?_
       rintro e w13 ⟨rfl, hb⟩
       refine ⟨_, rfl, ?_⟩
       replace hbR := hbR.trans (hb.mono hbR.size)
       clear hb
       refine hK.out _ _ (fx _ hbR) (fun hHeld => ?_)
       clear hK K
       refine norm_ (a' := ?_) ?_ ?_
       rotate_left
       ·show Act.put _ (some 77) _ = _
        simp only [Act.put, List.setIfInBounds_toArray, List.set_cons_zero, List.set_cons_succ, i64_w, i32_w]
        rfl
       refine one_ (i := 3) (N := some 79) #[true, true, true, true, false, false, false, false, false, false, false, false, false, false, false, false, false, false, false, false, false, false, false, false, false] rfl rfl (by kernel_rfl) (by decide) (fun K hK => ?_)
       refine goes_ Tryd.func10 (by kernel_rfl) rfl #[.agg #[.int .i64 y0, .int .i64 y1, .int .i64 y2, .slice F3 m3.length f3, .slice F4 m4.length f4]] (by rfl) rfl rfl (by simp only [List.map_toArray, List.map_cons, List.map_nil]; rfl) ?_
       with_reducible refine (node_Valid.calls 0 y0 y1 y2 F3 f3 m3 F4 f4 m4 true _ (Kd.C_below HQ3.out hbR) hd3 (Kd.C_below HQ4.out hbR) hd4 HVB.out (HT.out.below hbR)).mono ?_
       rintro e w14 ⟨rfl, hb⟩
       refine ⟨_, rfl, ?_⟩
       replace hbR := hbR.trans (hb.mono hbR.size)
       clear hb
       refine hK.out _ _ (fx _ hbR) (fun hHeld => ?_)
       clear hK K
       refine norm_ (a' := ?_) ?_ ?_
       rotate_left
       ·show Act.put _ (some 79) _ = _
        simp only [Act.put, List.setIfInBounds_toArray, List.set_cons_zero, List.set_cons_succ, i64_w, i32_w]
        rfl
       refine pure_ (i := 4) (N := some 80) (v := ?_) (a' := ?_) #[true, true, true, true, true, false, false, false, false, false, false, false, false, false, false, false, false, false, false, false, false, false, false, false, false] rfl rfl (by kernel_rfl) (fun _ _ _ h => h) (Or.inl ⟨by rfl, ?_⟩) ?_ ?_
       rotate_left
       ·intro w'
        go_simp
        with_reducible rfl
       rotate_left
       ·simp only [Act.put, List.setIfInBounds_toArray, List.set_cons_zero, List.set_cons_succ, i64_w, i32_w]
        rfl
       refine pure_ (i := 5) (N := some 81) (v := ?_) (a' := ?_) #[true, true, true, true, true, true, false, false, false, false, false, false, false, false, false, false, false, false, false, false, false, false, false, false, false] rfl rfl (by kernel_rfl) (fun _ _ _ h => h) (Or.inl ⟨by rfl, ?_⟩) ?_ ?_
       rotate_left
       ·intro w'
        go_simp
        with_reducible rfl
       rotate_left
       ·simp only [Act.put, List.setIfInBounds_toArray, List.set_cons_zero, List.set_cons_succ, i64_w, i32_w]
        rfl
       refine take_ (i := 6) (N := some 82) (v := ?_) (a' := ?_) #[true, true, true, true, true, true, true, false, false, false, false, false, false, false, false, false, false, false, false, false, false, false, false, false, false] rfl rfl (by kernel_rfl) (fun _ _ _ h => h) (Or.inl ⟨by rfl, ?_⟩) hHeld ?_ ?_
       rotate_left
       ·rintro w' ⟨s0, s1, s2, s3, s4, s5, s6, s7, s8, s9⟩
        go_simp
        with_reducible rfl
       rotate_left
       ·simp only [Act.put, List.setIfInBounds_toArray, List.set_cons_zero, List.set_cons_succ, i64_w, i32_w]
        rfl
       refine one_ (i := 7) (N := some 83) #[true, true, true, true, true, true, true, true, false, false, false, false, false, false, false, false, false, false, false, false, false, false, false, false, false] rfl rfl (by kernel_rfl) (by decide) (fun K hK => ?_)
       refine goes_ Tryd.func10 (by kernel_rfl) rfl #[.agg #[.int .i64 x0, .int .i64 x1, .int .i64 x2, .slice A3 l3.length c3, .slice A4 l4.length c4]] (by rfl) rfl rfl (by simp only [List.map_toArray, List.map_cons, List.map_nil]; rfl) ?_
       with_reducible refine (node_Valid.calls 0 x0 x1 x2 A3 c3 l3 A4 c4 l4 true _ (Kd.C_below HR3.out hbR) hc3 (Kd.C_below HR4.out hbR) hc4 HVA.out (HT.out.below hbR)).mono ?_
       rintro e w15 ⟨rfl, hb⟩
       refine ⟨_, rfl, ?_⟩
       replace hbR := hbR.trans (hb.mono hbR.size)
       clear hb
       refine hK.out _ _ (fx _ hbR) (fun hHeld => ?_)
       clear hK K
       refine norm_ (a' := ?_) ?_ ?_
       rotate_left
       ·show Act.put _ (some 83) _ = _
        simp only [Act.put, List.setIfInBounds_toArray, List.set_cons_zero, List.set_cons_succ, i64_w, i32_w]
        rfl
       refine pure_ (i := 8) (N := some 84) (v := ?_) (a' := ?_) #[true, true, true, true, true, true, true, true, true, false, false, false, false, false, false, false, false, false, false, false, false, false, false, false, false] rfl rfl (by kernel_rfl) (fun _ _ _ h => h) (Or.inl ⟨by rfl, ?_⟩) ?_ ?_
       rotate_left
       ·intro w'
        go_simp
        with_reducible rfl
       rotate_left
       ·simp only [Act.put, List.setIfInBounds_toArray, List.set_cons_zero, List.set_cons_succ, i64_w, i32_w]
        rfl
       refine pure_ (i := 9) (N := some 85) (v := ?_) (a' := ?_) #[true, true, true, true, true, true, true, true, true, true, false, false, false, false, false, false, false, false, false, false, false, false, false, false, false] rfl rfl (by kernel_rfl) (fun _ _ _ h => h) (Or.inl ⟨by rfl, ?_⟩) ?_ ?_
       rotate_left
       ·intro w'
        go_simp
        with_reducible rfl
       rotate_left
       ·simp only [Act.put, List.setIfInBounds_toArray, List.set_cons_zero, List.set_cons_succ, i64_w, i32_w]
        rfl
       refine take_ (i := 10) (N := some 86) (v := ?_) (a' := ?_) #[true, true, true, true, true, true, true, true, true, true, true, false, false, false, false, false, false, false, false, false, false, false, false, false, false] rfl rfl (by kernel_rfl) (fun _ _ _ h => h) (Or.inl ⟨by rfl, ?_⟩) hHeld ?_ ?_
       rotate_left
       ·rintro w' ⟨s0, s1, s2, s3, s4, s5, s6, s7, s8, s9⟩
        go_simp
        with_reducible rfl
       rotate_left
       ·simp only [Act.put, List.setIfInBounds_toArray, List.set_cons_zero, List.set_cons_succ, i64_w, i32_w]
        rfl
       refine take_ (i := 12) (N := some 88) (v := ?_) (a' := ?_) #[true, true, true, true, true, true, true, true, true, true, true, false, true, false, false, false, false, false, false, false, false, false, false, false, false] rfl rfl (by kernel_rfl) (fun _ _ _ h => h) (Or.inl ⟨by rfl, ?_⟩) hHeld ?_ ?_
       rotate_left
       ·rintro w' ⟨s0, s1, s2, s3, s4, s5, s6, s7, s8, s9⟩
        go_simp
        with_reducible rfl
       rotate_left
       ·simp only [Act.put, List.setIfInBounds_toArray, List.set_cons_zero, List.set_cons_succ, i64_w, i32_w]
        rfl
       refine one_ (i := 11) (N := some 87) #[true, true, true, true, true, true, true, true, true, true, true, true, true, false, false, false, false, false, false, false, false, false, false, false, false] rfl rfl (by kernel_rfl) (by decide) (fun K hK => ?_)
       refine goes_ Tryd.func14 (by kernel_rfl) rfl #[.agg #[.int .i64 x0, .int .i64 x1, .int .i64 x2, .slice A3 l3.length c3, .slice A4 l4.length c4]] (by rfl) rfl rfl (by simp only [List.map_toArray, List.map_cons, List.map_nil]; rfl) ?_
       with_reducible refine (node_Depth.calls 0 x0 x1 x2 A3 c3 l3 A4 c4 l4 D _ (Kd.C_below HR3.out hbR) hc3 (Kd.C_below HR4.out hbR) hc4 HDA.out).mono ?_
       rintro e w16 ⟨rfl, hb⟩
       refine ⟨_, rfl, ?_⟩
       replace hbR := hbR.trans (hb.mono hbR.size)
       clear hb
       refine hK.out _ _ (fx _ hbR) (fun hHeld => ?_)
       clear hK K
       refine norm_ (a' := ?_) ?_ ?_
       rotate_left
       ·show Act.put _ (some 87) _ = _
        simp only [Act.put, List.setIfInBounds_toArray, List.set_cons_zero, List.set_cons_succ, i64_w, i32_w]
        rfl
       refine one_ (i := 13) (N := some 89) #[true, true, true, true, true, true, true, true, true, true, true, true, true, true, false, false, false, false, false, false, false, false, false, false, false] rfl rfl (by kernel_rfl) (by decide) (fun K hK => ?_)
       refine goes_ Tryd.func14 (by kernel_rfl) rfl #[.agg #[.int .i64 y0, .int .i64 y1, .int .i64 y2, .slice F3 m3.length f3, .slice F4 m4.length f4]] (by rfl) rfl rfl (by simp only [List.map_toArray, List.map_cons, List.map_nil]; rfl) ?_
       with_reducible refine (node_Depth.calls 0 y0 y1 y2 F3 f3 m3 F4 f4 m4 D _ (Kd.C_below HQ3.out hbR) hd3 (Kd.C_below HQ4.out hbR) hd4 HDB.out).mono ?_
       rintro e w17 ⟨rfl, hb⟩
       refine ⟨_, rfl, ?_⟩
       replace hbR := hbR.trans (hb.mono hbR.size)
       clear hb
       refine hK.out _ _ (fx _ hbR) (fun hHeld => ?_)
       clear hK K
       refine norm_ (a' := ?_) ?_ ?_
       rotate_left
       ·show Act.put _ (some 89) _ = _
        simp only [Act.put, List.setIfInBounds_toArray, List.set_cons_zero, List.set_cons_succ, i64_w, i32_w]
        rfl
       refine pure_ (i := 14) (N := some 90) (v := ?_) (a' := ?_) #[true, true, true, true, true, true, true, true, true, true, true, true, true, true, true, false, false, false, false, false, false, false, false, false, false] rfl rfl (by kernel_rfl) (fun _ _ _ h => h) (Or.inl ⟨by rfl, ?_⟩) ?_ ?_
       rotate_left
       ·intro w'
        go_simp
        with_reducible rfl
       rotate_left
       ·simp only [Act.put, List.setIfInBounds_toArray, List.set_cons_zero, List.set_cons_succ, i64_w, i32_w]
        rfl
       refine pure_ (i := 15) (N := some 91) (v := ?_) (a' := ?_) #[true, true, true, true, true, true, true, true, true, true, true, true, true, true, true, true, false, false, false, false, false, false, false, false, false] rfl rfl (by kernel_rfl) (fun _ _ _ h => h) (Or.inl ⟨by rfl, ?_⟩) ?_ ?_
       rotate_left
       ·intro w'
        go_simp
        with_reducible rfl
       rotate_left
       ·simp only [Act.put, List.setIfInBounds_toArray, List.set_cons_zero, List.set_cons_succ, i64_w, i32_w]
        rfl
       refine take_ (i := 16) (N := some 92) (v := ?_) (a' := ?_) #[true, true, true, true, true, true, true, true, true, true, true, true, true, true, true, true, true, false, false, false, false, false, false, false, false] rfl rfl (by kernel_rfl) (fun _ _ _ h => h) (Or.inl ⟨by rfl, ?_⟩) hHeld ?_ ?_
       rotate_left
       ·rintro w' ⟨s0, s1, s2, s3, s4, s5, s6, s7, s8, s9⟩
        go_simp
        with_reducible rfl
       rotate_left
       ·simp only [Act.put, List.setIfInBounds_toArray, List.set_cons_zero, List.set_cons_succ, i64_w, i32_w]
        rfl
       refine take_ (i := 18) (N := some 94) (v := ?_) (a' := ?_) #[true, true, true, true, true, true, true, true, true, true, true, true, true, true, true, true, true, false, true, false, false, false, false, false, false] rfl rfl (by kernel_rfl) (fun _ _ _ h => h) (Or.inl ⟨by rfl, ?_⟩) hHeld ?_ ?_
       rotate_left
       ·rintro w' ⟨s0, s1, s2, s3, s4, s5, s6, s7, s8, s9⟩
        go_simp
        with_reducible rfl
       rotate_left
       ·simp only [Act.put, List.setIfInBounds_toArray, List.set_cons_zero, List.set_cons_succ, i64_w, i32_w]
        rfl
       refine one_ (i := 17) (N := some 93) #[true, true, true, true, true, true, true, true, true, true, true, true, true, true, true, true, true, true, true, false, false, false, false, false, false] rfl rfl (by kernel_rfl) (by decide) (fun K hK => ?_)
       refine goes_ Tryd.func16 (by kernel_rfl) rfl #[.agg #[.int .i64 x0, .int .i64 x1, .int .i64 x2, .slice A3 l3.length c3, .slice A4 l4.length c4]] (by rfl) rfl rfl (by simp only [List.map_toArray, List.map_cons, List.map_nil]; rfl) ?_
       with_reducible refine (node_Objects.calls 0 x0 x1 x2 A3 c3 l3 A4 c4 l4 O _ (Kd.C_below HR3.out hbR) hc3 (Kd.C_below HR4.out hbR) hc4 HOA.out).mono ?_
       rintro e w18 ⟨rfl, hb⟩
       refine ⟨_, rfl, ?_⟩
       replace hbR := hbR.trans (hb.mono hbR.size)
       clear hb
       refine hK.out _ _ (fx _ hbR) (fun hHeld => ?_)
       clear hK K
       refine norm_ (a' := ?_) ?_ ?_
       rotate_left
       ·show Act.put _ (some 93) _ = _
        simp only [Act.put, List.setIfInBounds_toArray, List.set_cons_zero, List.set_cons_succ, i64_w, i32_w]
        rfl
       refine one_ (i := 19) (N := some 95) #[true, true, true, true, true, true, true, true, true, true, true, true, true, true, true, true, true, true, true, true, false, false, false, false, false] rfl rfl (by kernel_rfl) (by decide) (fun K hK => ?_)
       refine goes_ Tryd.func16 (by kernel_rfl) rfl #[.agg #[.int .i64 y0, .int .i64 y1, .int .i64 y2, .slice F3 m3.length f3, .slice F4 m4.length f4]] (by rfl) rfl rfl (by simp only [List.map_toArray, List.map_cons, List.map_nil]; rfl) ?_
       with_reducible refine (node_Objects.calls 0 y0 y1 y2 F3 f3 m3 F4 f4 m4 O _ (Kd.C_below HQ3.out hbR) hd3 (Kd.C_below HQ4.out hbR) hd4 HOB.out).mono ?_
       rintro e w19 ⟨rfl, hb⟩
       refine ⟨_, rfl, ?_⟩
       replace hbR := hbR.trans (hb.mono hbR.size)
       clear hb
       refine hK.out _ _ (fx _ hbR) (fun hHeld => ?_)
       clear hK K
       refine norm_ (a' := ?_) ?_ ?_
       rotate_left
       ·show Act.put _ (some 95) _ = _
        simp only [Act.put, List.setIfInBounds_toArray, List.set_cons_zero, List.set_cons_succ, i64_w, i32_w]
        rfl
       refine pure_ (i := 20) (N := some 96) (v := ?_) (a' := ?_) #[true, true, true, true, true, true, true, true, true, true, true, true, true, true, true, true, true, true, true, true, true, false, false, false, false] rfl rfl (by kernel_rfl) (fun _ _ _ h => h) (Or.inl ⟨by rfl, ?_⟩) ?_ ?_
       rotate_left
       ·intro w'
        go_simp
        with_reducible rfl
       rotate_left
       ·simp only [Act.put, List.setIfInBounds_toArray, List.set_cons_zero, List.set_cons_succ, i64_w, i32_w]
        rfl
       refine pure_ (i := 21) (N := some 97) (v := ?_) (a' := ?_) #[true, true, true, true, true, true, true, true, true, true, true, true, true, true, true, true, true, true, true, true, true, true, false, false, false] rfl rfl (by kernel_rfl) (fun _ _ _ h => h) (Or.inl ⟨by rfl, ?_⟩) ?_ ?_
       rotate_left
       ·intro w'
        go_simp
        with_reducible rfl
       rotate_left
       ·simp only [Act.put, List.setIfInBounds_toArray, List.set_cons_zero, List.set_cons_succ, i64_w, i32_w]
        rfl
       refine pure_ (i := 22) (N := some 98) (v := ?_) (a' := ?_) #[true, true, true, true, true, true, true, true, true, true, true, true, true, true, true, true, true, true, true, true, true, true, true, false, false] rfl rfl (by kernel_rfl) (fun _ _ _ h => h) (Or.inl ⟨by rfl, ?_⟩) ?_ ?_
       rotate_left
       ·intro w'
        go_simp
        with_reducible rfl
       rotate_left
       ·simp only [Act.put, List.setIfInBounds_toArray, List.set_cons_zero, List.set_cons_succ, i64_w, i32_w]
        rfl
       refine pure_ (i := 23) (N := some 99) (v := ?_) (a' := ?_) #[true, true, true, true, true, true, true, true, true, true, true, true, true, true, true, true, true, true, true, true, true, true, true, true, false] rfl rfl (by kernel_rfl) (fun _ _ _ h => h) (Or.inl ⟨by rfl, ?_⟩) ?_ ?_
       rotate_left
       ·intro w'
        go_simp
        with_reducible rfl
       rotate_left
       ·simp only [Act.put, List.setIfInBounds_toArray, List.set_cons_zero, List.set_cons_succ, i64_w, i32_w]
        rfl
       refine pure_ (i := 24) (N := some 6) (v := ?_) (a' := ?_) #[true, true, true, true, true, true, true, true, true, true, true, true, true, true, true, true, true, true, true, true, true, true, true, true, true] rfl rfl (by kernel_rfl) (fun _ _ _ h => h) (Or.inl ⟨by rfl, ?_⟩) ?_ ?_
       rotate_left
       ·intro w'
        go_simp
        with_reducible rfl
       rotate_left
       ·simp only [Act.put, List.setIfInBounds_toArray, List.set_cons_zero, List.set_cons_succ, i64_w, i32_w]
        rfl
       refine done_ (by kernel_rfl) ?_
       clear fx hHeld l_BN q_BN_0 q_BN_1 q_BN_2 q_BN_3 q_BN_4 l_BM q_BM_0 q_BM_1 q_BM_2 q_BM_3 q_BM_4
       replace HT := Lib.hid (HT.out.below hbR)
       replace HR3 := Lib.hid (Kd.C_below HR3.out hbR)
       replace HR4 := Lib.hid (Kd.C_below HR4.out hbR)
       replace HQ3 := Lib.hid (Kd.C_below HQ3.out hbR)
       replace HQ4 := Lib.hid (Kd.C_below HQ4.out hbR)
       replace HS3 := Lib.hid (Kd.C_below HS3.out hbR)
       replace HS4 := Lib.hid (Kd.C_below HS4.out hbR)
       replace HB := Lib.hid (below_step HB.out hbR)
       replace HX4 := Lib.hid (Kd.C_below HX4.out hbR)
       replace BN := Lib.hid (blk_below BN.out hbR)
       replace BM := Lib.hid (blk_below BM.out hbR)
       replace BK := Lib.hid (blk_below BK.out hbR)
       replace BX := Lib.hid (blk_below BX.out hbR)
       clear hbR
       go_wp2
       go_ret
       exact ⟨by simp, HB.out⟩
    ·have HAB : Hid (node_Equal.f 0 x0 x1 x2 l3 l4 y0 y1 y2 m3 m4 = some false) := Lib.hid (equ_f false hok hok2 (eqT_false e))
     have HBA : Hid (node_Equal.f 0 y0 y1 y2 m3 m4 x0 x1 x2 l3 l4 = some false) := Lib.hid (equ_f false hok2 hok (eqT_false fun q => e q.symm))
     clear e
     have l_BN : w.heap.size < w4.heap.size := blk_lt BN.out
     have q_BN_0 : w4.cell? ⟨w.heap.size, 0, none⟩ = some (.int .i64 x0) := (blk_cell BN.out 0).trans rfl
     have q_BN_1 : w4.cell? ⟨w.heap.size, 1, none⟩ = some (.int .i64 x1) := (blk_cell BN.out 1).trans rfl
     have q_BN_2 : w4.cell? ⟨w.heap.size, 2, none⟩ = some (.int .i64 x2) := (blk_cell BN.out 2).trans rfl
     have q_BN_3 : w4.cell? ⟨w.heap.size, 3, none⟩ = some (.slice A3 l3.length c3) := (blk_cell BN.out 3).trans rfl
     have q_BN_4 : w4.cell? ⟨w.heap.size, 4, none⟩ = some (.slice A4 l4.length c4) := (blk_cell BN.out 4).trans rfl
     have l_BM : w.heap.size + 1 < w4.heap.size := blk_lt BM.out
     have q_BM_0 : w4.cell? ⟨w.heap.size + 1, 0, none⟩ = some (.int .i64 y0) := (blk_cell BM.out 0).trans rfl
     have q_BM_1 : w4.cell? ⟨w.heap.size + 1, 1, none⟩ = some (.int .i64 y1) := (blk_cell BM.out 1).trans rfl
     have q_BM_2 : w4.cell? ⟨w.heap.size + 1, 2, none⟩ = some (.int .i64 y2) := (blk_cell BM.out 2).trans rfl
     have q_BM_3 : w4.cell? ⟨w.heap.size + 1, 3, none⟩ = some (.slice F3 m3.length f3) := (blk_cell BM.out 3).trans rfl
     have q_BM_4 : w4.cell? ⟨w.heap.size + 1, 4, none⟩ = some (.slice F4 m4.length f4) := (blk_cell BM.out 4).trans rfl
     have l_BK : w.heap.size + 1 + 1 < w4.heap.size := blk_lt BK.out
     have q_BK_0 : w4.cell? ⟨w.heap.size + 1 + 1, 0, none⟩ = some (.int .i64 z0) := (blk_cell BK.out 0).trans rfl
     have q_BK_1 : w4.cell? ⟨w.heap.size + 1 + 1, 1, none⟩ = some (.int .i64 z1) := (blk_cell BK.out 1).trans rfl
     have q_BK_2 : w4.cell? ⟨w.heap.size + 1 + 1, 2, none⟩ = some (.int .i64 z2) := (blk_cell BK.out 2).trans rfl
     have q_BK_3 : w4.cell? ⟨w.heap.size + 1 + 1, 3, none⟩ = some (.slice G3 n3.length g3) := (blk_cell BK.out 3).trans rfl
     have q_BK_4 : w4.cell? ⟨w.heap.size + 1 + 1, 4, none⟩ = some (.slice G4 n4.length g4) := (blk_cell BK.out 4).trans rfl
     have fx : ∀ W' : World, Below w4.heap.size w4 W' → (W'.cell? ⟨w.heap.size, 0, none⟩ = some (.int .i64 x0) ∧ W'.cell? ⟨w.heap.size, 1, none⟩ = some (.int .i64 x1) ∧ W'.cell? ⟨w.heap.size, 2, none⟩ = some (.int .i64 x2) ∧ W'.cell? ⟨w.heap.size, 3, none⟩ = some (.slice A3 l3.length c3) ∧ W'.cell? ⟨w.heap.size, 4, none⟩ = some (.slice A4 l4.length c4) ∧ W'.cell? ⟨w.heap.size + 1, 0, none⟩ = some (.int .i64 y0) ∧ W'.cell? ⟨w.heap.size + 1, 1, none⟩ = some (.int .i64 y1) ∧ W'.cell? ⟨w.heap.size + 1, 2, none⟩ = some (.int .i64 y2) ∧ W'.cell? ⟨w.heap.size + 1, 3, none⟩ = some (.slice F3 m3.length f3) ∧ W'.cell? ⟨w.heap.size + 1, 4, none⟩ = some (.slice F4 m4.length f4) ∧ W'.cell? ⟨w.heap.size + 1 + 1, 0, none⟩ = some (.int .i64 z0) ∧ W'.cell? ⟨w.heap.size + 1 + 1, 1, none⟩ = some (.int .i64 z1) ∧ W'.cell? ⟨w.heap.size + 1 + 1, 2, none⟩ = some (.int .i64 z2) ∧ W'.cell? ⟨w.heap.size + 1 + 1, 3, none⟩ = some (.slice G3 n3.length g3) ∧ W'.cell? ⟨w.heap.size + 1 + 1, 4, none⟩ = some (.slice G4 n4.length g4)) := fun W' hbR => ⟨(hbR.cell (p := ⟨w.heap.size, 0, none⟩) l_BN).trans q_BN_0, (hbR.cell (p := ⟨w.heap.size, 1, none⟩) l_BN).trans q_BN_1, (hbR.cell (p := ⟨w.heap.size, 2, none⟩) l_BN).trans q_BN_2, (hbR.cell (p := ⟨w.heap.size, 3, none⟩) l_BN).trans q_BN_3, (hbR.cell (p := ⟨w.heap.size, 4, none⟩) l_BN).trans q_BN_4, (hbR.cell (p := ⟨w.heap.size + 1, 0, none⟩) l_BM).trans q_BM_0, (hbR.cell (p := ⟨w.heap.size + 1, 1, none⟩) l_BM).trans q_BM_1, (hbR.cell (p := ⟨w.heap.size + 1, 2, none⟩) l_BM).trans q_BM_2, (hbR.cell (p := ⟨w.heap.size + 1, 3, none⟩) l_BM).trans q_BM_3, (hbR.cell (p := ⟨w.heap.size + 1, 4, none⟩) l_BM).trans q_BM_4, (hbR.cell (p := ⟨w.heap.size + 1 + 1, 0, none⟩) l_BK).trans q_BK_0, (hbR.cell (p := ⟨w.heap.size + 1 + 1, 1, none⟩) l_BK).trans q_BK_1, (hbR.cell (p := ⟨w.heap.size + 1 + 1, 2, none⟩) l_BK).trans q_BK_2, (hbR.cell (p := ⟨w.heap.size + 1 + 1, 3, none⟩) l_BK).trans q_BK_3, (hbR.cell (p := ⟨w.heap.size + 1 + 1, 4, none⟩) l_BK).trans q_BK_4⟩
     refine start_ (n := 29) (S := fun w' => w'.cell? ⟨w.heap.size, 0, none⟩ = some (.int .i64 x0) ∧ w'.cell? ⟨w.heap.size, 1, none⟩ = some (.int .i64 x1) ∧ w'.cell? ⟨w.heap.size, 2, none⟩ = some (.int .i64 x2) ∧ w'.cell? ⟨w.heap.size, 3, none⟩ = some (.slice A3 l3.length c3) ∧ w'.cell? ⟨w.heap.size, 4, none⟩ = some (.slice A4 l4.length c4) ∧ w'.cell? ⟨w.heap.size + 1, 0, none⟩ = some (.int .i64 y0) ∧ w'.cell? ⟨w.heap.size + 1, 1, none⟩ = some (.int .i64 y1) ∧ w'.cell? ⟨w.heap.size + 1, 2, none⟩ = some (.int .i64 y2) ∧ w'.cell? ⟨w.heap.size + 1, 3, none⟩ = some (.slice F3 m3.length f3) ∧ w'.cell? ⟨w.heap.size + 1, 4, none⟩ = some (.slice F4 m4.length f4) ∧ w'.cell? ⟨w.heap.size + 1 + 1, 0, none⟩ = some (.int .i64 z0) ∧ w'.cell? ⟨w.heap.size + 1 + 1, 1, none⟩ = some (.int .i64 z1) ∧ w'.cell? ⟨w.heap.size + 1 + 1, 2, none⟩ = some (.int .i64 z2) ∧ w'.cell? ⟨w.heap.size + 1 + 1, 3, none⟩ = some (.slice G3 n3.length g3) ∧ w'.cell? ⟨w.heap.size + 1 + 1, 4, none⟩ = some (.slice G4 n4.length g4)) (ds := []) #[false, false, false, false, false, false, false, false, false, false, false, false, false, false, false, false, false, false, false, false, false, false, false, false, false, false, false, false, false] (by kernel_rfl) rfl rfl ⟨q_BN_0, q_BN_1, q_BN_2, q_BN_3, q_BN_4, q_BM_0, q_BM_1, q_BM_2, q_BM_3, q_BM_4, q_BK_0, q_BK_1, q_BK_2, q_BK_3, q_BK_4⟩ (fun hHeld => ?_)
     obtain ⟨wd, hwd⟩ : ∃ W, W = w4.drew := ⟨_, rfl⟩
     rw [← hwd] at hHeld ⊢
     have hbR : Below w4.heap.size w4 wd := by rw [hwd]; exact (Below.refl _ _).drew
     clear hwd
     refine take_ (i := 0) (N := some 26) (v := ?_) (a' := ?_) #[true, false, false, false, false, false, false, false, false, false, false, false, false, false, false, false, false, false, false, false, false, false, false, false, false, false, false, false, false] rfl rfl (by kernel_rfl) (fun _ _ _ h => h) (Or.inl ⟨by rfl, ?_⟩) hHeld ?_ ?_
     rotate_left
     ·rintro w' ⟨s0, s1, s2, s3, s4, s5, s6, s7, s8, s9, s10, s11, s12, s13, s14⟩
      go_simp
      with_reducible rfl
     rotate_left
     ·simp only [Act.put, List.setIfInBounds_toArray, List.set_cons_zero, List.set_cons_succ, i64_w, i32_w]
      rfl
     refine take_ (i := 1) (N := some 27) (v := ?_) (a' := ?_) #[true, true, false, false, false, false, false, false, false, false, false, false, false, false, false, false, false, false, false, false, false, false, false, false, false, false, false, false, false] rfl rfl (by kernel_rfl) (fun _ _ _ h => h) (Or.inl ⟨by rfl, ?_⟩) hHeld ?_ ?_
     rotate_left
     ·rintro w' ⟨s0, s1, s2, s3, s4, s5, s6, s7, s8, s9, s10, s11, s12, s13, s14⟩
      go_simp
      with_reducible rfl
     rotate_left
     ·simp only [Act.put, List.setIfInBounds_toArray, List.set_cons_zero, List.set_cons_succ, i64_w, i32_w]
      rfl
     refine one_ (i := 2) (N := some 28) #[true, true, true, false, false, false, false, false, false, false, false, false, false, false, false, false, false, false, false, false, false, false, false, false, false, false, false, false, false] rfl rfl (by kernel_rfl) (by decide) (fun K hK => ?_)
     refine goes_ Tryd.func12 (by kernel_rfl) rfl #[.agg #[.int .i64 x0, .int .i64 x1, .int .i64 x2, .slice A3 l3.length c3, .slice A4 l4.length c4], .agg #[.int .i64 x0, .int .i64 x1, .int .i64 x2, .slice A3 l3.length c3, .slice A4 l4.length c4]] (by rfl) rfl rfl (by simp only [List.map_toArray, List.map_cons, List.map_nil]; rfl) ?_
     with_reducible refine (node_Equal.calls 0 x0 x1 x2 A3 c3 l3 A4 c4 l4 x0 x1 x2 A3 c3 l3 A4 c4 l4 true _ (Kd.C_below HR3.out hbR) hc3 (Kd.C_below HR4.out hbR) hc4 (Kd.C_below HR3.out hbR) hc3 (Kd.C_below HR4.out hbR) hc4 HXX.out).mono ?_
     rintro e w5 ⟨rfl, hb⟩
     refine ⟨_, rfl, ?_⟩
     replace hbR := hbR.trans (hb.mono hbR.size)
     clear hb
     refine hK.out _ _ (fx _ hbR) (fun hHeld => ?_)
     clear hK K
     refine norm_ (a' := ?_) ?_ ?_
     rotate_left
     ·show Act.put _ (some 28) _ = _
      simp only [Act.put, List.setIfInBounds_toArray, List.set_cons_zero, List.set_cons_succ, i64_w, i32_w]
      rfl
     refine pure_ (i := 3) (N := some 29) (v := ?_) (a' := ?_) #[true, true, true, true, false, false, false, false, false, false, false, false, false, false, false, false, false, false, false, false, false, false, false, false, false, false, false, false, false] rfl rfl (by kernel_rfl) (fun _ _ _ h => h) (Or.inl ⟨by rfl, ?_⟩) ?_ ?_
     rotate_left
     ·intro w'
      go_simp
      with_reducible rfl
     rotate_left
     ·simp only [Act.put, List.setIfInBounds_toArray, List.set_cons_zero, List.set_cons_succ, i64_w, i32_w]
      rfl
     refine pure_ (i := 4) (N := some 30) (v := ?_) (a' := ?_) #[true, true, true, true, true, false, false, false, false, false, false, false, false, false, false, false, false, false, false, false, false, false, false, false, false, false, false, false, false] rfl rfl (by kernel_rfl) (fun _ _ _ h => h) (Or.inl ⟨by rfl, ?_⟩) ?_ ?_
     rotate_left
     ·intro w'
      go_simp
      with_reducible rfl
     rotate_left
     ·simp only [Act.put, List.setIfInBounds_toArray, List.set_cons_zero, List.set_cons_succ, i64_w, i32_w]
      rfl
     refine take_ (i := 5) (N := some 31) (v := ?_) (a' := ?_) #[true, true, true, true, true, true, false, false, false, false, false, false, false, false, false, false, false, false, false, false, false, false, false, false, false, false, false, false, false] rfl rfl (by kernel_rfl) (fun _ _ _ h => h) (Or.inl ⟨by rfl, ?_⟩) hHeld ?_ ?_
     rotate_left
     ·rintro w' ⟨s0, s1, s2, s3, s4, s5, s6, s7, s8, s9, s10, s11, s12, s13, s14⟩
      go_simp
      with_reducible rfl
     rotate_left
     ·simp only [Act.put, List.setIfInBounds_toArray, List.set_cons_zero, List.set_cons_succ, i64_w, i32_w]
      rfl
     refine take_ (i := 6) (N := some 32) (v := ?_) (a' := ?_) #[true, true, true, true, true, true, true, false, false, false, false, false, false, false, false, false, false, false, false, false, false, false, false, false, false, false, false, false, false] rfl rfl (by kernel_rfl) (fun _ _ _ h => h) (Or.inl ⟨by rfl, ?_⟩) hHeld ?_ ?_
     rotate_left
     ·rintro w' ⟨s0, s1, s2, s3, s4, s5, s6, s7, s8, s9, s10, s11, s12, s13, s14⟩
      go_simp
      with_reducible rfl
     rotate_left
     ·simp only [Act.put, List.setIfInBounds_toArray, List.set_cons_zero, List.set_cons_succ, i64_w, i32_w]
      rfl
     refine take_ (i := 8) (N := some 34) (v := ?_) (a' := ?_) #[true, true, true, true, true, true, true, false, true, false, false, false, false, false, false, false, false, false, false, false, false, false, false, false, false, false, false, false, false] rfl rfl (by kernel_rfl) (fun _ _ _ h => h) (Or.inl ⟨by rfl, ?_⟩) hHeld ?_ ?_
     rotate_left
     ·rintro w' ⟨s0, s1, s2, s3, s4, s5, s6, s7, s8, s9, s10, s11, s12, s13, s14⟩
      go_simp
      with_reducible rfl
     rotate_left
     ·simp only [Act.put, List.setIfInBounds_toArray, List.set_cons_zero, List.set_cons_succ, i64_w, i32_w]
      rfl
     refine take_ (i := 9) (N := some 35) (v := ?_) (a' := ?_) #[true, true, true, true, true, true, true, false, true, true, false, false, false, false, false, false, false, false, false, false, false, false, false, false, false, false, false, false, false] rfl rfl (by kernel_rfl) (fun _ _ _ h => h) (Or.inl ⟨by rfl, ?_⟩) hHeld ?_ ?_
     rotate_left
     ·rintro w' ⟨s0, s1, s2, s3, s4, s5, s6, s7, s8, s9, s10, s11, s12, s13, s14⟩
      go_simp
      with_reducible rfl
     rotate_left
     ·simp only [Act.put, List.setIfInBounds_toArray, List.set_cons_zero, List.set_cons_succ, i64_w, i32_w]
      rfl
     refine one_ (i := 7) (N := some 33) #[true, true, true, true, true, true, true, true, true, true, false, false, false, false, false, false, false, false, false, false, false, false, false, false, false, false, false, false, false] rfl rfl (by kernel_rfl) (by decide) (fun K hK => ?_)
     refine goes_ Tryd.func12 (by kernel_rfl) rfl #[.agg #[.int .i64 x0, .int .i64 x1, .int .i64 x2, .slice A3 l3.length c3, .slice A4 l4.length c4], .agg #[.int .i64 y0, .int .i64 y1, .int .i64 y2, .slice F3 m3.length f3, .slice F4 m4.length f4]] (by rfl) rfl rfl (by simp only [List.map_toArray, List.map_cons, List.map_nil]; rfl) ?_
     with_reducible refine (node_Equal.calls 0 x0 x1 x2 A3 c3 l3 A4 c4 l4 y0 y1 y2 F3 f3 m3 F4 f4 m4 false _ (Kd.C_below HR3.out hbR) hc3 (Kd.C_below HR4.out hbR) hc4 (Kd.C_below HQ3.out hbR) hd3 (Kd.C_below HQ4.out hbR) hd4 HAB.out).mono ?_
     rintro e w6 ⟨rfl, hb⟩
     refine ⟨_, rfl, ?_⟩
     replace hbR := hbR.trans (hb.mono hbR.size)
     clear hb
     refine hK.out _ _ (fx _ hbR) (fun hHeld => ?_)
     clear hK K
     refine norm_ (a' := ?_) ?_ ?_
     rotate_left
     ·show Act.put _ (some 33) _ = _
      simp only [Act.put, List.setIfInBounds_toArray, List.set_cons_zero, List.set_cons_succ, i64_w, i32_w]
      rfl
     refine one_ (i := 10) (N := some 36) #[true, true, true, true, true, true, true, true, true, true, true, false, false, false, false, false, false, false, false, false, false, false, false, false, false, false, false, false, false] rfl rfl (by kernel_rfl) (by decide) (fun K hK => ?_)
     refine goes_ Tryd.func12 (by kernel_rfl) rfl #[.agg #[.int .i64 y0, .int .i64 y1, .int .i64 y2, .slice F3 m3.length f3, .slice F4 m4.length f4], .agg #[.int .i64 x0, .int .i64 x1, .int .i64 x2, .slice A3 l3.length c3, .slice A4 l4.length c4]] (by rfl) rfl rfl (by simp only [List.map_toArray, List.map_cons, List.map_nil]; rfl) ?_
     with_reducible refine (node_Equal.calls 0 y0 y1 y2 F3 f3 m3 F4 f4 m4 x0 x1 x2 A3 c3 l3 A4 c4 l4 false _ (Kd.C_below HQ3.out hbR) hd3 (Kd.C_below HQ4.out hbR) hd4 (Kd.C_below HR3.out hbR) hc3 (Kd.C_below HR4.out hbR) hc4 HBA.out).mono ?_
     rintro e w7 ⟨rfl, hb⟩
     refine ⟨_, rfl, ?_⟩
     replace hbR := hbR.trans (hb.mono hbR.size)
     clear hb
     refine hK.out _ _ (fx _ hbR) (fun hHeld => ?_)
     clear hK K
     refine norm_ (a' := ?_) ?_ ?_
     rotate_left
     ·show Act.put _ (some 36) _ = _
      simp only [Act.put, List.setIfInBounds_toArray, List.set_cons_zero, List.set_cons_succ, i64_w, i32_w]
      rfl
     refine pure_ (i := 11) (N := some 37) (v := ?_) (a' := ?_) #[true, true, true, true, true, true, true, true, true, true, true, true, false, false, false, false, false, false, false, false, false, false, false, false, false, false, false, false, false] rfl rfl (by kernel_rfl) (fun _ _ _ h => h) (Or.inl ⟨by rfl, ?_⟩) ?_ ?_
     rotate_left
     ·intro w'
      go_simp
      with_reducible rfl
     rotate_left
     ·simp only [Act.put, List.setIfInBounds_toArray, List.set_cons_zero, List.set_cons_succ, i64_w, i32_w]
      rfl
     refine pure_ (i := 12) (N := some 38) (v := ?_) (a' := ?_) #[true, true, true, true, true, true, true, true, true, true, true, true, true, false, false, false, false, false, false, false, false, false, false, false, false, false, false, false, false] rfl rfl (by kernel_rfl) (fun _ _ _ h => h) (Or.inl ⟨by rfl, ?_⟩) ?_ ?_
     rotate_left
     ·intro w'
      go_simp
      with_reducible rfl
     rotate_left
     ·simp only [Act.put, List.setIfInBounds_toArray, List.set_cons_zero, List.set_cons_succ, i64_w, i32_w]
      rfl
     refine pure_ (i := 13) (N := some 39) (v := ?_) (a' := ?_) #[true, true, true, true, true, true, true, true, true, true, true, true, true, true, false, false, false, false, false, false, false, false, false, false, false, false, false, false, false] rfl rfl (by kernel_rfl) (fun _ _ _ h => h) (Or.inl ⟨by rfl, ?_⟩) ?_ ?_
     rotate_left
     ·intro w'
      go_simp
      with_reducible rfl
     rotate_left
     ·simp only [Act.put, List.setIfInBounds_toArray, List.set_cons_zero, List.set_cons_succ, i64_w, i32_w]
      rfl
     refine take_ (i := 14) (N := some 40) (v := ?_) (a' := ?_) #[true, true, true, true, true, true, true, true, true, true, true, true, true, true, true, false, false, false, false, false, false, false, false, false, false, false, false, false, false] rfl rfl (by kernel_rfl) (fun _ _ _ h => h) (Or.inl ⟨by rfl, ?_⟩) hHeld ?_ ?_
     rotate_left
     ·rintro w' ⟨s0, s1, s2, s3, s4, s5, s6, s7, s8, s9, s10, s11, s12, s13, s14⟩
      go_simp
      with_reducible rfl
     rotate_left
     ·simp only [Act.put, List.setIfInBounds_toArray, List.set_cons_zero, List.set_cons_succ, i64_w, i32_w]
      rfl
     refine take_ (i := 15) (N := some 41) (v := ?_) (a' := ?_) #[true, true, true, true, true, true, true, true, true, true, true, true, true, true, true, true, false, false, false, false, false, false, false, false, false, false, false, false, false] rfl rfl (by kernel_rfl) (fun _ _ _ h => h) (Or.inl ⟨by rfl, ?_⟩) hHeld ?_ ?_
     rotate_left
     ·rintro w' ⟨s0, s1, s2, s3, s4, s5, s6, s7, s8, s9, s10, s11, s12, s13, s14⟩
      go_simp
      with_reducible rfl
     rotate_left
     ·simp only [Act.put, List.setIfInBounds_toArray, List.set_cons_zero, List.set_cons_succ, i64_w, i32_w]
      rfl
     refine one_ (i := 16) (N := some 42) #[true, true, true, true, true, true, true, true, true, true, true, true, true, true, true, true, true, false, false, false, false, false, false, false, false, false, false, false, false] rfl rfl (by kernel_rfl) (by decide) (fun K hK => ?_)
     refine goes_ Tryd.func12 (by kernel_rfl) rfl #[.agg #[.int .i64 x0, .int .i64 x1, .int .i64 x2, .slice A3 l3.length c3, .slice A4 l4.length c4], .agg #[.int .i64 y0, .int .i64 y1, .int .i64 y2, .slice F3 m3.length f3, .slice F4 m4.length f4]] (by rfl) rfl rfl (by simp only [List.map_toArray, List.map_cons, List.map_nil]; rfl) ?_
     with_reducible refine (node_Equal.calls 0 x0 x1 x2 A3 c3 l3 A4 c4 l4 y0 y1 y2 F3 f3 m3 F4 f4 m4 false _ (Kd.C_below HR3.out hbR) hc3 (Kd.C_below HR4.out hbR) hc4 (Kd.C_below HQ3.out hbR) hd3 (Kd.C_below HQ4.out hbR) hd4 HAB.out).mono ?_
     rintro e w8 ⟨rfl, hb⟩
     refine ⟨_, rfl, ?_⟩
     replace hbR := hbR.trans (hb.mono hbR.size)
     clear hb
     refine hK.out _ _ (fx _ hbR) (fun hHeld => ?_)
     clear hK K
     refine norm_ (a' := ?_) ?_ ?_
     rotate_left
     ·show Act.put _ (some 42) _ = _
      simp only [Act.put, List.setIfInBounds_toArray, List.set_cons_zero, List.set_cons_succ, i64_w, i32_w]
      rfl
     refine pure_ (i := 17) (N := some 43) (v := ?_) (a' := ?_) #[true, true, true, true, true, true, true, true, true, true, true, true, true, true, true, true, true, true, false, false, false, false, false, false, false, false, false, false, false] rfl rfl (by kernel_rfl) (fun _ _ _ h => h) (Or.inl ⟨by rfl, ?_⟩) ?_ ?_
     rotate_left
     ·intro w'
      go_simp
      with_reducible rfl
     rotate_left
     ·simp only [Act.put, List.setIfInBounds_toArray, List.set_cons_zero, List.set_cons_succ, i64_w, i32_w]
      rfl
     refine pure_ (i := 18) (N := some 44) (v := undef) (a' := ?_) #[true, true, true, true, true, true, true, true, true, true, true, true, true, true, true, true, true, true, true, false, false, false, false, false, false, false, false, false, false] rfl rfl (by kernel_rfl) (fun _ _ _ h => h) (Or.inr ⟨by rfl, rfl⟩) ?_ ?_
     rotate_left
     ·simp only [Act.put, List.setIfInBounds_toArray, List.set_cons_zero, List.set_cons_succ, i64_w, i32_w]
      rfl
     refine pure_ (i := 19) (N := some 45) (v := undef) (a' := ?_) #[true, true, true, true, true, true, true, true, true, true, true, true, true, true, true, true, true, true, true, true, false, false, false, false, false, false, false, false, false] rfl rfl (by kernel_rfl) (fun _ _ _ h => h) (Or.inr ⟨by rfl, rfl⟩) ?_ ?_
     rotate_left
     ·simp only [Act.put, List.setIfInBounds_toArray, List.set_cons_zero, List.set_cons_succ, i64_w, i32_w]
      rfl
     refine pure_ (i := 20) (N := some 46) (v := undef) (a' := ?_) #[true, true, true, true, true, true, true, true, true, true, true, true, true, true, true, true, true, true, true, true, true, false, false, false, false, false, false, false, false] rfl rfl (by kernel_rfl) (fun _ _ _ h => h) (Or.inr ⟨by rfl, rfl⟩) ?_ ?_
     rotate_left
     ·simp only [Act.put, List.setIfInBounds_toArray, List.set_cons_zero, List.set_cons_succ, i64_w, i32_w]
      rfl
     refine pure_ (i := 21) (N := some 47) (v := ?_) (a' := ?_) #[true, true, true, true, true, true, true, true, true, true, true, true, true, true, true, true, true, true, true, true, true, true, false, false, false, false, false, false, false] rfl rfl (by kernel_rfl) (fun _ _ _ h => h) (Or.inl ⟨by rfl, ?_⟩) ?_ ?_
     rotate_left
     ·intro w'
      go_simp
      with_reducible rfl
     rotate_left
     ·simp only [Act.put, List.setIfInBounds_toArray, List.set_cons_zero, List.set_cons_succ, i64_w, i32_w]
      rfl
     refine pure_ (i := 22) (N := some 48) (v := ?_) (a' := ?_) #[true, true, true, true, true, true, true, true, true, true, true, true, true, true, true, true, true, true, true, true, true, true, true, false, false, false, false, false, false] rfl rfl (by kernel_rfl) (fun _ _ _ h => h) (Or.inl ⟨by rfl, ?_⟩) ?_ ?_
     rotate_left
     ·intro w'
      go_simp
      with_reducible rfl
     rotate_left
     ·simp only [Act.put, List.setIfInBounds_toArray, List.set_cons_zero, List.set_cons_succ, i64_w, i32_w]
      rfl
     refine pure_ (i := 23) (N := some 49) (v := undef) (a' := ?_) #[true, true, true, true, true, true, true, true, true, true, true, true, true, true, true, true, true, true, true, true, true, true, true, true, false, false, false, false, false] rfl rfl (by kernel_rfl) (fun _ _ _ h => h) (Or.inr ⟨by rfl, rfl⟩) ?_ ?_
     rotate_left
     ·simp only [Act.put, List.setIfInBounds_toArray, List.set_cons_zero, List.set_cons_succ, i64_w, i32_w]
      rfl
     refine pure_ (i := 24) (N := some 50) (v := undef) (a' := ?_) #[true, true, true, true, true, true, true, true, true, true, true, true, true, true, true, true, true, true, true, true, true, true, true, true, true, false, false, false, false] rfl rfl (by kernel_rfl) (fun _ _ _ h => h) (Or.inr ⟨by rfl, rfl⟩) ?_ ?_
     rotate_left
     ·simp only [Act.put, List.setIfInBounds_toArray, List.set_cons_zero, List.set_cons_succ, i64_w, i32_w]
      rfl
     refine pure_ (i := 25) (N := some 51) (v := undef) (a' := ?_) #[true, true, true, true, true, true, true, true, true, true, true, true, true, true, true, true, true, true, true, true, true, true, true, true, true, true, false, false, false] rfl rfl (by kernel_rfl) (fun _ _ _ h => h) (Or.inr ⟨by rfl, rfl⟩) ?_ ?_
     rotate_left
     ·simp only [Act.put, List.setIfInBounds_toArray, List.set_cons_zero, List.set_cons_succ, i64_w, i32_w]
      rfl
     refine pure_ (i := 26) (N := some 52) (v := undef) (a' := ?_) #[true, true, true, true, true, true, true, true, true, true, true, true, true, true, true, true, true, true, true, true, true, true, true, true, true, true, true, false, false] rfl rfl (by kernel_rfl) (fun _ _ _ h => h) (Or.inr ⟨by rfl, rfl⟩) ?_ ?_
     rotate_left
     ·simp only [Act.put, List.setIfInBounds_toArray, List.set_cons_zero, List.set_cons_succ, i64_w, i32_w]
      rfl
     refine pure_ (i := 27) (N := some 53) (v := ?_) (a' := ?_) #[true, true, true, true, true, true, true, true, true, true, true, true, true, true, true, true, true, true, true, true, true, true, true, true, true, true, true, true, false] rfl rfl (by kernel_rfl) (fun _ _ _ h => h) (Or.inl ⟨by rfl, ?_⟩) ?_ ?_
     rotate_left
     ·intro w'
      go_simp
      with_reducible rfl
     rotate_left
     ·simp only [Act.put, List.setIfInBounds_toArray, List.set_cons_zero, List.set_cons_succ, i64_w, i32_w]
      rfl
     refine pure_ (i := 28) (N := some 54) (v := ?_) (a' := ?_) #[true, true, true, true, true, true, true, true, true, true, true, true, true, true, true, true, true, true, true, true, true, true, true, true, true, true, true, true, true] rfl rfl (by kernel_rfl) (fun _ _ _ h => h) (Or.inl ⟨by rfl, ?_⟩) ?_ ?_
     rotate_left
     ·intro w'
      go_simp
      with_reducible rfl
     rotate_left
     ·simp only [Act.put, List.setIfInBounds_toArray, List.set_cons_zero, List.set_cons_succ, i64_w, i32_w]
      rfl
     refine done_ (by kernel_rfl) ?_
     clear fx hHeld l_BN q_BN_0 q_BN_1 q_BN_2 q_BN_3 q_BN_4 l_BM q_BM_0 q_BM_1 q_BM_2 q_BM_3 q_BM_4 l_BK q_BK_0 q_BK_1 q_BK_2 q_BK_3 q_BK_4
     replace HT := Lib.hid (HT.out.below hbR)
     replace HR3 := Lib.hid (Kd.C_below HR3.out hbR)
     replace HR4 := Lib.hid (Kd.C_below HR4.out hbR)
     replace HQ3 := Lib.hid (Kd.C_below HQ3.out hbR)
     replace HQ4 := Lib.hid (Kd.C_below HQ4.out hbR)
     replace HS3 := Lib.hid (Kd.C_below HS3.out hbR)
     replace HS4 := Lib.hid (Kd.C_below HS4.out hbR)
     replace HB := Lib.hid (below_step HB.out hbR)
     replace BN := Lib.hid (blk_below BN.out hbR)
     replace BM := Lib.hid (blk_below BM.out hbR)
     replace BK := Lib.hid (blk_below BK.out hbR)
     clear hbR
     have l_BN : w.heap.size < w8.heap.size := blk_lt BN.out
     have q_BN_0 : w8.cell? ⟨w.heap.size, 0, none⟩ = some (.int .i64 x0) := (blk_cell BN.out 0).trans rfl
     have q_BN_1 : w8.cell? ⟨w.heap.size, 1, none⟩ = some (.int .i64 x1) := (blk_cell BN.out 1).trans rfl
     have q_BN_2 : w8.cell? ⟨w.heap.size, 2, none⟩ = some (.int .i64 x2) := (blk_cell BN.out 2).trans rfl
     have q_BN_3 : w8.cell? ⟨w.heap.size, 3, none⟩ = some (.slice A3 l3.length c3) := (blk_cell BN.out 3).trans rfl
     have q_BN_4 : w8.cell? ⟨w.heap.size, 4, none⟩ = some (.slice A4 l4.length c4) := (blk_cell BN.out 4).trans rfl
     go_upto_region 6 with fail
     clear l_BN q_BN_0 q_BN_1 q_BN_2 q_BN_3 q_BN_4
     refine wp_at (fun W1 hW => ?_)
     have BT0 : Hid (W1.heap[w8.heap.size]? = some (.cells #[.int .i64 x0, .int .i64 x1, .int .i64 x2, .slice A3 l3.length c3, .slice A4 l4.length c4] 25 (0, 0))) := Lib.hid (by rw [hW]; exact heap_alloc_new _ _)
     have hb81 : Below w8.heap.size w8 W1 := by rw [hW]; exact (Below.refl _ _).alloc (Nat.le_refl _) _
     clear hW
     have q_s4 : W1.cell? ⟨w.heap.size, 4, none⟩ = some (.slice A4 l4.length c4) := (blk_cell (blk_below BN.out hb81) 4).trans rfl
     have q_m0 : W1.cell? ⟨w.heap.size + 1, 0, none⟩ = some (.int .i64 y0) := (blk_cell (blk_below BM.out hb81) 0).trans rfl
     have q_m1 : W1.cell? ⟨w.heap.size + 1, 1, none⟩ = some (.int .i64 y1) := (blk_cell (blk_below BM.out hb81) 1).trans rfl
     have q_m2 : W1.cell? ⟨w.heap.size + 1, 2, none⟩ = some (.int .i64 y2) := (blk_cell (blk_below BM.out hb81) 2).trans rfl
     have q_m3 : W1.cell? ⟨w.heap.size + 1, 3, none⟩ = some (.slice F3 m3.length f3) := (blk_cell (blk_below BM.out hb81) 3).trans rfl
     have q_m4 : W1.cell? ⟨w.heap.size + 1, 4, none⟩ = some (.slice F4 m4.length f4) := (blk_cell (blk_below BM.out hb81) 4).trans rfl
     obtain ⟨rowsN, hRK, hRC⟩ := rows_of_C HR4.out
     have hrl : rowsN.length = l4.length := hRK.1
     refine start_ (n := 9) (S := fun w' => w'.cell? ⟨w.heap.size, 4, none⟩ = some (.slice A4 l4.length c4) ∧ w'.cell? ⟨w.heap.size + 1, 0, none⟩ = some (.int .i64 y0) ∧ w'.cell? ⟨w.heap.size + 1, 1, none⟩ = some (.int .i64 y1) ∧ w'.cell? ⟨w.heap.size + 1, 2, none⟩ = some (.int .i64 y2) ∧ w'.cell? ⟨w.heap.size + 1, 3, none⟩ = some (.slice F3 m3.length f3) ∧ w'.cell? ⟨w.heap.size + 1, 4, none⟩ = some (.slice F4 m4.length f4)) (ds := [8]) #[false, false, false, false, false, false, false, false, false] (by kernel_rfl) rfl rfl ⟨q_s4, q_m0, q_m1, q_m2, q_m3, q_m4⟩ (fun hHeld => ?_)
     obtain ⟨wd, hwd⟩ : ∃ W, W = W1.drew := ⟨_, rfl⟩
     rw [← hwd] at hHeld ⊢
     have hb1d : Below W1.heap.size W1 wd := by rw [hwd]; exact (Below.refl _ _).drew
     clear hwd q_s4 q_m0 q_m1 q_m2 q_m3 q_m4
     have hb8d : Below w8.heap.size w8 wd := hb81.trans (hb1d.mono hb81.size)
     have BT_ := Lib.hid (blk_below BT0.out hb1d)
     have HC4 := Lib.hid (Kd.C_below hRC hb8d)
     have HRK := Lib.hid hRK
     clear hRC hRK BT0
     have hHd := hHeld
     obtain ⟨qd_s4, qd_m0, qd_m1, qd_m2, qd_m3, qd_m4⟩ := hHd
     have l_src : w.heap.size < wd.heap.size := blk_lt (blk_below BN.out hb8d)
     have l_more : w.heap.size + 1 < wd.heap.size := blk_lt (blk_below BM.out hb8d)
     refine pure_ (i := 1) (N := some 57) (v := ?_) (a' := ?_) #[false, true, false, false, false, false, false, false, false] rfl rfl (by kernel_rfl) (fun _ _ _ h => h) (Or.inl ⟨by rfl, ?_⟩) ?_ ?_
     rotate_left
     ·intro w'
      go_simp
      with_reducible rfl
     rotate_left
     ·simp only [Act.put, List.setIfInBounds_toArray, List.set_cons_zero, List.set_cons_succ, i64_w, i32_w]
      rfl
     refine take_ (i := 2) (N := some 58) (v := ?_) (a' := ?_) #[false, true, true, false, false, false, false, false, false] rfl rfl (by kernel_rfl) (fun _ _ _ h => h) (Or.inl ⟨by rfl, ?_⟩) hHeld ?_ ?_
     rotate_left
     ·rintro w' ⟨s0, s1, s2, s3, s4, s5⟩
      go_simp
      with_reducible rfl
     rotate_left
     ·simp only [Act.put, List.setIfInBounds_toArray, List.set_cons_zero, List.set_cons_succ, i64_w, i32_w]
      rfl
     refine take_ (i := 4) (N := some 60) (v := ?_) (a' := ?_) #[false, true, true, false, true, false, false, false, false] rfl rfl (by kernel_rfl) (fun _ _ _ h => h) (Or.inl ⟨by rfl, ?_⟩) hHeld ?_ ?_
     rotate_left
     ·rintro w' ⟨s0, s1, s2, s3, s4, s5⟩
      go_simp
      with_reducible rfl
     rotate_left
     ·simp only [Act.put, List.setIfInBounds_toArray, List.set_cons_zero, List.set_cons_succ, i64_w, i32_w]
      rfl
     refine join_ (σ := Value × Value × Value) 3 #[true, true, true, true, true, true, false, false, false] (fun s_ => [(56, s_.1), (59, s_.2.1), (61, s_.2.2)]) (fun s_ w' => (w'.cell? ⟨w.heap.size, 4, none⟩ = some (.slice A4 l4.length c4) ∧ w'.cell? ⟨w.heap.size + 1, 0, none⟩ = some (.int .i64 y0) ∧ w'.cell? ⟨w.heap.size + 1, 1, none⟩ = some (.int .i64 y1) ∧ w'.cell? ⟨w.heap.size + 1, 2, none⟩ = some (.int .i64 y2) ∧ w'.cell? ⟨w.heap.size + 1, 3, none⟩ = some (.slice F3 m3.length f3) ∧ w'.cell? ⟨w.heap.size + 1, 4, none⟩ = some (.slice F4 m4.length f4)) ∧ Below wd.heap.size wd w' ∧ Hid ((Kd.raw 5).R 25 w' wd.heap.size (fun _ => True) s_.2.1 ([] ++ rowsN)) ∧ Hid ((Kd.raw 5).R 25 w' wd.heap.size (fun _ => True) s_.2.2 [[.int .i64 y0, .int .i64 y1, .int .i64 y2, .slice F3 m3.length f3, .slice F4 m4.length f4]])) ?_ ?_
     rotate_left
     ·intro hCont
      refine two_ (i := 0) (j := 5) (Ni := some 56) (Nj := some 61) #[true, true, true, false, true, false, false, false, false] #[false, true, true, false, true, true, false, false, false] rfl rfl rfl rfl (by kernel_rfl) (by decide) (by decide) (fun K hK => ?_) (fun K hK => ?_)
      ·skip
       refine Kd.R_lit_step (Kd.raw 5) (w0 := wd) wd.heap.size 25 ?hg (N := 56) ?hd (xs := []) (inner := []) (ok := fun _ => True) (okp := fun _ => False) ?hr ?hp (fun _ hk => hk.elim) trivial (Below.refl _ _) (Nat.le_refl _) (by simp) ?_; (case hd => rfl); (case hg => rfl); (case hr => first | (go_simp; done) | (go_simp; rfl)); (case hp => exact (Reps.none _ _))
       intro v0 we0 ho hb hg hnew
       have H0 := Lib.hid ho
       have n_hb := hb
       have hbd := n_hb
       clear n_hb hb ho hg
       refine hK.out _ _ ⟨(hbd.cell (p := ⟨w.heap.size, 4, none⟩) l_src).trans qd_s4, (hbd.cell (p := ⟨w.heap.size + 1, 0, none⟩) l_more).trans qd_m0, (hbd.cell (p := ⟨w.heap.size + 1, 1, none⟩) l_more).trans qd_m1, (hbd.cell (p := ⟨w.heap.size + 1, 2, none⟩) l_more).trans qd_m2, (hbd.cell (p := ⟨w.heap.size + 1, 3, none⟩) l_more).trans qd_m3, (hbd.cell (p := ⟨w.heap.size + 1, 4, none⟩) l_more).trans qd_m4⟩ (fun hHeld => ?_)
       clear hK K
       refine norm_ (a' := ?_) ?_ ?_
       rotate_left
       ·show Act.put _ (some 56) _ = _
        simp only [Act.put, List.setIfInBounds_toArray, List.set_cons_zero, List.set_cons_succ, i64_w, i32_w]
        rfl
       refine two_ (i := 3) (j := 5) (Ni := some 59) (Nj := some 61) #[true, true, true, true, true, false, false, false, false] #[true, true, true, false, true, true, false, false, false] rfl rfl rfl rfl (by kernel_rfl) (by decide) (by decide) (fun K hK => ?_) (fun K hK => ?_)
       ·skip
        refine Kd.R_append_rows_step (Kd.raw 5) (Rr := Kd.K (Kd.raw 5) wd) (w0 := wd) wd.heap.size (by rfl) (.tmp 56) (.tmp 58) 23 25 (.agg #[(.int .i64 0), (.int .i64 0), (.int .i64 0), (.slice none 0 0), (.slice none 0 0)]) 72 rfl Tryd.underlying23 info25 rfl (by decide) (by omega) v0 [] rowsN _ _ _ (fun _ => True) (fun _ => False) rfl rfl ?aO ?aR (fun _ _ h => h) (fun _ h => h.elim) (fun _ _ => trivial) ?aB ?aS ?aL ?_
        (case aO => exact H0.out)
        (case aR => exact Kd.C_below HC4.out hbd)
        (case aB => exact hbd)
        (case aS => exact hbd.size)
        (case aL => have := HL4.out; simp only [List.length_nil]; omega)
        intro v3 we1 ho hb hg hat
        have H3 := Lib.hid ho
        have n_hb := hb
        clear hbd
        have hbd := n_hb
        clear n_hb hb ho hg
        refine hK.out _ _ ⟨(hbd.cell (p := ⟨w.heap.size, 4, none⟩) l_src).trans qd_s4, (hbd.cell (p := ⟨w.heap.size + 1, 0, none⟩) l_more).trans qd_m0, (hbd.cell (p := ⟨w.heap.size + 1, 1, none⟩) l_more).trans qd_m1, (hbd.cell (p := ⟨w.heap.size + 1, 2, none⟩) l_more).trans qd_m2, (hbd.cell (p := ⟨w.heap.size + 1, 3, none⟩) l_more).trans qd_m3, (hbd.cell (p := ⟨w.heap.size + 1, 4, none⟩) l_more).trans qd_m4⟩ (fun hHeld => ?_)
        clear hK K
        refine norm_ (a' := ?_) ?_ ?_
        rotate_left
        ·show Act.put _ (some 59) _ = _
         simp only [Act.put, List.setIfInBounds_toArray, List.set_cons_zero, List.set_cons_succ, i64_w, i32_w]
         rfl
        refine one_ (i := 5) (N := some 61) #[true, true, true, true, true, true, false, false, false] rfl rfl (by kernel_rfl) (by decide) (fun K hK => ?_)
        refine Kd.R_lit_step (Kd.raw 5) (w0 := wd) wd.heap.size 25 ?hg (N := 61) ?hd (xs := [[.int .i64 y0, .int .i64 y1, .int .i64 y2, .slice F3 m3.length f3, .slice F4 m4.length f4]]) (inner := [.int .i64 y0, .int .i64 y1, .int .i64 y2, .slice F3 m3.length f3, .slice F4 m4.length f4]) (ok := fun _ => True) (okp := fun _ => False) ?hr ?hp (fun _ hk => hk.elim) trivial hbd hbd.size (by simp) ?_; (case hd => rfl); (case hg => rfl); (case hr => first | (go_simp; done) | (go_simp; rfl)); (case hp => exact (Reps.c5 (show Kd.M (Kd.raw 5) _ _ _ [.int .i64 y0, .int .i64 y1, .int .i64 y2, .slice F3 m3.length f3, .slice F4 m4.length f4] [.int .i64 y0, .int .i64 y1, .int .i64 y2, .slice F3 m3.length f3, .slice F4 m4.length f4] from raw_M rfl (by simp [Value.oneCell'])) (Reps.none _ _)))
        intro v5 we2 ho hb hg hnew
        replace H3 := Lib.hid (raw_kept H3.out hg (fun k _ h => by cases h))
        have H5 := Lib.hid ho
        have n_hb := hb
        clear hbd
        have hbd := n_hb
        clear n_hb hb ho hg
        refine hK.out _ _ ⟨(hbd.cell (p := ⟨w.heap.size, 4, none⟩) l_src).trans qd_s4, (hbd.cell (p := ⟨w.heap.size + 1, 0, none⟩) l_more).trans qd_m0, (hbd.cell (p := ⟨w.heap.size + 1, 1, none⟩) l_more).trans qd_m1, (hbd.cell (p := ⟨w.heap.size + 1, 2, none⟩) l_more).trans qd_m2, (hbd.cell (p := ⟨w.heap.size + 1, 3, none⟩) l_more).trans qd_m3, (hbd.cell (p := ⟨w.heap.size + 1, 4, none⟩) l_more).trans qd_m4⟩ (fun hHeld => ?_)
        clear hK K
        refine norm_ (a' := ?_) ?_ ?_
        rotate_left
        ·show Act.put _ (some 61) _ = _
         simp only [Act.put, List.setIfInBounds_toArray, List.set_cons_zero, List.set_cons_succ, i64_w, i32_w]
         rfl
        exact norm_ (by simp only [putAll, Act.put, List.setIfInBounds_toArray, List.set_cons_zero, List.set_cons_succ]) (hCont (v0, v3, v5) _ ⟨⟨(hbd.cell (p := ⟨w.heap.size, 4, none⟩) l_src).trans qd_s4, (hbd.cell (p := ⟨w.heap.size + 1, 0, none⟩) l_more).trans qd_m0, (hbd.cell (p := ⟨w.heap.size + 1, 1, none⟩) l_more).trans qd_m1, (hbd.cell (p := ⟨w.heap.size + 1, 2, none⟩) l_more).trans qd_m2, (hbd.cell (p := ⟨w.heap.size + 1, 3, none⟩) l_more).trans qd_m3, (hbd.cell (p := ⟨w.heap.size + 1, 4, none⟩) l_more).trans qd_m4⟩, hbd, H3, H5⟩)
       ·skip
        refine Kd.R_lit_step (Kd.raw 5) (w0 := wd) wd.heap.size 25 ?hg (N := 61) ?hd (xs := [[.int .i64 y0, .int .i64 y1, .int .i64 y2, .slice F3 m3.length f3, .slice F4 m4.length f4]]) (inner := [.int .i64 y0, .int .i64 y1, .int .i64 y2, .slice F3 m3.length f3, .slice F4 m4.length f4]) (ok := fun _ => True) (okp := fun _ => False) ?hr ?hp (fun _ hk => hk.elim) trivial hbd hbd.size (by simp) ?_; (case hd => rfl); (case hg => rfl); (case hr => first | (go_simp; done) | (go_simp; rfl)); (case hp => exact (Reps.c5 (show Kd.M (Kd.raw 5) _ _ _ [.int .i64 y0, .int .i64 y1, .int .i64 y2, .slice F3 m3.length f3, .slice F4 m4.length f4] [.int .i64 y0, .int .i64 y1, .int .i64 y2, .slice F3 m3.length f3, .slice F4 m4.length f4] from raw_M rfl (by simp [Value.oneCell'])) (Reps.none _ _)))
        intro v5 we1 ho hb hg hnew
        have D05 : Hid (∀ k, v5.ownBlock = some k → v0.ownBlock ≠ some k) := fun k hk he => by obtain ⟨b, e_, hle⟩ := hnew; rw [e_] at hk; have := (raw_block H0.out he).2; injection hk with hk; omega
        replace H0 := Lib.hid (raw_kept H0.out hg (fun k _ h => by cases h))
        have H5 := Lib.hid ho
        have n_hb := hb
        clear hbd
        have hbd := n_hb
        clear n_hb hb ho hg
        refine hK.out _ _ ⟨(hbd.cell (p := ⟨w.heap.size, 4, none⟩) l_src).trans qd_s4, (hbd.cell (p := ⟨w.heap.size + 1, 0, none⟩) l_more).trans qd_m0, (hbd.cell (p := ⟨w.heap.size + 1, 1, none⟩) l_more).trans qd_m1, (hbd.cell (p := ⟨w.heap.size + 1, 2, none⟩) l_more).trans qd_m2, (hbd.cell (p := ⟨w.heap.size + 1, 3, none⟩) l_more).trans qd_m3, (hbd.cell (p := ⟨w.heap.size + 1, 4, none⟩) l_more).trans qd_m4⟩ (fun hHeld => ?_)
        clear hK K
        refine norm_ (a' := ?_) ?_ ?_
        rotate_left
        ·show Act.put _ (some 61) _ = _
         simp only [Act.put, List.setIfInBounds_toArray, List.set_cons_zero, List.set_cons_succ, i64_w, i32_w]
         rfl
        refine one_ (i := 3) (N := some 59) #[true, true, true, true, true, true, false, false, false] rfl rfl (by kernel_rfl) (by decide) (fun K hK => ?_)
        refine Kd.R_append_rows_step (Kd.raw 5) (Rr := Kd.K (Kd.raw 5) wd) (w0 := wd) wd.heap.size (by rfl) (.tmp 56) (.tmp 58) 23 25 (.agg #[(.int .i64 0), (.int .i64 0), (.int .i64 0), (.slice none 0 0), (.slice none 0 0)]) 72 rfl Tryd.underlying23 info25 rfl (by decide) (by omega) v0 [] rowsN _ _ _ (fun _ => True) (fun _ => False) rfl rfl ?aO ?aR (fun _ _ h => h) (fun _ h => h.elim) (fun _ _ => trivial) ?aB ?aS ?aL ?_
        (case aO => exact H0.out)
        (case aR => exact Kd.C_below HC4.out hbd)
        (case aB => exact hbd)
        (case aS => exact hbd.size)
        (case aL => have := HL4.out; simp only [List.length_nil]; omega)
        intro v3 we2 ho hb hg hat
        replace H5 := Lib.hid (raw_kept H5.out hg (fun k hk => D05.out k hk))
        have H3 := Lib.hid ho
        have n_hb := hb
        clear hbd
        have hbd := n_hb
        clear n_hb hb ho hg
        refine hK.out _ _ ⟨(hbd.cell (p := ⟨w.heap.size, 4, none⟩) l_src).trans qd_s4, (hbd.cell (p := ⟨w.heap.size + 1, 0, none⟩) l_more).trans qd_m0, (hbd.cell (p := ⟨w.heap.size + 1, 1, none⟩) l_more).trans qd_m1, (hbd.cell (p := ⟨w.heap.size + 1, 2, none⟩) l_more).trans qd_m2, (hbd.cell (p := ⟨w.heap.size + 1, 3, none⟩) l_more).trans qd_m3, (hbd.cell (p := ⟨w.heap.size + 1, 4, none⟩) l_more).trans qd_m4⟩ (fun hHeld => ?_)
        clear hK K
        refine norm_ (a' := ?_) ?_ ?_
        rotate_left
        ·show Act.put _ (some 59) _ = _
         simp only [Act.put, List.setIfInBounds_toArray, List.set_cons_zero, List.set_cons_succ, i64_w, i32_w]
         rfl
        exact norm_ (by simp only [putAll, Act.put, List.setIfInBounds_toArray, List.set_cons_zero, List.set_cons_succ]) (hCont (v0, v3, v5) _ ⟨⟨(hbd.cell (p := ⟨w.heap.size, 4, none⟩) l_src).trans qd_s4, (hbd.cell (p := ⟨w.heap.size + 1, 0, none⟩) l_more).trans qd_m0, (hbd.cell (p := ⟨w.heap.size + 1, 1, none⟩) l_more).trans qd_m1, (hbd.cell (p := ⟨w.heap.size + 1, 2, none⟩) l_more).trans qd_m2, (hbd.cell (p := ⟨w.heap.size + 1, 3, none⟩) l_more).trans qd_m3, (hbd.cell (p := ⟨w.heap.size + 1, 4, none⟩) l_more).trans qd_m4⟩, hbd, H3, H5⟩)
      ·skip
       refine Kd.R_lit_step (Kd.raw 5) (w0 := wd) wd.heap.size 25 ?hg (N := 61) ?hd (xs := [[.int .i64 y0, .int .i64 y1, .int .i64 y2, .slice F3 m3.length f3, .slice F4 m4.length f4]]) (inner := [.int .i64 y0, .int .i64 y1, .int .i64 y2, .slice F3 m3.length f3, .slice F4 m4.length f4]) (ok := fun _ => True) (okp := fun _ => False) ?hr ?hp (fun _ hk => hk.elim) trivial (Below.refl _ _) (Nat.le_refl _) (by simp) ?_; (case hd => rfl); (case hg => rfl); (case hr => first | (go_simp; done) | (go_simp; rfl)); (case hp => exact (Reps.c5 (show Kd.M (Kd.raw 5) _ _ _ [.int .i64 y0, .int .i64 y1, .int .i64 y2, .slice F3 m3.length f3, .slice F4 m4.length f4] [.int .i64 y0, .int .i64 y1, .int .i64 y2, .slice F3 m3.length f3, .slice F4 m4.length f4] from raw_M rfl (by simp [Value.oneCell'])) (Reps.none _ _)))
       intro v5 we0 ho hb hg hnew
       have H5 := Lib.hid ho
       have n_hb := hb
       have hbd := n_hb
       clear n_hb hb ho hg
       refine hK.out _ _ ⟨(hbd.cell (p := ⟨w.heap.size, 4, none⟩) l_src).trans qd_s4, (hbd.cell (p := ⟨w.heap.size + 1, 0, none⟩) l_more).trans qd_m0, (hbd.cell (p := ⟨w.heap.size + 1, 1, none⟩) l_more).trans qd_m1, (hbd.cell (p := ⟨w.heap.size + 1, 2, none⟩) l_more).trans qd_m2, (hbd.cell (p := ⟨w.heap.size + 1, 3, none⟩) l_more).trans qd_m3, (hbd.cell (p := ⟨w.heap.size + 1, 4, none⟩) l_more).trans qd_m4⟩ (fun hHeld => ?_)
       clear hK K
       refine norm_ (a' := ?_) ?_ ?_
       rotate_left
       ·show Act.put _ (some 61) _ = _
        simp only [Act.put, List.setIfInBounds_toArray, List.set_cons_zero, List.set_cons_succ, i64_w, i32_w]
        rfl
       refine one_ (i := 0) (N := some 56) #[true, true, true, false, true, true, false, false, false] rfl rfl (by kernel_rfl) (by decide) (fun K hK => ?_)
       refine Kd.R_lit_step (Kd.raw 5) (w0 := wd) wd.heap.size 25 ?hg (N := 56) ?hd (xs := []) (inner := []) (ok := fun _ => True) (okp := fun _ => False) ?hr ?hp (fun _ hk => hk.elim) trivial hbd hbd.size (by simp) ?_; (case hd => rfl); (case hg => rfl); (case hr => first | (go_simp; done) | (go_simp; rfl)); (case hp => exact (Reps.none _ _))
       intro v0 we1 ho hb hg hnew
       have D05 : Hid (∀ k, v5.ownBlock = some k → v0.ownBlock ≠ some k) := fun k hk he => by obtain ⟨b, e_, hle⟩ := hnew; rw [e_] at he; have := (raw_block H5.out hk).2; injection he with he; omega
       replace H5 := Lib.hid (raw_kept H5.out hg (fun k _ h => by cases h))
       have H0 := Lib.hid ho
       have n_hb := hb
       clear hbd
       have hbd := n_hb
       clear n_hb hb ho hg
       refine hK.out _ _ ⟨(hbd.cell (p := ⟨w.heap.size, 4, none⟩) l_src).trans qd_s4, (hbd.cell (p := ⟨w.heap.size + 1, 0, none⟩) l_more).trans qd_m0, (hbd.cell (p := ⟨w.heap.size + 1, 1, none⟩) l_more).trans qd_m1, (hbd.cell (p := ⟨w.heap.size + 1, 2, none⟩) l_more).trans qd_m2, (hbd.cell (p := ⟨w.heap.size + 1, 3, none⟩) l_more).trans qd_m3, (hbd.cell (p := ⟨w.heap.size + 1, 4, none⟩) l_more).trans qd_m4⟩ (fun hHeld => ?_)
       clear hK K
       refine norm_ (a' := ?_) ?_ ?_
       rotate_left
       ·show Act.put _ (some 56) _ = _
        simp only [Act.put, List.setIfInBounds_toArray, List.set_cons_zero, List.set_cons_succ, i64_w, i32_w]
        rfl
       refine one_ (i := 3) (N := some 59) #[true, true, true, true, true, true, false, false, false] rfl rfl (by kernel_rfl) (by decide) (fun K hK => ?_)
       refine Kd.R_append_rows_step (Kd.raw 5) (Rr := Kd.K (Kd.raw 5) wd) (w0 := wd) wd.heap.size (by rfl) (.tmp 56) (.tmp 58) 23 25 (.agg #[(.int .i64 0), (.int .i64 0), (.int .i64 0), (.slice none 0 0), (.slice none 0 0)]) 72 rfl Tryd.underlying23 info25 rfl (by decide) (by omega) v0 [] rowsN _ _ _ (fun _ => True) (fun _ => False) rfl rfl ?aO ?aR (fun _ _ h => h) (fun _ h => h.elim) (fun _ _ => trivial) ?aB ?aS ?aL ?_
       (case aO => exact H0.out)
       (case aR => exact Kd.C_below HC4.out hbd)
       (case aB => exact hbd)
       (case aS => exact hbd.size)
       (case aL => have := HL4.out; simp only [List.length_nil]; omega)
       intro v3 we2 ho hb hg hat
       replace H5 := Lib.hid (raw_kept H5.out hg (fun k hk => D05.out k hk))
       have H3 := Lib.hid ho
       have n_hb := hb
       clear hbd
       have hbd := n_hb
       clear n_hb hb ho hg
       refine hK.out _ _ ⟨(hbd.cell (p := ⟨w.heap.size, 4, none⟩) l_src).trans qd_s4, (hbd.cell (p := ⟨w.heap.size + 1, 0, none⟩) l_more).trans qd_m0, (hbd.cell (p := ⟨w.heap.size + 1, 1, none⟩) l_more).trans qd_m1, (hbd.cell (p := ⟨w.heap.size + 1, 2, none⟩) l_more).trans qd_m2, (hbd.cell (p := ⟨w.heap.size + 1, 3, none⟩) l_more).trans qd_m3, (hbd.cell (p := ⟨w.heap.size + 1, 4, none⟩) l_more).trans qd_m4⟩ (fun hHeld => ?_)
       clear hK K
       refine norm_ (a' := ?_) ?_ ?_
       rotate_left
       ·show Act.put _ (some 59) _ = _
        simp only [Act.put, List.setIfInBounds_toArray, List.set_cons_zero, List.set_cons_succ, i64_w, i32_w]
        rfl
       exact norm_ (by simp only [putAll, Act.put, List.setIfInBounds_toArray, List.set_cons_zero, List.set_cons_succ]) (hCont (v0, v3, v5) _ ⟨⟨(hbd.cell (p := ⟨w.heap.size, 4, none⟩) l_src).trans qd_s4, (hbd.cell (p := ⟨w.heap.size + 1, 0, none⟩) l_more).trans qd_m0, (hbd.cell (p := ⟨w.heap.size + 1, 1, none⟩) l_more).trans qd_m1, (hbd.cell (p := ⟨w.heap.size + 1, 2, none⟩) l_more).trans qd_m2, (hbd.cell (p := ⟨w.heap.size + 1, 3, none⟩) l_more).trans qd_m3, (hbd.cell (p := ⟨w.heap.size + 1, 4, none⟩) l_more).trans qd_m4⟩, hbd, H3, H5⟩)
     rintro ⟨v0, v3, v5⟩ wj ⟨hS_, hbj, H3, H5⟩
     have hHeld : wj.cell? ⟨w.heap.size, 4, none⟩ = some (.slice A4 l4.length c4) ∧ wj.cell? ⟨w.heap.size + 1, 0, none⟩ = some (.int .i64 y0) ∧ wj.cell? ⟨w.heap.size + 1, 1, none⟩ = some (.int .i64 y1) ∧ wj.cell? ⟨w.heap.size + 1, 2, none⟩ = some (.int .i64 y2) ∧ wj.cell? ⟨w.heap.size + 1, 3, none⟩ = some (.slice F3 m3.length f3) ∧ wj.cell? ⟨w.heap.size + 1, 4, none⟩ = some (.slice F4 m4.length f4) := hS_
     clear hS_
     obtain ⟨A5, c5, rfl, _, hC5⟩ := Kd.R_reads H5.out
     have HC5 := Lib.hid hC5
     clear hC5 H5
     refine norm_ (a' := ?_) ?_ ?_
     rotate_left
     ·simp only [putAll, Act.put, List.setIfInBounds_toArray, List.set_cons_zero, List.set_cons_succ]
      rfl
     refine one_ (i := 6) (N := some 62) #[true, true, true, true, true, true, true, false, false] rfl rfl (by kernel_rfl) (by decide) (fun K hK => ?_)
     refine Kd.R_append_rows_step (Kd.raw 5) (Rr := Kd.K (Kd.raw 5) wj) (w0 := wd) wd.heap.size (by rfl) (.tmp 59) (.tmp 61) 23 25 (.agg #[(.int .i64 0), (.int .i64 0), (.int .i64 0), (.slice none 0 0), (.slice none 0 0)]) 72 rfl Tryd.underlying23 info25 rfl (by decide) (by omega) v3 ([] ++ rowsN) [[.int .i64 y0, .int .i64 y1, .int .i64 y2, .slice F3 m3.length f3, .slice F4 m4.length f4]] _ _ _ (fun _ => True) (fun _ => False) rfl rfl ?aO ?aR (fun _ _ h => h) (fun _ h => h.elim) (fun _ _ => trivial) ?aB ?aS ?aL ?_
     (case aO => exact H3.out)
     (case aR => exact HC5.out)
     (case aB => exact hbj)
     (case aS => exact hbj.size)
     (case aL => have := HL4.out; simp only [List.nil_append, List.length_singleton]; omega)
     intro v6 wk ho hb hg hat
     have H6 := Lib.hid ho
     have hbk := hb
     clear ho hb hg hat H3 HC5
     refine hK.out _ _ ⟨(hbk.cell (p := ⟨w.heap.size, 4, none⟩) l_src).trans qd_s4, (hbk.cell (p := ⟨w.heap.size + 1, 0, none⟩) l_more).trans qd_m0, (hbk.cell (p := ⟨w.heap.size + 1, 1, none⟩) l_more).trans qd_m1, (hbk.cell (p := ⟨w.heap.size + 1, 2, none⟩) l_more).trans qd_m2, (hbk.cell (p := ⟨w.heap.size + 1, 3, none⟩) l_more).trans qd_m3, (hbk.cell (p := ⟨w.heap.size + 1, 4, none⟩) l_more).trans qd_m4⟩ (fun hHeld => ?_)
     clear hK K
     refine norm_ (a' := ?_) ?_ ?_
     rotate_left
     ·show Act.put _ (some 62) _ = _
      simp only [Act.put, List.setIfInBounds_toArray, List.set_cons_zero, List.set_cons_succ, i64_w, i32_w]
      rfl
     refine pure_ (i := 7) (N := some 63) (v := ?_) (a' := ?_) #[true, true, true, true, true, true, true, true, false] rfl rfl (by kernel_rfl) (fun _ _ _ h => h) (Or.inl ⟨by rfl, ?_⟩) ?_ ?_
     rotate_left
     ·intro w'
      go_simp
      with_reducible rfl
     rotate_left
     ·simp only [Act.put, List.setIfInBounds_toArray, List.set_cons_zero, List.set_cons_succ, i64_w, i32_w]
      rfl
     refine last_ (i := 8) (N := none) #[true, true, true, true, true, true, true, true, true] rfl rfl (by kernel_rfl) (by decide) (fun K hK => ?_)
     have BT6 := blk_below BT_.out hbk
     have lt6 := blk_lt BT6
     have qt6 : wk.cell? ⟨w8.heap.size, 4, none⟩ = some (.slice A4 l4.length c4) := (blk_cell BT6 4).trans rfl
     have ft6 := blk_frozen BT6 4
     clear BT6
     obtain ⟨A6, c6, rfl, hl6, hC6⟩ := Kd.R_reads H6.out
     clear hC6
     refine skip_ (w1 := ?_) (by rfl) rfl ?_ ?_
     rotate_left
     ·go_simp
      rfl
     refine hK.out _ _ ?_
     clear hK K
     refine done_ (by kernel_rfl) ?_
     obtain ⟨Y4, hL⟩ : ∃ L, l4 ++ [⟨y0, y1, y2, m3, m4⟩] = L := ⟨_, rfl⟩
     have hLL : l4.length + 1 = Y4.length := by rw [← hL]; simp
     rw [hLL]
     obtain ⟨wf, hwf⟩ : ∃ W, W = wk.setCell ⟨w8.heap.size, 4, none⟩ (.slice A6 Y4.length c6) := ⟨_, rfl⟩
     rw [← hwf]
     have hb8f : Below w8.heap.size w8 wf := by rw [hwf]; exact (hb8d.trans (hbk.mono hb8d.size)).setCell (p := ⟨w8.heap.size, 4, none⟩) (Nat.le_refl _) _
     have hBX : wf.heap[w8.heap.size]? = some (.cells #[.int .i64 x0, .int .i64 x1, .int .i64 x2, .slice A3 l3.length c3, .slice A6 Y4.length c6] 25 (0, 0)) := by rw [hwf]; exact blk_put (blk_below BT_.out hbk) 4 _ rfl
     have hR6 := raw_far (u := .slice A6 Y4.length c6) H6.out (p := ⟨w8.heap.size, 4, none⟩) (Nat.lt_of_lt_of_le (blk_lt BT_.out) (Nat.le_refl _))
     rw [← hwf] at hR6
     have hC6 := (Kd.R_reads' hR6).2.2
     have hrk := ((RowsK.nil k25 w8).append HRK.out).append (RowsK.one (k25_mk w8 ⟨y0, y1, y2, m3, m4⟩ hd3 HQ3.out hd4 HQ4.out))
     rw [List.nil_append, hL] at hrk
     have hCx := C_of_rows hC6 (hrk.below hb8f)
     rw [show List.length (([] : List (List Value)) ++ rowsN ++ [([.int .i64 y0, .int .i64 y1, .int .i64 y2, .slice F3 m3.length f3, .slice F4 m4.length f4] : List Value)]) = Y4.length by rw [← hLL]; simp [hrl]] at hCx
     have hcL : Y4.length ≤ c6 := by have := hl6; rw [← hLL]; simpa [hrl] using this
     have HLd := Lib.hid hL
     have HX4 := Lib.hid hCx
     clear hCx hC6 hrk hR6 hwf H6 BT_ HRK HC4 hHeld qt6 ft6 lt6 qd_s4 qd_m0 qd_m1 qd_m2 qd_m3 qd_m4 l_src l_more hl6 hL
     replace HT := Lib.hid (HT.out.below hb8f)
     replace HR3 := Lib.hid (Kd.C_below HR3.out hb8f)
     replace HR4 := Lib.hid (Kd.C_below HR4.out hb8f)
     replace HQ3 := Lib.hid (Kd.C_below HQ3.out hb8f)
     replace HQ4 := Lib.hid (Kd.C_below HQ4.out hb8f)
     replace HS3 := Lib.hid (Kd.C_below HS3.out hb8f)
     replace HS4 := Lib.hid (Kd.C_below HS4.out hb8f)
     replace HB := Lib.hid (below_step HB.out hb8f)
     replace BN := Lib.hid (blk_below BN.out hb8f)
     replace BM := Lib.hid (blk_below BM.out hb8f)
     replace BK := Lib.hid (blk_below BK.out hb8f)
     have BX := Lib.hid hBX
     clear hBX hb8f hbk hbj hb8d hb1d hb81
     have t1 := HE1.out; have t2 := HE2.out
     rw [HLd.out] at t1 t2
     replace HE1 := Lib.hid t1; replace HE2 := Lib.hid t2
     clear t1 t2
     have l_BN : w.heap.size < wf.heap.size := blk_lt BN.out
     have q_BN_0 : wf.cell? ⟨w.heap.size, 0, none⟩ = some (.int .i64 x0) := (blk_cell BN.out 0).trans rfl
     have q_BN_1 : wf.cell? ⟨w.heap.size, 1, none⟩ = some (.int .i64 x1) := (blk_cell BN.out 1).trans rfl
     have q_BN_2 : wf.cell? ⟨w.heap.size, 2, none⟩ = some (.int .i64 x2) := (blk_cell BN.out 2).trans rfl
     have q_BN_3 : wf.cell? ⟨w.heap.size, 3, none⟩ = some (.slice A3 l3.length c3) := (blk_cell BN.out 3).trans rfl
     have q_BN_4 : wf.cell? ⟨w.heap.size, 4, none⟩ = some (.slice A4 l4.length c4) := (blk_cell BN.out 4).trans rfl
     have l_BX : w8.heap.size < wf.heap.size := blk_lt BX.out
     have q_BX_0 : wf.cell? ⟨w8.heap.size, 0, none⟩ = some (.int .i64 x0) := (blk_cell BX.out 0).trans rfl
     have q_BX_1 : wf.cell? ⟨w8.heap.size, 1, none⟩ = some (.int .i64 x1) := (blk_cell BX.out 1).trans rfl
     have q_BX_2 : wf.cell? ⟨w8.heap.size, 2, none⟩ = some (.int .i64 x2) := (blk_cell BX.out 2).trans rfl
     have q_BX_3 : wf.cell? ⟨w8.heap.size, 3, none⟩ = some (.slice A3 l3.length c3) := (blk_cell BX.out 3).trans rfl
     have q_BX_4 : wf.cell? ⟨w8.heap.size, 4, none⟩ = some (.slice A6 Y4.length c6) := (blk_cell BX.out 4).trans rfl
     go_wp2_with fail
     clear l_BN q_BN_0 q_BN_1 q_BN_2 q_BN_3 q_BN_4 l_BX q_BX_0 q_BX_1 q_BX_2 q_BX_3 q_BX_4
     refine (node_Equal.calls 0 x0 x1 x2 A3 c3 l3 A4 c4 l4 x0 x1 x2 A3 c3 l3 A6 c6 Y4 false _ HR3.out hc3 HR4.out hc4 HR3.out hc3 HX4.out hcL HE1.out).mono ?_
     rintro e w9 ⟨rfl, hb⟩
     replace HT := Lib.hid (HT.out.below hb)
     replace HR3 := Lib.hid (Kd.C_below HR3.out hb)
     replace HR4 := Lib.hid (Kd.C_below HR4.out hb)
     replace HQ3 := Lib.hid (Kd.C_below HQ3.out hb)
     replace HQ4 := Lib.hid (Kd.C_below HQ4.out hb)
     replace HS3 := Lib.hid (Kd.C_below HS3.out hb)
     replace HS4 := Lib.hid (Kd.C_below HS4.out hb)
     replace HB := Lib.hid (below_step HB.out hb)
     replace HX4 := Lib.hid (Kd.C_below HX4.out hb)
     replace BN := Lib.hid (blk_below BN.out hb)
     replace BM := Lib.hid (blk_below BM.out hb)
     replace BK := Lib.hid (blk_below BK.out hb)
     replace BX := Lib.hid (blk_below BX.out hb)
     clear hb
     have l_BN : w.heap.size < w9.heap.size := blk_lt BN.out
     have q_BN_0 : w9.cell? ⟨w.heap.size, 0, none⟩ = some (.int .i64 x0) := (blk_cell BN.out 0).trans rfl
     have q_BN_1 : w9.cell? ⟨w.heap.size, 1, none⟩ = some (.int .i64 x1) := (blk_cell BN.out 1).trans rfl
     have q_BN_2 : w9.cell? ⟨w.heap.size, 2, none⟩ = some (.int .i64 x2) := (blk_cell BN.out 2).trans rfl
     have q_BN_3 : w9.cell? ⟨w.heap.size, 3, none⟩ = some (.slice A3 l3.length c3) := (blk_cell BN.out 3).trans rfl
     have q_BN_4 : w9.cell? ⟨w.heap.size, 4, none⟩ = some (.slice A4 l4.length c4) := (blk_cell BN.out 4).trans rfl
     have l_BX : w8.heap.size < w9.heap.size := blk_lt BX.out
     have q_BX_0 : w9.cell? ⟨w8.heap.size, 0, none⟩ = some (.int .i64 x0) := (blk_cell BX.out 0).trans rfl
     have q_BX_1 : w9.cell? ⟨w8.heap.size, 1, none⟩ = some (.int .i64 x1) := (blk_cell BX.out 1).trans rfl
     have q_BX_2 : w9.cell? ⟨w8.heap.size, 2, none⟩ = some (.int .i64 x2) := (blk_cell BX.out 2).trans rfl
     have q_BX_3 : w9.cell? ⟨w8.heap.size, 3, none⟩ = some (.slice A3 l3.length c3) := (blk_cell BX.out 3).trans rfl
     have q_BX_4 : w9.cell? ⟨w8.heap.size, 4, none⟩ = some (.slice A6 Y4.length c6) := (blk_cell BX.out 4).trans rfl
     go_wp2_with fail
     clear l_BN q_BN_0 q_BN_1 q_BN_2 q_BN_3 q_BN_4 l_BX q_BX_0 q_BX_1 q_BX_2 q_BX_3 q_BX_4
     refine (node_Equal.calls 0 x0 x1 x2 A3 c3 l3 A6 c6 Y4 x0 x1 x2 A3 c3 l3 A4 c4 l4 false _ HR3.out hc3 HX4.out hcL HR3.out hc3 HR4.out hc4 HE2.out).mono ?_
     rintro e w10 ⟨rfl, hb⟩
     replace HT := Lib.hid (HT.out.below hb)
     replace HR3 := Lib.hid (Kd.C_below HR3.out hb)
     replace HR4 := Lib.hid (Kd.C_below HR4.out hb)
     replace HQ3 := Lib.hid (Kd.C_below HQ3.out hb)
     replace HQ4 := Lib.hid (Kd.C_below HQ4.out hb)
     replace HS3 := Lib.hid (Kd.C_below HS3.out hb)
     replace HS4 := Lib.hid (Kd.C_below HS4.out hb)
     replace HB := Lib.hid (below_step HB.out hb)
     replace HX4 := Lib.hid (Kd.C_below HX4.out hb)
     replace BN := Lib.hid (blk_below BN.out hb)
     replace BM := Lib.hid (blk_below BM.out hb)
     replace BK := Lib.hid (blk_below BK.out hb)
     replace BX := Lib.hid (blk_below BX.out hb)
     clear hb
     have l_BN : w.heap.size < w10.heap.size := blk_lt BN.out
     have q_BN_0 : w10.cell? ⟨w.heap.size, 0, none⟩ = some (.int .i64 x0) := (blk_cell BN.out 0).trans rfl
     have q_BN_1 : w10.cell? ⟨w.heap.size, 1, none⟩ = some (.int .i64 x1) := (blk_cell BN.out 1).trans rfl
     have q_BN_2 : w10.cell? ⟨w.heap.size, 2, none⟩ = some (.int .i64 x2) := (blk_cell BN.out 2).trans rfl
     have q_BN_3 : w10.cell? ⟨w.heap.size, 3, none⟩ = some (.slice A3 l3.length c3) := (blk_cell BN.out 3).trans rfl
     have q_BN_4 : w10.cell? ⟨w.heap.size, 4, none⟩ = some (.slice A4 l4.length c4) := (blk_cell BN.out 4).trans rfl
     have l_BM : w.heap.size + 1 < w10.heap.size := blk_lt BM.out
     have q_BM_0 : w10.cell? ⟨w.heap.size + 1, 0, none⟩ = some (.int .i64 y0) := (blk_cell BM.out 0).trans rfl
     have q_BM_1 : w10.cell? ⟨w.heap.size + 1, 1, none⟩ = some (.int .i64 y1) := (blk_cell BM.out 1).trans rfl
     have q_BM_2 : w10.cell? ⟨w.heap.size + 1, 2, none⟩ = some (.int .i64 y2) := (blk_cell BM.out 2).trans rfl
     have q_BM_3 : w10.cell? ⟨w.heap.size + 1, 3, none⟩ = some (.slice F3 m3.length f3) := (blk_cell BM.out 3).trans rfl
     have q_BM_4 : w10.cell? ⟨w.heap.size + 1, 4, none⟩ = some (.slice F4 m4.length f4) := (blk_cell BM.out 4).trans rfl
     go_wp2_with fail
     clear l_BN q_BN_0 q_BN_1 q_BN_2 q_BN_3 q_BN_4 l_BM q_BM_0 q_BM_1 q_BM_2 q_BM_3 q_BM_4
     refine (node_Equal.calls 0 x0 x1 x2 A3 c3 l3 A4 c4 l4 y0 y1 y2 F3 f3 m3 F4 f4 m4 false _ HR3.out hc3 HR4.out hc4 HQ3.out hd3 HQ4.out hd4 HAB.out).mono ?_
     rintro e w11 ⟨rfl, hb⟩
     replace HT := Lib.hid (HT.out.below hb)
     replace HR3 := Lib.hid (Kd.C_below HR3.out hb)
     replace HR4 := Lib.hid (Kd.C_below HR4.out hb)
     replace HQ3 := Lib.hid (Kd.C_below HQ3.out hb)
     replace HQ4 := Lib.hid (Kd.C_below HQ4.out hb)
     replace HS3 := Lib.hid (Kd.C_below HS3.out hb)
     replace HS4 := Lib.hid (Kd.C_below HS4.out hb)
     replace HB := Lib.hid (below_step HB.out hb)
     replace HX4 := Lib.hid (Kd.C_below HX4.out hb)
     replace BN := Lib.hid (blk_below BN.out hb)
     replace BM := Lib.hid (blk_below BM.out hb)
     replace BK := Lib.hid (blk_below BK.out hb)
     replace BX := Lib.hid (blk_below BX.out hb)
     clear hb
     go_wp2
     go_ret
     exact ⟨rfl, HB.out⟩
theorem equality_true (a b c : S25) {A3 : Option Addr} {c3 : Nat} {A4 : Option Addr} {c4 : Nat} {F3 : Option Addr} {f3 : Nat} {F4 : Option Addr} {f4 : Nat} {G3 : Option Addr} {g3 : Nat} {G4 : Option Addr} {g4 : Nat} (w : World) (HT0 : Ls.Tab w) (hok : okT a) (hs : tsize a ≤ 2000000) (hok2 : okT b) (hs2 : tsize b ≤ 2000000) (hok3 : okT c) (hs3 : tsize c ≤ 2000000)
  (hr3 : Kd.C (Kd.int .u8) w A3 a.f3.length a.f3) (hc3 : a.f3.length ≤ c3) (hr4 : Kd.C k25 w A4 a.f4.length a.f4) (hc4 : a.f4.length ≤ c4)
  (hq3 : Kd.C (Kd.int .u8) w F3 b.f3.length b.f3) (hd3 : b.f3.length ≤ f3) (hq4 : Kd.C k25 w F4 b.f4.length b.f4) (hd4 : b.f4.length ≤ f4)
  (ht3 : Kd.C (Kd.int .u8) w G3 c.f3.length c.f3) (he3 : c.f3.length ≤ g3) (ht4 : Kd.C k25 w G4 c.f4.length c.f4) (he4 : c.f4.length ≤ g4) :
  Calls Tryd.prog 4 #[.agg #[.int .i64 a.f0, .int .i64 a.f1, .int .i64 a.f2, .slice A3 a.f3.length c3, .slice A4 a.f4.length c4], .agg #[.int .i64 b.f0, .int .i64 b.f1, .int .i64 b.f2, .slice F3 b.f3.length f3, .slice F4 b.f4.length f4], .agg #[.int .i64 c.f0, .int .i64 c.f1, .int .i64 c.f2, .slice G3 c.f3.length g3, .slice G4 c.f4.length g4]] w fun e w' => e = .returned (.bool true) ∧ Below w.heap.size w w' := by
 cases a
 cases b
 cases c
 exact equality_calls _ _ _ _ _ _ _ _ _ _ _ _ _ _ _ _ _ _ _ _ _ _ _ _ _ _ _ w HT0 hok hs hok2 hs2 hok3 hs3 hr3 hc3 hr4 hc4 hq3 hd3 hq4 hd4 ht3 he3 ht4 he4
end Go.Proofs.YtmbockhcmhghlaaDoor.Pr
end
section
namespace Go.Proofs.YtmbockhcmhghlaaDoor.Pr
open Go.RowKit Go.ChangeShapes Go.WideShapes Go.ChangeAt Go.Proofs.YtmbockhcmhghlaaDoorW.PrintWords Go.Proofs.YtmbockhcmhghlaaDoorW.PrintLast Go.Proofs.YtmbockhcmhghlaaDoorW.PrintMore
set_option linter.unusedVariables false
set_option linter.unusedSimpArgs false
theorem byte_range {n : Int} (h : (Lit.int .u8 n).wf = true) : 0 ≤ n ∧ n ≤ 255 := by
  simpa [Lit.wf, IntKind.min, IntKind.max, IntKind.signed, IntKind.bits] using h
theorem cells_each {w : World} {base : Nat} {a : Addr} {n : Nat} {cs : List Value} (h : w.cells? base a n = some cs) : cs.length = n ∧ ∀ (i : Nat) (u : Value), cs[i]? = some u → w.cell? (a.add i) = some u := by
  unfold World.cells? at h
  split at h
  · have hl := mapM_some_length h
    refine ⟨by simpa using hl, fun i u hu => ?_⟩
    have hi : i < n := by
      have := (List.getElem?_eq_some_iff.1 hu).1
      simp at hl; omega
    have := mapM_some_get h i i (by simp [hi])
    rw [this, hu]
  · cases h
section
variable {H : Type} {enc : TypeId × Value → H} {w : World} {base : Nat} {held : Bool}
theorem bulk_bytes {fuel : Nat} {cs : List Value} {x : DataW H × List MemPlace} (h : DataW.trod enc Tryd.prog w base (fun _ => true) held fuel 22 cs = some x) :
    ∃ (A : Option Addr) (c : Nat) (xs : List Int), cs = [.slice A xs.length c] ∧ xs.length ≤ c ∧ (Kd.int .u8).C w A xs.length xs ∧ (∀ n ∈ xs, 0 ≤ n ∧ n ≤ 255) ∧ xs.length + 1 ≤ Rows.uptoBulk x.1 := by
  rcases open_ints Tryd.underlying22 Tryd.underlying5 (by kernel_rfl) h with ⟨rfl, rfl⟩ | ⟨ad, len, cap, zs, rfl, hb, hle, hm, hz, rfl, hcell, hwz⟩
  · exact ⟨none, 0, [], rfl, Nat.le_refl _, Kd.C_nil _ _, by simp, by simp [Rows.uptoBulk]⟩
  · have hzl : zs.length = cap := by simpa using hz
    have htl : (zs.take len).length = len := by simp; omega
    have hlits : ∀ l : List Int, Rows.uptoBulkAll (lits (H := H) .u8 l) = l.length := fun l => by
      induction l with
      | nil => simp [lits, Rows.uptoBulkAll]
      | cons y l ih =>
        simp only [lits, List.map_cons, Rows.uptoBulkAll, Rows.uptoBulk, List.length_cons] at ih ⊢
        omega
    refine ⟨some ad, cap, zs.take len, by rw [htl], by omega, ⟨rfl, by rw [htl]; simp only [maxLen] at hm; omega, fun hp => ⟨ad, rfl, fun j p hj => ⟨[.int .u8 p], rfl, rfl, fun i u hu => ?_⟩⟩⟩, fun n hn => byte_range (hwz n (List.mem_of_mem_take hn)), ?_⟩
    · match i with
      | 0 =>
        obtain rfl : Value.int .u8 p = u := by simpa using hu
        have hjl := (List.getElem?_eq_some_iff.1 hj).1
        rw [htl] at hjl
        have := hcell j (by omega)
        rw [List.getElem?_take_of_lt hjl] at hj
        rw [List.getD_eq_getElem?_getD, hj] at this
        show w.cell? (ad.add (j * 1 + 0)) = _
        rw [Nat.mul_one, Nat.add_zero]
        exact this
      | i + 1 => simp at hu
    · simp only [Rows.uptoBulk, hlits]
      omega
end
end Go.Proofs.YtmbockhcmhghlaaDoor.Pr
end
