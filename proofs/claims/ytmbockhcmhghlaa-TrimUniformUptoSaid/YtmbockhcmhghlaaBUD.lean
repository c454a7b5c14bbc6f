/- For every two nodes of bulk at most 1048576 together, the uniform size covers every element and is attained, trimming never enlarges it and appending an element never lowers it: the law answers true and leaves its arguments as they were. -/
import Derived.Test.YtmbockhcmhghlaaBUC
import Derived.Below
import Derived.Deep.Draws
import Derived.Deep.AppendLies
import Derived.Maps.AppendAt
import Derived.OwnWalk
import Derived.Laws.BytesArg
import Derived.Laws.MakeOwn
import Derived.Laws.OwnMore
import Derived.Deep.OwnRows
import Derived.Tactics
import Derived.Lib.ConvBytes
import Derived.Laws.Slices
import Derived.WalkKit
import Derived.KernelRfl
import Derived.RowKit3
import Derived.Deep.LoopGhost
import Derived.Deep.QuietTactic
import Derived.BigQuiet
import Derived.WideLaws
import Derived.Deep.DeepCutAuto
import Derived.Deep.CutBlock
import Derived.Deep.RegionHeld3
import Derived.Laws.Rows
import Derived.Lib.AppendStr
import Derived.ArgAppend
import Derived.Laws.IdiomCopy
import Derived.RowKit
import Derived.OrdersHeld
import Derived.Laws.BitsLemmas
import Derived.Laws.StructEq
import Derived.SizedLaws
import Derived.ChangeSlices
import Derived.Test.YtmbockhcmhghlaaProg
import Derived.Lib.Hide
import Derived.IntWalk
import Derived.Test.YtmbockhcmhghlaaRows
import Derived.ProofKit
import Derived.OpenShut
import Derived.ChangeOld
import Derived.Lib.SmallJoins
import Derived.DataReads
import Derived.ShutString
import Derived.JoinedCond
section
namespace Go.Proofs.Ytmbockhcmhghlaa.Pr
open Go.RowKit Go.Proofs.YtmbockhcmhghlaaW.PrintWords Go.Proofs.YtmbockhcmhghlaaW.PrintLast Go.Proofs.YtmbockhcmhghlaaW.PrintMore
set_option linter.unusedVariables false
set_option linter.unusedSimpArgs false
set_option maxRecDepth 100000 in
set_option maxHeartbeats 16000000 in
theorem uniform_calls (x0 x1 x2 : Int) (l3 : List Int) (l4 : List S25) (A3 : Option Addr) (c3 : Nat) (A4 : Option Addr) (c4 : Nat) (y0 y1 y2 : Int) (m3 : List Int) (m4 : List S25) (F3 : Option Addr) (f3 : Nat) (F4 : Option Addr) (f4 : Nat) (w : World)
    (hok : okT ⟨x0, x1, x2, l3, l4⟩) (hs : tsize ⟨x0, x1, x2, l3, l4⟩ ≤ 2000000) (hok2 : okT ⟨y0, y1, y2, m3, m4⟩) (hs2 : tsize ⟨y0, y1, y2, m3, m4⟩ ≤ 2000000)
    (hr3 : Kd.C (Kd.int .u8) w A3 l3.length l3) (hc3 : l3.length ≤ c3) (hr4 : Kd.C k25 w A4 l4.length l4) (hc4 : l4.length ≤ c4)
    (hq3 : Kd.C (Kd.int .u8) w F3 m3.length m3) (hd3 : m3.length ≤ f3) (hq4 : Kd.C k25 w F4 m4.length m4) (hd4 : m4.length ≤ f4) :
    Calls Try.prog 6 #[.agg #[.int .i64 x0, .int .i64 x1, .int .i64 x2, .slice A3 l3.length c3, .slice A4 l4.length c4], .agg #[.int .i64 y0, .int .i64 y1, .int .i64 y2, .slice F3 m3.length f3, .slice F4 m4.length f4]] w fun e w' => e = .returned (.bool true) ∧ Below w.heap.size w w' := by
  obtain ⟨kfn, hf⟩ := (few_ev ⟨x0, x1, x2, l3, l4⟩ (by omega)).rounds
  obtain ⟨kvn, hv⟩ := (valid_ev ⟨x0, x1, x2, l3, l4⟩ hok (by omega)).rounds
  obtain ⟨bfn, efn⟩ : ∃ b, Hid (tfew ⟨x0, x1, x2, l3, l4⟩ = b) := ⟨_, rfl⟩
  obtain ⟨bvn, evn⟩ : ∃ b, Hid (tvalid ⟨x0, x1, x2, l3, l4⟩ = b) := ⟨_, rfl⟩
  rw [efn.out] at hf
  rw [evn.out] at hv
  have HFn := Lib.hid hf; have HVn := Lib.hid hv
  clear hf hv
  obtain ⟨kfm, hf⟩ := (few_ev ⟨y0, y1, y2, m3, m4⟩ (by omega)).rounds
  obtain ⟨kvm, hv⟩ := (valid_ev ⟨y0, y1, y2, m3, m4⟩ hok2 (by omega)).rounds
  obtain ⟨bfm, efm⟩ : ∃ b, Hid (tfew ⟨y0, y1, y2, m3, m4⟩ = b) := ⟨_, rfl⟩
  obtain ⟨bvm, evm⟩ : ∃ b, Hid (tvalid ⟨y0, y1, y2, m3, m4⟩ = b) := ⟨_, rfl⟩
  rw [efm.out] at hf
  rw [evm.out] at hv
  have HFm := Lib.hid hf; have HVm := Lib.hid hv
  clear hf hv
  have HR3 := Lib.hid (hr3)
  have HR4 := Lib.hid (hr4)
  have HQ3 := Lib.hid (hq3)
  have HQ4 := Lib.hid (hq4)
  have HB := Lib.hid (Below.refl w.heap.size w)
  clear hr3 hr4 hq3 hq4
  go_enter Try.func6, Try.ntmps6
  go_wp2_with fail
  refine calls_at (fun W0 hW => ?_)
  have hb : Below w.heap.size w W0 := by rw [hW]; repeat (first | exact Below.refl _ _ | refine Below.alloc ?_ (by first | exact Nat.le_refl _ | (simp <;> omega)) _)
  have nBN : W0.heap[w.heap.size]? = some (.cells #[.int .i64 x0, .int .i64 x1, .int .i64 x2, .slice A3 l3.length c3, .slice A4 l4.length c4] 25 (0, 0)) := by rw [hW]; repeat (first | exact heap_alloc_new _ _ | exact blk_new _ _ _ (by simp) | refine blk_alloc ?_ _)
  have nBM : W0.heap[w.heap.size + 1]? = some (.cells #[.int .i64 y0, .int .i64 y1, .int .i64 y2, .slice F3 m3.length f3, .slice F4 m4.length f4] 25 (0, 0)) := by rw [hW]; repeat (first | exact heap_alloc_new _ _ | exact blk_new _ _ _ (by simp) | refine blk_alloc ?_ _)
  clear hW
  replace HR3 := Lib.hid (Kd.C_below HR3.out hb)
  replace HR4 := Lib.hid (Kd.C_below HR4.out hb)
  replace HQ3 := Lib.hid (Kd.C_below HQ3.out hb)
  replace HQ4 := Lib.hid (Kd.C_below HQ4.out hb)
  replace HB := Lib.hid (below_step HB.out hb)
  clear hb
  have BN := Lib.hid nBN
  clear nBN
  have BM := Lib.hid nBM
  clear nBM
  refine (capnplaw11_awake.calls true _ rfl).mono ?_
  rintro e w1 ⟨rfl, hb⟩
  replace HR3 := Lib.hid (Kd.C_below HR3.out hb)
  replace HR4 := Lib.hid (Kd.C_below HR4.out hb)
  replace HQ3 := Lib.hid (Kd.C_below HQ3.out hb)
  replace HQ4 := Lib.hid (Kd.C_below HQ4.out hb)
  replace HB := Lib.hid (below_step HB.out hb)
  replace BN := Lib.hid (blk_below BN.out hb)
  replace BM := Lib.hid (blk_below BM.out hb)
  clear hb
  have l_BN : w.heap.size < w1.heap.size := blk_lt BN.out
  have q_BN_0 : w1.cell? ⟨w.heap.size, 0, none⟩ = some (.int .i64 x0) := (blk_cell BN.out 0).trans rfl
  have q_BN_1 : w1.cell? ⟨w.heap.size, 1, none⟩ = some (.int .i64 x1) := (blk_cell BN.out 1).trans rfl
  have q_BN_2 : w1.cell? ⟨w.heap.size, 2, none⟩ = some (.int .i64 x2) := (blk_cell BN.out 2).trans rfl
  have q_BN_3 : w1.cell? ⟨w.heap.size, 3, none⟩ = some (.slice A3 l3.length c3) := (blk_cell BN.out 3).trans rfl
  have q_BN_4 : w1.cell? ⟨w.heap.size, 4, none⟩ = some (.slice A4 l4.length c4) := (blk_cell BN.out 4).trans rfl
  have l_BM : w.heap.size + 1 < w1.heap.size := blk_lt BM.out
  have q_BM_0 : w1.cell? ⟨w.heap.size + 1, 0, none⟩ = some (.int .i64 y0) := (blk_cell BM.out 0).trans rfl
  have q_BM_1 : w1.cell? ⟨w.heap.size + 1, 1, none⟩ = some (.int .i64 y1) := (blk_cell BM.out 1).trans rfl
  have q_BM_2 : w1.cell? ⟨w.heap.size + 1, 2, none⟩ = some (.int .i64 y2) := (blk_cell BM.out 2).trans rfl
  have q_BM_3 : w1.cell? ⟨w.heap.size + 1, 3, none⟩ = some (.slice F3 m3.length f3) := (blk_cell BM.out 3).trans rfl
  have q_BM_4 : w1.cell? ⟨w.heap.size + 1, 4, none⟩ = some (.slice F4 m4.length f4) := (blk_cell BM.out 4).trans rfl
  go_wp2_with fail
  clear l_BN q_BN_0 q_BN_1 q_BN_2 q_BN_3 q_BN_4 l_BM q_BM_0 q_BM_1 q_BM_2 q_BM_3 q_BM_4
  refine (capnpref10_Few.calls kfn x0 x1 x2 A3 c3 l3 A4 c4 l4 bfn _ HR3.out hc3 HR4.out hc4 HFn.out).mono ?_
  rintro e w2 ⟨rfl, hb⟩
  replace HR3 := Lib.hid (Kd.C_below HR3.out hb)
  replace HR4 := Lib.hid (Kd.C_below HR4.out hb)
  replace HQ3 := Lib.hid (Kd.C_below HQ3.out hb)
  replace HQ4 := Lib.hid (Kd.C_below HQ4.out hb)
  replace HB := Lib.hid (below_step HB.out hb)
  replace BN := Lib.hid (blk_below BN.out hb)
  replace BM := Lib.hid (blk_below BM.out hb)
  clear hb
  cases bfn with
  | false =>
    have l_BN : w.heap.size < w2.heap.size := blk_lt BN.out
    have q_BN_0 : w2.cell? ⟨w.heap.size, 0, none⟩ = some (.int .i64 x0) := (blk_cell BN.out 0).trans rfl
    have q_BN_1 : w2.cell? ⟨w.heap.size, 1, none⟩ = some (.int .i64 x1) := (blk_cell BN.out 1).trans rfl
    have q_BN_2 : w2.cell? ⟨w.heap.size, 2, none⟩ = some (.int .i64 x2) := (blk_cell BN.out 2).trans rfl
    have q_BN_3 : w2.cell? ⟨w.heap.size, 3, none⟩ = some (.slice A3 l3.length c3) := (blk_cell BN.out 3).trans rfl
    have q_BN_4 : w2.cell? ⟨w.heap.size, 4, none⟩ = some (.slice A4 l4.length c4) := (blk_cell BN.out 4).trans rfl
    have l_BM : w.heap.size + 1 < w2.heap.size := blk_lt BM.out
    have q_BM_0 : w2.cell? ⟨w.heap.size + 1, 0, none⟩ = some (.int .i64 y0) := (blk_cell BM.out 0).trans rfl
    have q_BM_1 : w2.cell? ⟨w.heap.size + 1, 1, none⟩ = some (.int .i64 y1) := (blk_cell BM.out 1).trans rfl
    have q_BM_2 : w2.cell? ⟨w.heap.size + 1, 2, none⟩ = some (.int .i64 y2) := (blk_cell BM.out 2).trans rfl
    have q_BM_3 : w2.cell? ⟨w.heap.size + 1, 3, none⟩ = some (.slice F3 m3.length f3) := (blk_cell BM.out 3).trans rfl
    have q_BM_4 : w2.cell? ⟨w.heap.size + 1, 4, none⟩ = some (.slice F4 m4.length f4) := (blk_cell BM.out 4).trans rfl
    go_wp2_with fail
    clear l_BN q_BN_0 q_BN_1 q_BN_2 q_BN_3 q_BN_4 l_BM q_BM_0 q_BM_1 q_BM_2 q_BM_3 q_BM_4
    refine (capnplaw11_awake.calls true _ rfl).mono ?_
    rintro e w3 ⟨rfl, hb⟩
    replace HR3 := Lib.hid (Kd.C_below HR3.out hb)
    replace HR4 := Lib.hid (Kd.C_below HR4.out hb)
    replace HQ3 := Lib.hid (Kd.C_below HQ3.out hb)
    replace HQ4 := Lib.hid (Kd.C_below HQ4.out hb)
    replace HB := Lib.hid (below_step HB.out hb)
    replace BN := Lib.hid (blk_below BN.out hb)
    replace BM := Lib.hid (blk_below BM.out hb)
    clear hb
    have l_BN : w.heap.size < w3.heap.size := blk_lt BN.out
    have q_BN_0 : w3.cell? ⟨w.heap.size, 0, none⟩ = some (.int .i64 x0) := (blk_cell BN.out 0).trans rfl
    have q_BN_1 : w3.cell? ⟨w.heap.size, 1, none⟩ = some (.int .i64 x1) := (blk_cell BN.out 1).trans rfl
    have q_BN_2 : w3.cell? ⟨w.heap.size, 2, none⟩ = some (.int .i64 x2) := (blk_cell BN.out 2).trans rfl
    have q_BN_3 : w3.cell? ⟨w.heap.size, 3, none⟩ = some (.slice A3 l3.length c3) := (blk_cell BN.out 3).trans rfl
    have q_BN_4 : w3.cell? ⟨w.heap.size, 4, none⟩ = some (.slice A4 l4.length c4) := (blk_cell BN.out 4).trans rfl
    have l_BM : w.heap.size + 1 < w3.heap.size := blk_lt BM.out
    have q_BM_0 : w3.cell? ⟨w.heap.size + 1, 0, none⟩ = some (.int .i64 y0) := (blk_cell BM.out 0).trans rfl
    have q_BM_1 : w3.cell? ⟨w.heap.size + 1, 1, none⟩ = some (.int .i64 y1) := (blk_cell BM.out 1).trans rfl
    have q_BM_2 : w3.cell? ⟨w.heap.size + 1, 2, none⟩ = some (.int .i64 y2) := (blk_cell BM.out 2).trans rfl
    have q_BM_3 : w3.cell? ⟨w.heap.size + 1, 3, none⟩ = some (.slice F3 m3.length f3) := (blk_cell BM.out 3).trans rfl
    have q_BM_4 : w3.cell? ⟨w.heap.size + 1, 4, none⟩ = some (.slice F4 m4.length f4) := (blk_cell BM.out 4).trans rfl
    go_wp2
    go_ret
    exact ⟨rfl, HB.out⟩
  | true =>
    have l_BN : w.heap.size < w2.heap.size := blk_lt BN.out
    have q_BN_0 : w2.cell? ⟨w.heap.size, 0, none⟩ = some (.int .i64 x0) := (blk_cell BN.out 0).trans rfl
    have q_BN_1 : w2.cell? ⟨w.heap.size, 1, none⟩ = some (.int .i64 x1) := (blk_cell BN.out 1).trans rfl
    have q_BN_2 : w2.cell? ⟨w.heap.size, 2, none⟩ = some (.int .i64 x2) := (blk_cell BN.out 2).trans rfl
    have q_BN_3 : w2.cell? ⟨w.heap.size, 3, none⟩ = some (.slice A3 l3.length c3) := (blk_cell BN.out 3).trans rfl
    have q_BN_4 : w2.cell? ⟨w.heap.size, 4, none⟩ = some (.slice A4 l4.length c4) := (blk_cell BN.out 4).trans rfl
    have l_BM : w.heap.size + 1 < w2.heap.size := blk_lt BM.out
    have q_BM_0 : w2.cell? ⟨w.heap.size + 1, 0, none⟩ = some (.int .i64 y0) := (blk_cell BM.out 0).trans rfl
    have q_BM_1 : w2.cell? ⟨w.heap.size + 1, 1, none⟩ = some (.int .i64 y1) := (blk_cell BM.out 1).trans rfl
    have q_BM_2 : w2.cell? ⟨w.heap.size + 1, 2, none⟩ = some (.int .i64 y2) := (blk_cell BM.out 2).trans rfl
    have q_BM_3 : w2.cell? ⟨w.heap.size + 1, 3, none⟩ = some (.slice F3 m3.length f3) := (blk_cell BM.out 3).trans rfl
    have q_BM_4 : w2.cell? ⟨w.heap.size + 1, 4, none⟩ = some (.slice F4 m4.length f4) := (blk_cell BM.out 4).trans rfl
    go_wp2_with fail
    clear l_BN q_BN_0 q_BN_1 q_BN_2 q_BN_3 q_BN_4 l_BM q_BM_0 q_BM_1 q_BM_2 q_BM_3 q_BM_4
    refine (capnpref10_Valid.calls kvn x0 x1 x2 A3 c3 l3 A4 c4 l4 bvn _ HR3.out hc3 HR4.out hc4 HVn.out).mono ?_
    rintro e w3 ⟨rfl, hb⟩
    replace HR3 := Lib.hid (Kd.C_below HR3.out hb)
    replace HR4 := Lib.hid (Kd.C_below HR4.out hb)
    replace HQ3 := Lib.hid (Kd.C_below HQ3.out hb)
    replace HQ4 := Lib.hid (Kd.C_below HQ4.out hb)
    replace HB := Lib.hid (below_step HB.out hb)
    replace BN := Lib.hid (blk_below BN.out hb)
    replace BM := Lib.hid (blk_below BM.out hb)
    clear hb
    cases bvn with
    | false =>
      have l_BN : w.heap.size < w3.heap.size := blk_lt BN.out
      have q_BN_0 : w3.cell? ⟨w.heap.size, 0, none⟩ = some (.int .i64 x0) := (blk_cell BN.out 0).trans rfl
      have q_BN_1 : w3.cell? ⟨w.heap.size, 1, none⟩ = some (.int .i64 x1) := (blk_cell BN.out 1).trans rfl
      have q_BN_2 : w3.cell? ⟨w.heap.size, 2, none⟩ = some (.int .i64 x2) := (blk_cell BN.out 2).trans rfl
      have q_BN_3 : w3.cell? ⟨w.heap.size, 3, none⟩ = some (.slice A3 l3.length c3) := (blk_cell BN.out 3).trans rfl
      have q_BN_4 : w3.cell? ⟨w.heap.size, 4, none⟩ = some (.slice A4 l4.length c4) := (blk_cell BN.out 4).trans rfl
      have l_BM : w.heap.size + 1 < w3.heap.size := blk_lt BM.out
      have q_BM_0 : w3.cell? ⟨w.heap.size + 1, 0, none⟩ = some (.int .i64 y0) := (blk_cell BM.out 0).trans rfl
      have q_BM_1 : w3.cell? ⟨w.heap.size + 1, 1, none⟩ = some (.int .i64 y1) := (blk_cell BM.out 1).trans rfl
      have q_BM_2 : w3.cell? ⟨w.heap.size + 1, 2, none⟩ = some (.int .i64 y2) := (blk_cell BM.out 2).trans rfl
      have q_BM_3 : w3.cell? ⟨w.heap.size + 1, 3, none⟩ = some (.slice F3 m3.length f3) := (blk_cell BM.out 3).trans rfl
      have q_BM_4 : w3.cell? ⟨w.heap.size + 1, 4, none⟩ = some (.slice F4 m4.length f4) := (blk_cell BM.out 4).trans rfl
      go_wp2_with fail
      clear l_BN q_BN_0 q_BN_1 q_BN_2 q_BN_3 q_BN_4 l_BM q_BM_0 q_BM_1 q_BM_2 q_BM_3 q_BM_4
      refine (capnplaw11_awake.calls true _ rfl).mono ?_
      rintro e w4 ⟨rfl, hb⟩
      replace HR3 := Lib.hid (Kd.C_below HR3.out hb)
      replace HR4 := Lib.hid (Kd.C_below HR4.out hb)
      replace HQ3 := Lib.hid (Kd.C_below HQ3.out hb)
      replace HQ4 := Lib.hid (Kd.C_below HQ4.out hb)
      replace HB := Lib.hid (below_step HB.out hb)
      replace BN := Lib.hid (blk_below BN.out hb)
      replace BM := Lib.hid (blk_below BM.out hb)
      clear hb
      have l_BN : w.heap.size < w4.heap.size := blk_lt BN.out
      have q_BN_0 : w4.cell? ⟨w.heap.size, 0, none⟩ = some (.int .i64 x0) := (blk_cell BN.out 0).trans rfl
      have q_BN_1 : w4.cell? ⟨w.heap.size, 1, none⟩ = some (.int .i64 x1) := (blk_cell BN.out 1).trans rfl
      have q_BN_2 : w4.cell? ⟨w.heap.size, 2, none⟩ = some (.int .i64 x2) := (blk_cell BN.out 2).trans rfl
      have q_BN_3 : w4.cell? ⟨w.heap.size, 3, none⟩ = some (.slice A3 l3.length c3) := (blk_cell BN.out 3).trans rfl
      have q_BN_4 : w4.cell? ⟨w.heap.size, 4, none⟩ = some (.slice A4 l4.length c4) := (blk_cell BN.out 4).trans rfl
      have l_BM : w.heap.size + 1 < w4.heap.size := blk_lt BM.out
      have q_BM_0 : w4.cell? ⟨w.heap.size + 1, 0, none⟩ = some (.int .i64 y0) := (blk_cell BM.out 0).trans rfl
      have q_BM_1 : w4.cell? ⟨w.heap.size + 1, 1, none⟩ = some (.int .i64 y1) := (blk_cell BM.out 1).trans rfl
      have q_BM_2 : w4.cell? ⟨w.heap.size + 1, 2, none⟩ = some (.int .i64 y2) := (blk_cell BM.out 2).trans rfl
      have q_BM_3 : w4.cell? ⟨w.heap.size + 1, 3, none⟩ = some (.slice F3 m3.length f3) := (blk_cell BM.out 3).trans rfl
      have q_BM_4 : w4.cell? ⟨w.heap.size + 1, 4, none⟩ = some (.slice F4 m4.length f4) := (blk_cell BM.out 4).trans rfl
      go_wp2
      go_ret
      exact ⟨rfl, HB.out⟩
    | true =>
      rcases Decidable.em (¬ x0 = 2) with k0 | k0
      · have hb_ : (x0 != 2) = true := by rw [bne_iff_ne]; exact k0
        have l_BN : w.heap.size < w3.heap.size := blk_lt BN.out
        have q_BN_0 : w3.cell? ⟨w.heap.size, 0, none⟩ = some (.int .i64 x0) := (blk_cell BN.out 0).trans rfl
        have q_BN_1 : w3.cell? ⟨w.heap.size, 1, none⟩ = some (.int .i64 x1) := (blk_cell BN.out 1).trans rfl
        have q_BN_2 : w3.cell? ⟨w.heap.size, 2, none⟩ = some (.int .i64 x2) := (blk_cell BN.out 2).trans rfl
        have q_BN_3 : w3.cell? ⟨w.heap.size, 3, none⟩ = some (.slice A3 l3.length c3) := (blk_cell BN.out 3).trans rfl
        have q_BN_4 : w3.cell? ⟨w.heap.size, 4, none⟩ = some (.slice A4 l4.length c4) := (blk_cell BN.out 4).trans rfl
        have l_BM : w.heap.size + 1 < w3.heap.size := blk_lt BM.out
        have q_BM_0 : w3.cell? ⟨w.heap.size + 1, 0, none⟩ = some (.int .i64 y0) := (blk_cell BM.out 0).trans rfl
        have q_BM_1 : w3.cell? ⟨w.heap.size + 1, 1, none⟩ = some (.int .i64 y1) := (blk_cell BM.out 1).trans rfl
        have q_BM_2 : w3.cell? ⟨w.heap.size + 1, 2, none⟩ = some (.int .i64 y2) := (blk_cell BM.out 2).trans rfl
        have q_BM_3 : w3.cell? ⟨w.heap.size + 1, 3, none⟩ = some (.slice F3 m3.length f3) := (blk_cell BM.out 3).trans rfl
        have q_BM_4 : w3.cell? ⟨w.heap.size + 1, 4, none⟩ = some (.slice F4 m4.length f4) := (blk_cell BM.out 4).trans rfl
        go_wp2_with fail
        clear l_BN q_BN_0 q_BN_1 q_BN_2 q_BN_3 q_BN_4 l_BM q_BM_0 q_BM_1 q_BM_2 q_BM_3 q_BM_4
        refine (capnplaw11_awake.calls true _ rfl).mono ?_
        rintro e w4 ⟨rfl, hb⟩
        replace HR3 := Lib.hid (Kd.C_below HR3.out hb)
        replace HR4 := Lib.hid (Kd.C_below HR4.out hb)
        replace HQ3 := Lib.hid (Kd.C_below HQ3.out hb)
        replace HQ4 := Lib.hid (Kd.C_below HQ4.out hb)
        replace HB := Lib.hid (below_step HB.out hb)
        replace BN := Lib.hid (blk_below BN.out hb)
        replace BM := Lib.hid (blk_below BM.out hb)
        clear hb
        have l_BN : w.heap.size < w4.heap.size := blk_lt BN.out
        have q_BN_0 : w4.cell? ⟨w.heap.size, 0, none⟩ = some (.int .i64 x0) := (blk_cell BN.out 0).trans rfl
        have q_BN_1 : w4.cell? ⟨w.heap.size, 1, none⟩ = some (.int .i64 x1) := (blk_cell BN.out 1).trans rfl
        have q_BN_2 : w4.cell? ⟨w.heap.size, 2, none⟩ = some (.int .i64 x2) := (blk_cell BN.out 2).trans rfl
        have q_BN_3 : w4.cell? ⟨w.heap.size, 3, none⟩ = some (.slice A3 l3.length c3) := (blk_cell BN.out 3).trans rfl
        have q_BN_4 : w4.cell? ⟨w.heap.size, 4, none⟩ = some (.slice A4 l4.length c4) := (blk_cell BN.out 4).trans rfl
        have l_BM : w.heap.size + 1 < w4.heap.size := blk_lt BM.out
        have q_BM_0 : w4.cell? ⟨w.heap.size + 1, 0, none⟩ = some (.int .i64 y0) := (blk_cell BM.out 0).trans rfl
        have q_BM_1 : w4.cell? ⟨w.heap.size + 1, 1, none⟩ = some (.int .i64 y1) := (blk_cell BM.out 1).trans rfl
        have q_BM_2 : w4.cell? ⟨w.heap.size + 1, 2, none⟩ = some (.int .i64 y2) := (blk_cell BM.out 2).trans rfl
        have q_BM_3 : w4.cell? ⟨w.heap.size + 1, 3, none⟩ = some (.slice F3 m3.length f3) := (blk_cell BM.out 3).trans rfl
        have q_BM_4 : w4.cell? ⟨w.heap.size + 1, 4, none⟩ = some (.slice F4 m4.length f4) := (blk_cell BM.out 4).trans rfl
        go_wp2
        go_ret
        exact ⟨rfl, HB.out⟩
      · obtain rfl := Decidable.of_not_not k0
        rcases Decidable.em (¬ x1 = 7) with k1 | k1
        · have hb_ : (x1 != 7) = true := by rw [bne_iff_ne]; exact k1
          have l_BN : w.heap.size < w3.heap.size := blk_lt BN.out
          have q_BN_0 : w3.cell? ⟨w.heap.size, 0, none⟩ = some (.int .i64 2) := (blk_cell BN.out 0).trans rfl
          have q_BN_1 : w3.cell? ⟨w.heap.size, 1, none⟩ = some (.int .i64 x1) := (blk_cell BN.out 1).trans rfl
          have q_BN_2 : w3.cell? ⟨w.heap.size, 2, none⟩ = some (.int .i64 x2) := (blk_cell BN.out 2).trans rfl
          have q_BN_3 : w3.cell? ⟨w.heap.size, 3, none⟩ = some (.slice A3 l3.length c3) := (blk_cell BN.out 3).trans rfl
          have q_BN_4 : w3.cell? ⟨w.heap.size, 4, none⟩ = some (.slice A4 l4.length c4) := (blk_cell BN.out 4).trans rfl
          have l_BM : w.heap.size + 1 < w3.heap.size := blk_lt BM.out
          have q_BM_0 : w3.cell? ⟨w.heap.size + 1, 0, none⟩ = some (.int .i64 y0) := (blk_cell BM.out 0).trans rfl
          have q_BM_1 : w3.cell? ⟨w.heap.size + 1, 1, none⟩ = some (.int .i64 y1) := (blk_cell BM.out 1).trans rfl
          have q_BM_2 : w3.cell? ⟨w.heap.size + 1, 2, none⟩ = some (.int .i64 y2) := (blk_cell BM.out 2).trans rfl
          have q_BM_3 : w3.cell? ⟨w.heap.size + 1, 3, none⟩ = some (.slice F3 m3.length f3) := (blk_cell BM.out 3).trans rfl
          have q_BM_4 : w3.cell? ⟨w.heap.size + 1, 4, none⟩ = some (.slice F4 m4.length f4) := (blk_cell BM.out 4).trans rfl
          go_wp2_with fail
          clear l_BN q_BN_0 q_BN_1 q_BN_2 q_BN_3 q_BN_4 l_BM q_BM_0 q_BM_1 q_BM_2 q_BM_3 q_BM_4
          refine (capnplaw11_awake.calls true _ rfl).mono ?_
          rintro e w4 ⟨rfl, hb⟩
          replace HR3 := Lib.hid (Kd.C_below HR3.out hb)
          replace HR4 := Lib.hid (Kd.C_below HR4.out hb)
          replace HQ3 := Lib.hid (Kd.C_below HQ3.out hb)
          replace HQ4 := Lib.hid (Kd.C_below HQ4.out hb)
          replace HB := Lib.hid (below_step HB.out hb)
          replace BN := Lib.hid (blk_below BN.out hb)
          replace BM := Lib.hid (blk_below BM.out hb)
          clear hb
          have l_BN : w.heap.size < w4.heap.size := blk_lt BN.out
          have q_BN_0 : w4.cell? ⟨w.heap.size, 0, none⟩ = some (.int .i64 2) := (blk_cell BN.out 0).trans rfl
          have q_BN_1 : w4.cell? ⟨w.heap.size, 1, none⟩ = some (.int .i64 x1) := (blk_cell BN.out 1).trans rfl
          have q_BN_2 : w4.cell? ⟨w.heap.size, 2, none⟩ = some (.int .i64 x2) := (blk_cell BN.out 2).trans rfl
          have q_BN_3 : w4.cell? ⟨w.heap.size, 3, none⟩ = some (.slice A3 l3.length c3) := (blk_cell BN.out 3).trans rfl
          have q_BN_4 : w4.cell? ⟨w.heap.size, 4, none⟩ = some (.slice A4 l4.length c4) := (blk_cell BN.out 4).trans rfl
          have l_BM : w.heap.size + 1 < w4.heap.size := blk_lt BM.out
          have q_BM_0 : w4.cell? ⟨w.heap.size + 1, 0, none⟩ = some (.int .i64 y0) := (blk_cell BM.out 0).trans rfl
          have q_BM_1 : w4.cell? ⟨w.heap.size + 1, 1, none⟩ = some (.int .i64 y1) := (blk_cell BM.out 1).trans rfl
          have q_BM_2 : w4.cell? ⟨w.heap.size + 1, 2, none⟩ = some (.int .i64 y2) := (blk_cell BM.out 2).trans rfl
          have q_BM_3 : w4.cell? ⟨w.heap.size + 1, 3, none⟩ = some (.slice F3 m3.length f3) := (blk_cell BM.out 3).trans rfl
          have q_BM_4 : w4.cell? ⟨w.heap.size + 1, 4, none⟩ = some (.slice F4 m4.length f4) := (blk_cell BM.out 4).trans rfl
          go_wp2
          go_ret
          exact ⟨rfl, HB.out⟩
        · obtain rfl := Decidable.of_not_not k1
          have l_BN : w.heap.size < w3.heap.size := blk_lt BN.out
          have q_BN_0 : w3.cell? ⟨w.heap.size, 0, none⟩ = some (.int .i64 2) := (blk_cell BN.out 0).trans rfl
          have q_BN_1 : w3.cell? ⟨w.heap.size, 1, none⟩ = some (.int .i64 7) := (blk_cell BN.out 1).trans rfl
          have q_BN_2 : w3.cell? ⟨w.heap.size, 2, none⟩ = some (.int .i64 x2) := (blk_cell BN.out 2).trans rfl
          have q_BN_3 : w3.cell? ⟨w.heap.size, 3, none⟩ = some (.slice A3 l3.length c3) := (blk_cell BN.out 3).trans rfl
          have q_BN_4 : w3.cell? ⟨w.heap.size, 4, none⟩ = some (.slice A4 l4.length c4) := (blk_cell BN.out 4).trans rfl
          have l_BM : w.heap.size + 1 < w3.heap.size := blk_lt BM.out
          have q_BM_0 : w3.cell? ⟨w.heap.size + 1, 0, none⟩ = some (.int .i64 y0) := (blk_cell BM.out 0).trans rfl
          have q_BM_1 : w3.cell? ⟨w.heap.size + 1, 1, none⟩ = some (.int .i64 y1) := (blk_cell BM.out 1).trans rfl
          have q_BM_2 : w3.cell? ⟨w.heap.size + 1, 2, none⟩ = some (.int .i64 y2) := (blk_cell BM.out 2).trans rfl
          have q_BM_3 : w3.cell? ⟨w.heap.size + 1, 3, none⟩ = some (.slice F3 m3.length f3) := (blk_cell BM.out 3).trans rfl
          have q_BM_4 : w3.cell? ⟨w.heap.size + 1, 4, none⟩ = some (.slice F4 m4.length f4) := (blk_cell BM.out 4).trans rfl
          go_wp2_with fail
          clear l_BN q_BN_0 q_BN_1 q_BN_2 q_BN_3 q_BN_4 l_BM q_BM_0 q_BM_1 q_BM_2 q_BM_3 q_BM_4
          refine (capnpref10_Few.calls kfm y0 y1 y2 F3 f3 m3 F4 f4 m4 bfm _ HQ3.out hd3 HQ4.out hd4 HFm.out).mono ?_
          rintro e w4 ⟨rfl, hb⟩
          replace HR3 := Lib.hid (Kd.C_below HR3.out hb)
          replace HR4 := Lib.hid (Kd.C_below HR4.out hb)
          replace HQ3 := Lib.hid (Kd.C_below HQ3.out hb)
          replace HQ4 := Lib.hid (Kd.C_below HQ4.out hb)
          replace HB := Lib.hid (below_step HB.out hb)
          replace BN := Lib.hid (blk_below BN.out hb)
          replace BM := Lib.hid (blk_below BM.out hb)
          clear hb
          cases bfm with
          | false =>
            have l_BN : w.heap.size < w4.heap.size := blk_lt BN.out
            have q_BN_0 : w4.cell? ⟨w.heap.size, 0, none⟩ = some (.int .i64 2) := (blk_cell BN.out 0).trans rfl
            have q_BN_1 : w4.cell? ⟨w.heap.size, 1, none⟩ = some (.int .i64 7) := (blk_cell BN.out 1).trans rfl
            have q_BN_2 : w4.cell? ⟨w.heap.size, 2, none⟩ = some (.int .i64 x2) := (blk_cell BN.out 2).trans rfl
            have q_BN_3 : w4.cell? ⟨w.heap.size, 3, none⟩ = some (.slice A3 l3.length c3) := (blk_cell BN.out 3).trans rfl
            have q_BN_4 : w4.cell? ⟨w.heap.size, 4, none⟩ = some (.slice A4 l4.length c4) := (blk_cell BN.out 4).trans rfl
            have l_BM : w.heap.size + 1 < w4.heap.size := blk_lt BM.out
            have q_BM_0 : w4.cell? ⟨w.heap.size + 1, 0, none⟩ = some (.int .i64 y0) := (blk_cell BM.out 0).trans rfl
            have q_BM_1 : w4.cell? ⟨w.heap.size + 1, 1, none⟩ = some (.int .i64 y1) := (blk_cell BM.out 1).trans rfl
            have q_BM_2 : w4.cell? ⟨w.heap.size + 1, 2, none⟩ = some (.int .i64 y2) := (blk_cell BM.out 2).trans rfl
            have q_BM_3 : w4.cell? ⟨w.heap.size + 1, 3, none⟩ = some (.slice F3 m3.length f3) := (blk_cell BM.out 3).trans rfl
            have q_BM_4 : w4.cell? ⟨w.heap.size + 1, 4, none⟩ = some (.slice F4 m4.length f4) := (blk_cell BM.out 4).trans rfl
            go_wp2_with fail
            clear l_BN q_BN_0 q_BN_1 q_BN_2 q_BN_3 q_BN_4 l_BM q_BM_0 q_BM_1 q_BM_2 q_BM_3 q_BM_4
            refine (capnplaw11_awake.calls true _ rfl).mono ?_
            rintro e w5 ⟨rfl, hb⟩
            replace HR3 := Lib.hid (Kd.C_below HR3.out hb)
            replace HR4 := Lib.hid (Kd.C_below HR4.out hb)
            replace HQ3 := Lib.hid (Kd.C_below HQ3.out hb)
            replace HQ4 := Lib.hid (Kd.C_below HQ4.out hb)
            replace HB := Lib.hid (below_step HB.out hb)
            replace BN := Lib.hid (blk_below BN.out hb)
            replace BM := Lib.hid (blk_below BM.out hb)
            clear hb
            have l_BN : w.heap.size < w5.heap.size := blk_lt BN.out
            have q_BN_0 : w5.cell? ⟨w.heap.size, 0, none⟩ = some (.int .i64 2) := (blk_cell BN.out 0).trans rfl
            have q_BN_1 : w5.cell? ⟨w.heap.size, 1, none⟩ = some (.int .i64 7) := (blk_cell BN.out 1).trans rfl
            have q_BN_2 : w5.cell? ⟨w.heap.size, 2, none⟩ = some (.int .i64 x2) := (blk_cell BN.out 2).trans rfl
            have q_BN_3 : w5.cell? ⟨w.heap.size, 3, none⟩ = some (.slice A3 l3.length c3) := (blk_cell BN.out 3).trans rfl
            have q_BN_4 : w5.cell? ⟨w.heap.size, 4, none⟩ = some (.slice A4 l4.length c4) := (blk_cell BN.out 4).trans rfl
            have l_BM : w.heap.size + 1 < w5.heap.size := blk_lt BM.out
            have q_BM_0 : w5.cell? ⟨w.heap.size + 1, 0, none⟩ = some (.int .i64 y0) := (blk_cell BM.out 0).trans rfl
            have q_BM_1 : w5.cell? ⟨w.heap.size + 1, 1, none⟩ = some (.int .i64 y1) := (blk_cell BM.out 1).trans rfl
            have q_BM_2 : w5.cell? ⟨w.heap.size + 1, 2, none⟩ = some (.int .i64 y2) := (blk_cell BM.out 2).trans rfl
            have q_BM_3 : w5.cell? ⟨w.heap.size + 1, 3, none⟩ = some (.slice F3 m3.length f3) := (blk_cell BM.out 3).trans rfl
            have q_BM_4 : w5.cell? ⟨w.heap.size + 1, 4, none⟩ = some (.slice F4 m4.length f4) := (blk_cell BM.out 4).trans rfl
            go_wp2
            go_ret
            exact ⟨rfl, HB.out⟩
          | true =>
            have l_BN : w.heap.size < w4.heap.size := blk_lt BN.out
            have q_BN_0 : w4.cell? ⟨w.heap.size, 0, none⟩ = some (.int .i64 2) := (blk_cell BN.out 0).trans rfl
            have q_BN_1 : w4.cell? ⟨w.heap.size, 1, none⟩ = some (.int .i64 7) := (blk_cell BN.out 1).trans rfl
            have q_BN_2 : w4.cell? ⟨w.heap.size, 2, none⟩ = some (.int .i64 x2) := (blk_cell BN.out 2).trans rfl
            have q_BN_3 : w4.cell? ⟨w.heap.size, 3, none⟩ = some (.slice A3 l3.length c3) := (blk_cell BN.out 3).trans rfl
            have q_BN_4 : w4.cell? ⟨w.heap.size, 4, none⟩ = some (.slice A4 l4.length c4) := (blk_cell BN.out 4).trans rfl
            have l_BM : w.heap.size + 1 < w4.heap.size := blk_lt BM.out
            have q_BM_0 : w4.cell? ⟨w.heap.size + 1, 0, none⟩ = some (.int .i64 y0) := (blk_cell BM.out 0).trans rfl
            have q_BM_1 : w4.cell? ⟨w.heap.size + 1, 1, none⟩ = some (.int .i64 y1) := (blk_cell BM.out 1).trans rfl
            have q_BM_2 : w4.cell? ⟨w.heap.size + 1, 2, none⟩ = some (.int .i64 y2) := (blk_cell BM.out 2).trans rfl
            have q_BM_3 : w4.cell? ⟨w.heap.size + 1, 3, none⟩ = some (.slice F3 m3.length f3) := (blk_cell BM.out 3).trans rfl
            have q_BM_4 : w4.cell? ⟨w.heap.size + 1, 4, none⟩ = some (.slice F4 m4.length f4) := (blk_cell BM.out 4).trans rfl
            go_wp2_with fail
            clear l_BN q_BN_0 q_BN_1 q_BN_2 q_BN_3 q_BN_4 l_BM q_BM_0 q_BM_1 q_BM_2 q_BM_3 q_BM_4
            refine (capnpref10_Valid.calls kvm y0 y1 y2 F3 f3 m3 F4 f4 m4 bvm _ HQ3.out hd3 HQ4.out hd4 HVm.out).mono ?_
            rintro e w5 ⟨rfl, hb⟩
            replace HR3 := Lib.hid (Kd.C_below HR3.out hb)
            replace HR4 := Lib.hid (Kd.C_below HR4.out hb)
            replace HQ3 := Lib.hid (Kd.C_below HQ3.out hb)
            replace HQ4 := Lib.hid (Kd.C_below HQ4.out hb)
            replace HB := Lib.hid (below_step HB.out hb)
            replace BN := Lib.hid (blk_below BN.out hb)
            replace BM := Lib.hid (blk_below BM.out hb)
            clear hb
            cases bvm with
            | false =>
              have l_BN : w.heap.size < w5.heap.size := blk_lt BN.out
              have q_BN_0 : w5.cell? ⟨w.heap.size, 0, none⟩ = some (.int .i64 2) := (blk_cell BN.out 0).trans rfl
              have q_BN_1 : w5.cell? ⟨w.heap.size, 1, none⟩ = some (.int .i64 7) := (blk_cell BN.out 1).trans rfl
              have q_BN_2 : w5.cell? ⟨w.heap.size, 2, none⟩ = some (.int .i64 x2) := (blk_cell BN.out 2).trans rfl
              have q_BN_3 : w5.cell? ⟨w.heap.size, 3, none⟩ = some (.slice A3 l3.length c3) := (blk_cell BN.out 3).trans rfl
              have q_BN_4 : w5.cell? ⟨w.heap.size, 4, none⟩ = some (.slice A4 l4.length c4) := (blk_cell BN.out 4).trans rfl
              have l_BM : w.heap.size + 1 < w5.heap.size := blk_lt BM.out
              have q_BM_0 : w5.cell? ⟨w.heap.size + 1, 0, none⟩ = some (.int .i64 y0) := (blk_cell BM.out 0).trans rfl
              have q_BM_1 : w5.cell? ⟨w.heap.size + 1, 1, none⟩ = some (.int .i64 y1) := (blk_cell BM.out 1).trans rfl
              have q_BM_2 : w5.cell? ⟨w.heap.size + 1, 2, none⟩ = some (.int .i64 y2) := (blk_cell BM.out 2).trans rfl
              have q_BM_3 : w5.cell? ⟨w.heap.size + 1, 3, none⟩ = some (.slice F3 m3.length f3) := (blk_cell BM.out 3).trans rfl
              have q_BM_4 : w5.cell? ⟨w.heap.size + 1, 4, none⟩ = some (.slice F4 m4.length f4) := (blk_cell BM.out 4).trans rfl
              go_wp2_with fail
              clear l_BN q_BN_0 q_BN_1 q_BN_2 q_BN_3 q_BN_4 l_BM q_BM_0 q_BM_1 q_BM_2 q_BM_3 q_BM_4
              refine (capnplaw11_awake.calls true _ rfl).mono ?_
              rintro e w6 ⟨rfl, hb⟩
              replace HR3 := Lib.hid (Kd.C_below HR3.out hb)
              replace HR4 := Lib.hid (Kd.C_below HR4.out hb)
              replace HQ3 := Lib.hid (Kd.C_below HQ3.out hb)
              replace HQ4 := Lib.hid (Kd.C_below HQ4.out hb)
              replace HB := Lib.hid (below_step HB.out hb)
              replace BN := Lib.hid (blk_below BN.out hb)
              replace BM := Lib.hid (blk_below BM.out hb)
              clear hb
              have l_BN : w.heap.size < w6.heap.size := blk_lt BN.out
              have q_BN_0 : w6.cell? ⟨w.heap.size, 0, none⟩ = some (.int .i64 2) := (blk_cell BN.out 0).trans rfl
              have q_BN_1 : w6.cell? ⟨w.heap.size, 1, none⟩ = some (.int .i64 7) := (blk_cell BN.out 1).trans rfl
              have q_BN_2 : w6.cell? ⟨w.heap.size, 2, none⟩ = some (.int .i64 x2) := (blk_cell BN.out 2).trans rfl
              have q_BN_3 : w6.cell? ⟨w.heap.size, 3, none⟩ = some (.slice A3 l3.length c3) := (blk_cell BN.out 3).trans rfl
              have q_BN_4 : w6.cell? ⟨w.heap.size, 4, none⟩ = some (.slice A4 l4.length c4) := (blk_cell BN.out 4).trans rfl
              have l_BM : w.heap.size + 1 < w6.heap.size := blk_lt BM.out
              have q_BM_0 : w6.cell? ⟨w.heap.size + 1, 0, none⟩ = some (.int .i64 y0) := (blk_cell BM.out 0).trans rfl
              have q_BM_1 : w6.cell? ⟨w.heap.size + 1, 1, none⟩ = some (.int .i64 y1) := (blk_cell BM.out 1).trans rfl
              have q_BM_2 : w6.cell? ⟨w.heap.size + 1, 2, none⟩ = some (.int .i64 y2) := (blk_cell BM.out 2).trans rfl
              have q_BM_3 : w6.cell? ⟨w.heap.size + 1, 3, none⟩ = some (.slice F3 m3.length f3) := (blk_cell BM.out 3).trans rfl
              have q_BM_4 : w6.cell? ⟨w.heap.size + 1, 4, none⟩ = some (.slice F4 m4.length f4) := (blk_cell BM.out 4).trans rfl
              go_wp2
              go_ret
              exact ⟨rfl, HB.out⟩
            | true =>
              rcases Decidable.em (¬ y0 = 1) with k2 | k2
              · have hb_ : (y0 != 1) = true := by rw [bne_iff_ne]; exact k2
                have l_BN : w.heap.size < w5.heap.size := blk_lt BN.out
                have q_BN_0 : w5.cell? ⟨w.heap.size, 0, none⟩ = some (.int .i64 2) := (blk_cell BN.out 0).trans rfl
                have q_BN_1 : w5.cell? ⟨w.heap.size, 1, none⟩ = some (.int .i64 7) := (blk_cell BN.out 1).trans rfl
                have q_BN_2 : w5.cell? ⟨w.heap.size, 2, none⟩ = some (.int .i64 x2) := (blk_cell BN.out 2).trans rfl
                have q_BN_3 : w5.cell? ⟨w.heap.size, 3, none⟩ = some (.slice A3 l3.length c3) := (blk_cell BN.out 3).trans rfl
                have q_BN_4 : w5.cell? ⟨w.heap.size, 4, none⟩ = some (.slice A4 l4.length c4) := (blk_cell BN.out 4).trans rfl
                have l_BM : w.heap.size + 1 < w5.heap.size := blk_lt BM.out
                have q_BM_0 : w5.cell? ⟨w.heap.size + 1, 0, none⟩ = some (.int .i64 y0) := (blk_cell BM.out 0).trans rfl
                have q_BM_1 : w5.cell? ⟨w.heap.size + 1, 1, none⟩ = some (.int .i64 y1) := (blk_cell BM.out 1).trans rfl
                have q_BM_2 : w5.cell? ⟨w.heap.size + 1, 2, none⟩ = some (.int .i64 y2) := (blk_cell BM.out 2).trans rfl
                have q_BM_3 : w5.cell? ⟨w.heap.size + 1, 3, none⟩ = some (.slice F3 m3.length f3) := (blk_cell BM.out 3).trans rfl
                have q_BM_4 : w5.cell? ⟨w.heap.size + 1, 4, none⟩ = some (.slice F4 m4.length f4) := (blk_cell BM.out 4).trans rfl
                go_wp2_with fail
                clear l_BN q_BN_0 q_BN_1 q_BN_2 q_BN_3 q_BN_4 l_BM q_BM_0 q_BM_1 q_BM_2 q_BM_3 q_BM_4
                refine (capnplaw11_awake.calls true _ rfl).mono ?_
                rintro e w6 ⟨rfl, hb⟩
                replace HR3 := Lib.hid (Kd.C_below HR3.out hb)
                replace HR4 := Lib.hid (Kd.C_below HR4.out hb)
                replace HQ3 := Lib.hid (Kd.C_below HQ3.out hb)
                replace HQ4 := Lib.hid (Kd.C_below HQ4.out hb)
                replace HB := Lib.hid (below_step HB.out hb)
                replace BN := Lib.hid (blk_below BN.out hb)
                replace BM := Lib.hid (blk_below BM.out hb)
                clear hb
                have l_BN : w.heap.size < w6.heap.size := blk_lt BN.out
                have q_BN_0 : w6.cell? ⟨w.heap.size, 0, none⟩ = some (.int .i64 2) := (blk_cell BN.out 0).trans rfl
                have q_BN_1 : w6.cell? ⟨w.heap.size, 1, none⟩ = some (.int .i64 7) := (blk_cell BN.out 1).trans rfl
                have q_BN_2 : w6.cell? ⟨w.heap.size, 2, none⟩ = some (.int .i64 x2) := (blk_cell BN.out 2).trans rfl
                have q_BN_3 : w6.cell? ⟨w.heap.size, 3, none⟩ = some (.slice A3 l3.length c3) := (blk_cell BN.out 3).trans rfl
                have q_BN_4 : w6.cell? ⟨w.heap.size, 4, none⟩ = some (.slice A4 l4.length c4) := (blk_cell BN.out 4).trans rfl
                have l_BM : w.heap.size + 1 < w6.heap.size := blk_lt BM.out
                have q_BM_0 : w6.cell? ⟨w.heap.size + 1, 0, none⟩ = some (.int .i64 y0) := (blk_cell BM.out 0).trans rfl
                have q_BM_1 : w6.cell? ⟨w.heap.size + 1, 1, none⟩ = some (.int .i64 y1) := (blk_cell BM.out 1).trans rfl
                have q_BM_2 : w6.cell? ⟨w.heap.size + 1, 2, none⟩ = some (.int .i64 y2) := (blk_cell BM.out 2).trans rfl
                have q_BM_3 : w6.cell? ⟨w.heap.size + 1, 3, none⟩ = some (.slice F3 m3.length f3) := (blk_cell BM.out 3).trans rfl
                have q_BM_4 : w6.cell? ⟨w.heap.size + 1, 4, none⟩ = some (.slice F4 m4.length f4) := (blk_cell BM.out 4).trans rfl
                go_wp2
                go_ret
                exact ⟨rfl, HB.out⟩
              · obtain rfl := Decidable.of_not_not k2
                clear k0 k1 k2 HFn HVn HFm HVm efn efm
                have hw := valid_words ⟨2, 7, x2, l3, l4⟩ evn.out
                have hkids := uni_kids ⟨2, 7, x2, l3, l4⟩ evn.out rfl rfl
                have hatt := uni_attained (l := l4)
                have hge : ∀ x : S25, x ∈ l4 → x.f3.length / 8 ≤ uniD l4 ∧ x.f4.length ≤ uniP l4 := fun x hx => uniD_ge hx
                have hse := tsize_eq ⟨2, 7, x2, l3, l4⟩
                have hsm := tsize_eq ⟨1, y1, y2, m3, m4⟩
                have hll := length_tsizes l4
                have hlm := length_tsizes m4
                have hDB : uniD l4 ≤ 2000000 ∧ uniP l4 ≤ 2000000 := uni_bound fun x hx => by
                  have h1 := tsize_mem hx
                  have h2 := tsize_eq x
                  have h3 := length_tsizes x.f4
                  simp only at hse
                  omega
                obtain ⟨ku, hku⟩ := (uni_ev ⟨2, 7, x2, l3, l4⟩ (by omega)).rounds
                obtain ⟨kt, hkt⟩ := (ttrim_ev ⟨2, 7, x2, l3, l4⟩ hw (by omega)).rounds
                obtain ⟨ku2, hku2⟩ := (uni_ev (ttrim ⟨2, 7, x2, l3, l4⟩) (by have := size_trim ⟨2, 7, x2, l3, l4⟩; omega)).rounds
                have hle : uniD (ttrim ⟨2, 7, x2, l3, l4⟩).f4 ≤ uniD l4 ∧ uniP (ttrim ⟨2, 7, x2, l3, l4⟩).f4 ≤ uniP l4 := by
                  rw [ttrim_f4]
                  have h1 := uni_trim (cutK ⟨2, 7, x2, l3, l4⟩)
                  have h2 : uniD (cutK ⟨2, 7, x2, l3, l4⟩) ≤ uniD l4 ∧ uniP (cutK ⟨2, 7, x2, l3, l4⟩) ≤ uniP l4 := uni_bound fun x hx => uniD_ge (cutK_sub hx)
                  omega
                obtain ⟨ku3, hku3⟩ := (uni_ev ⟨2, 7, wrap64 (x2 + 1), l3, l4 ++ [⟨1, y1, y2, m3, m4⟩]⟩ (by
                  rw [tsize_eq, tsizes_append]
                  simp only [tsizes] at *
                  omega)).rounds
                rw [show (⟨2, 7, wrap64 (x2 + 1), l3, l4 ++ [⟨1, y1, y2, m3, m4⟩]⟩ : S25).f4 = l4 ++ [⟨1, y1, y2, m3, m4⟩] from rfl, uniD_append, uniP_append] at hku3
                simp only [uniD, uniP, Nat.max_zero] at hku3
                have hz : l4.length = 0 → uniD l4 = 0 ∧ uniP l4 = 0 := fun h => by rw [List.length_eq_zero_iff.1 h]; exact ⟨rfl, rfl⟩
                obtain ⟨T, hT⟩ : ∃ T, ttrim ⟨2, 7, x2, l3, l4⟩ = T := ⟨_, rfl⟩
                rw [hT] at hkt hku2 hle
                obtain ⟨D, hD⟩ : ∃ D, uniD l4 = D := ⟨_, rfl⟩
                obtain ⟨P, hP⟩ : ∃ P, uniP l4 = P := ⟨_, rfl⟩
                obtain ⟨D2, hD2⟩ : ∃ D, uniD T.f4 = D := ⟨_, rfl⟩
                obtain ⟨P2, hP2⟩ : ∃ P, uniP T.f4 = P := ⟨_, rfl⟩
                simp only [hD, hP, hD2, hP2] at hku hku2 hku3 hle hatt hge hDB hz
                have HKU := Lib.hid hku; have HKT := Lib.hid hkt; have HKU2 := Lib.hid hku2; have HKU3 := Lib.hid hku3; have HAT := Lib.hid hatt; have HGE := Lib.hid hge; have HKD := Lib.hid hkids; have HLE := Lib.hid hle; have HDB := Lib.hid hDB; have HZ := Lib.hid hz
                have hlen : l4.length ≤ 2000000 := by simp only at hse; omega
                have hlem : m3.length ≤ 2000000 ∧ m4.length ≤ 2000000 := by simp only at hsm; omega
                have HLM := Lib.hid hlem
                clear hz hku hkt hku2 hku3 hatt hge hkids hle hDB hT hD hP hD2 hP2 hw hse hsm hll hlm hok hs hok2 hs2 evn evm hlem
                have l_BN : w.heap.size < w5.heap.size := blk_lt BN.out
                have q_BN_0 : w5.cell? ⟨w.heap.size, 0, none⟩ = some (.int .i64 2) := (blk_cell BN.out 0).trans rfl
                have q_BN_1 : w5.cell? ⟨w.heap.size, 1, none⟩ = some (.int .i64 7) := (blk_cell BN.out 1).trans rfl
                have q_BN_2 : w5.cell? ⟨w.heap.size, 2, none⟩ = some (.int .i64 x2) := (blk_cell BN.out 2).trans rfl
                have q_BN_3 : w5.cell? ⟨w.heap.size, 3, none⟩ = some (.slice A3 l3.length c3) := (blk_cell BN.out 3).trans rfl
                have q_BN_4 : w5.cell? ⟨w.heap.size, 4, none⟩ = some (.slice A4 l4.length c4) := (blk_cell BN.out 4).trans rfl
                have l_BM : w.heap.size + 1 < w5.heap.size := blk_lt BM.out
                have q_BM_0 : w5.cell? ⟨w.heap.size + 1, 0, none⟩ = some (.int .i64 1) := (blk_cell BM.out 0).trans rfl
                have q_BM_1 : w5.cell? ⟨w.heap.size + 1, 1, none⟩ = some (.int .i64 y1) := (blk_cell BM.out 1).trans rfl
                have q_BM_2 : w5.cell? ⟨w.heap.size + 1, 2, none⟩ = some (.int .i64 y2) := (blk_cell BM.out 2).trans rfl
                have q_BM_3 : w5.cell? ⟨w.heap.size + 1, 3, none⟩ = some (.slice F3 m3.length f3) := (blk_cell BM.out 3).trans rfl
                have q_BM_4 : w5.cell? ⟨w.heap.size + 1, 4, none⟩ = some (.slice F4 m4.length f4) := (blk_cell BM.out 4).trans rfl
                go_wp2_with fail
                clear l_BN q_BN_0 q_BN_1 q_BN_2 q_BN_3 q_BN_4 l_BM q_BM_0 q_BM_1 q_BM_2 q_BM_3 q_BM_4
                refine (trim_Uniform.calls ku 2 7 x2 A3 c3 l3 A4 c4 l4 (D : Int) (P : Int) _ HR3.out hc3 HR4.out hc4 HKU.out).mono ?_
                rintro e w6 ⟨rfl, hb⟩
                replace HR3 := Lib.hid (Kd.C_below HR3.out hb)
                replace HR4 := Lib.hid (Kd.C_below HR4.out hb)
                replace HQ3 := Lib.hid (Kd.C_below HQ3.out hb)
                replace HQ4 := Lib.hid (Kd.C_below HQ4.out hb)
                replace HB := Lib.hid (below_step HB.out hb)
                replace BN := Lib.hid (blk_below BN.out hb)
                replace BM := Lib.hid (blk_below BM.out hb)
                clear hb
                by_cases hz : l4.length = 0
                · obtain ⟨hd0, hp0⟩ := HZ.out hz
                  have hb_ : ((l4.length : Int) == 0) = true := by simp [hz]
                  have hb1_ : ((D : Int) == 0) = true := by simp [hd0]
                  have hb2_ : ((P : Int) == 0) = true := by simp [hp0]
                  have hz0 := Lib.hid hz
                  clear hd0 hp0 hz
                  have S7 := Lib.hid True.intro
                  have S8 := Lib.hid True.intro
                  have l_BN : w.heap.size < w6.heap.size := blk_lt BN.out
                  have q_BN_0 : w6.cell? ⟨w.heap.size, 0, none⟩ = some (.int .i64 2) := (blk_cell BN.out 0).trans rfl
                  have q_BN_1 : w6.cell? ⟨w.heap.size, 1, none⟩ = some (.int .i64 7) := (blk_cell BN.out 1).trans rfl
                  have q_BN_2 : w6.cell? ⟨w.heap.size, 2, none⟩ = some (.int .i64 x2) := (blk_cell BN.out 2).trans rfl
                  have q_BN_3 : w6.cell? ⟨w.heap.size, 3, none⟩ = some (.slice A3 l3.length c3) := (blk_cell BN.out 3).trans rfl
                  have q_BN_4 : w6.cell? ⟨w.heap.size, 4, none⟩ = some (.slice A4 l4.length c4) := (blk_cell BN.out 4).trans rfl
                  have l_BM : w.heap.size + 1 < w6.heap.size := blk_lt BM.out
                  have q_BM_0 : w6.cell? ⟨w.heap.size + 1, 0, none⟩ = some (.int .i64 1) := (blk_cell BM.out 0).trans rfl
                  have q_BM_1 : w6.cell? ⟨w.heap.size + 1, 1, none⟩ = some (.int .i64 y1) := (blk_cell BM.out 1).trans rfl
                  have q_BM_2 : w6.cell? ⟨w.heap.size + 1, 2, none⟩ = some (.int .i64 y2) := (blk_cell BM.out 2).trans rfl
                  have q_BM_3 : w6.cell? ⟨w.heap.size + 1, 3, none⟩ = some (.slice F3 m3.length f3) := (blk_cell BM.out 3).trans rfl
                  have q_BM_4 : w6.cell? ⟨w.heap.size + 1, 4, none⟩ = some (.slice F4 m4.length f4) := (blk_cell BM.out 4).trans rfl
                  go_wp2_with fail
                  clear l_BN q_BN_0 q_BN_1 q_BN_2 q_BN_3 q_BN_4 l_BM q_BM_0 q_BM_1 q_BM_2 q_BM_3 q_BM_4
                  go_loop [7, 8, 9] (fun d q i => ∃ (j : Nat) (b7 b8 : Bool), d = .bool b7 ∧ q = .bool b8 ∧ i = .int .i64 j ∧ j ≤ l4.length ∧ Hid ((l4.length = 0 ∨ ∃ i, ∃ h : i < l4.length, i < j ∧ l4[i].f3.length = 8 * D) → b7 = true) ∧ Hid ((l4.length = 0 ∨ ∃ i, ∃ h : i < l4.length, i < j ∧ l4[i].f4.length = P) → b8 = true)) (fun d q i => l4.length - (intOf i).toNat)
                  case atStart => exact ⟨0, _, _, rfl, rfl, rfl, Nat.zero_le _, Lib.hid (fun _ => rfl), Lib.hid (fun _ => rfl)⟩
                  case round =>
                    clear S7 S8 hb_ hb1_ hb2_
                    obtain ⟨j, b7, b8, rfl, rfl, rfl, hj, h7, h8⟩ := hrel
                    have l_BN : w.heap.size < w6.heap.size := blk_lt BN.out
                    have q_BN_0 : w6.cell? ⟨w.heap.size, 0, none⟩ = some (.int .i64 2) := (blk_cell BN.out 0).trans rfl
                    have q_BN_1 : w6.cell? ⟨w.heap.size, 1, none⟩ = some (.int .i64 7) := (blk_cell BN.out 1).trans rfl
                    have q_BN_2 : w6.cell? ⟨w.heap.size, 2, none⟩ = some (.int .i64 x2) := (blk_cell BN.out 2).trans rfl
                    have q_BN_3 : w6.cell? ⟨w.heap.size, 3, none⟩ = some (.slice A3 l3.length c3) := (blk_cell BN.out 3).trans rfl
                    have q_BN_4 : w6.cell? ⟨w.heap.size, 4, none⟩ = some (.slice A4 l4.length c4) := (blk_cell BN.out 4).trans rfl
                    have l_BM : w.heap.size + 1 < w6.heap.size := blk_lt BM.out
                    have q_BM_0 : w6.cell? ⟨w.heap.size + 1, 0, none⟩ = some (.int .i64 1) := (blk_cell BM.out 0).trans rfl
                    have q_BM_1 : w6.cell? ⟨w.heap.size + 1, 1, none⟩ = some (.int .i64 y1) := (blk_cell BM.out 1).trans rfl
                    have q_BM_2 : w6.cell? ⟨w.heap.size + 1, 2, none⟩ = some (.int .i64 y2) := (blk_cell BM.out 2).trans rfl
                    have q_BM_3 : w6.cell? ⟨w.heap.size + 1, 3, none⟩ = some (.slice F3 m3.length f3) := (blk_cell BM.out 3).trans rfl
                    have q_BM_4 : w6.cell? ⟨w.heap.size + 1, 4, none⟩ = some (.slice F4 m4.length f4) := (blk_cell BM.out 4).trans rfl
                    by_cases hlt : j < l4.length
                    · exfalso; have := hz0.out; omega
                    · have e7 : b7 = true := h7.out (by
                        by_cases he : l4.length = 0
                        · exact .inl he
                        · obtain ⟨⟨x, hx, ex⟩, _⟩ := HAT.out (fun h => he (by rw [h]; rfl))
                          obtain ⟨i, hi, rfl⟩ := List.getElem_of_mem hx
                          have := HKD.out _ hx
                          exact .inr ⟨i, hi, by omega, by omega⟩)
                      have e8 : b8 = true := h8.out (by
                        by_cases he : l4.length = 0
                        · exact .inl he
                        · obtain ⟨_, ⟨x, hx, ex⟩⟩ := HAT.out (fun h => he (by rw [h]; rfl))
                          obtain ⟨i, hi, rfl⟩ := List.getElem_of_mem hx
                          exact .inr ⟨i, hi, by omega, by omega⟩)
                      subst e7 e8
                      clear h7 h8
                      go_wp2_with fail
                      clear l_BN q_BN_0 q_BN_1 q_BN_2 q_BN_3 q_BN_4 l_BM q_BM_0 q_BM_1 q_BM_2 q_BM_3 q_BM_4
                      refine (trim_Trim.calls kt 2 7 x2 (fun _ => True) _ c3 l3 (fun _ => True) _ c4 l4 _ _ _ _ _ _ (V_ints HR3.out hc3) (V_nodes HR4.out hc4) HKT.out).mono ?_
                      rintro e w7 ⟨v3, v4, rfl, hR3, hR4, hb⟩
                      replace HR3 := Lib.hid (Kd.C_below HR3.out hb)
                      replace HR4 := Lib.hid (Kd.C_below HR4.out hb)
                      replace HQ3 := Lib.hid (Kd.C_below HQ3.out hb)
                      replace HQ4 := Lib.hid (Kd.C_below HQ4.out hb)
                      replace HB := Lib.hid (below_step HB.out hb)
                      replace BN := Lib.hid (blk_below BN.out hb)
                      replace BM := Lib.hid (blk_below BM.out hb)
                      clear hb
                      obtain ⟨E3, e3, rfl, he3, hE3⟩ := Kd.R_reads hR3
                      obtain ⟨E4, e4, rfl, he4, hE4⟩ := Kd.R_reads hR4
                      clear hR3 hR4
                      have l_BN : w.heap.size < w7.heap.size := blk_lt BN.out
                      have q_BN_0 : w7.cell? ⟨w.heap.size, 0, none⟩ = some (.int .i64 2) := (blk_cell BN.out 0).trans rfl
                      have q_BN_1 : w7.cell? ⟨w.heap.size, 1, none⟩ = some (.int .i64 7) := (blk_cell BN.out 1).trans rfl
                      have q_BN_2 : w7.cell? ⟨w.heap.size, 2, none⟩ = some (.int .i64 x2) := (blk_cell BN.out 2).trans rfl
                      have q_BN_3 : w7.cell? ⟨w.heap.size, 3, none⟩ = some (.slice A3 l3.length c3) := (blk_cell BN.out 3).trans rfl
                      have q_BN_4 : w7.cell? ⟨w.heap.size, 4, none⟩ = some (.slice A4 l4.length c4) := (blk_cell BN.out 4).trans rfl
                      have l_BM : w.heap.size + 1 < w7.heap.size := blk_lt BM.out
                      have q_BM_0 : w7.cell? ⟨w.heap.size + 1, 0, none⟩ = some (.int .i64 1) := (blk_cell BM.out 0).trans rfl
                      have q_BM_1 : w7.cell? ⟨w.heap.size + 1, 1, none⟩ = some (.int .i64 y1) := (blk_cell BM.out 1).trans rfl
                      have q_BM_2 : w7.cell? ⟨w.heap.size + 1, 2, none⟩ = some (.int .i64 y2) := (blk_cell BM.out 2).trans rfl
                      have q_BM_3 : w7.cell? ⟨w.heap.size + 1, 3, none⟩ = some (.slice F3 m3.length f3) := (blk_cell BM.out 3).trans rfl
                      have q_BM_4 : w7.cell? ⟨w.heap.size + 1, 4, none⟩ = some (.slice F4 m4.length f4) := (blk_cell BM.out 4).trans rfl
                      go_wp2_with fail
                      clear l_BN q_BN_0 q_BN_1 q_BN_2 q_BN_3 q_BN_4 l_BM q_BM_0 q_BM_1 q_BM_2 q_BM_3 q_BM_4
                      refine (trim_Uniform.calls ku2 T.f0 T.f1 T.f2 E3 e3 T.f3 E4 e4 T.f4 (D2 : Int) (P2 : Int) _ hE3 he3 hE4 he4 HKU2.out).mono ?_
                      rintro e w8 ⟨rfl, hb⟩
                      replace HR3 := Lib.hid (Kd.C_below HR3.out hb)
                      replace HR4 := Lib.hid (Kd.C_below HR4.out hb)
                      replace HQ3 := Lib.hid (Kd.C_below HQ3.out hb)
                      replace HQ4 := Lib.hid (Kd.C_below HQ4.out hb)
                      replace HB := Lib.hid (below_step HB.out hb)
                      replace BN := Lib.hid (blk_below BN.out hb)
                      replace BM := Lib.hid (blk_below BM.out hb)
                      clear hb
                      clear hE3 hE4
                      have l_BN : w.heap.size < w8.heap.size := blk_lt BN.out
                      have q_BN_0 : w8.cell? ⟨w.heap.size, 0, none⟩ = some (.int .i64 2) := (blk_cell BN.out 0).trans rfl
                      have q_BN_1 : w8.cell? ⟨w.heap.size, 1, none⟩ = some (.int .i64 7) := (blk_cell BN.out 1).trans rfl
                      have q_BN_2 : w8.cell? ⟨w.heap.size, 2, none⟩ = some (.int .i64 x2) := (blk_cell BN.out 2).trans rfl
                      have q_BN_3 : w8.cell? ⟨w.heap.size, 3, none⟩ = some (.slice A3 l3.length c3) := (blk_cell BN.out 3).trans rfl
                      have q_BN_4 : w8.cell? ⟨w.heap.size, 4, none⟩ = some (.slice A4 l4.length c4) := (blk_cell BN.out 4).trans rfl
                      have l_BM : w.heap.size + 1 < w8.heap.size := blk_lt BM.out
                      have q_BM_0 : w8.cell? ⟨w.heap.size + 1, 0, none⟩ = some (.int .i64 1) := (blk_cell BM.out 0).trans rfl
                      have q_BM_1 : w8.cell? ⟨w.heap.size + 1, 1, none⟩ = some (.int .i64 y1) := (blk_cell BM.out 1).trans rfl
                      have q_BM_2 : w8.cell? ⟨w.heap.size + 1, 2, none⟩ = some (.int .i64 y2) := (blk_cell BM.out 2).trans rfl
                      have q_BM_3 : w8.cell? ⟨w.heap.size + 1, 3, none⟩ = some (.slice F3 m3.length f3) := (blk_cell BM.out 3).trans rfl
                      have q_BM_4 : w8.cell? ⟨w.heap.size + 1, 4, none⟩ = some (.slice F4 m4.length f4) := (blk_cell BM.out 4).trans rfl
                      go_wp2_with fail
                      clear l_BN q_BN_0 q_BN_1 q_BN_2 q_BN_3 q_BN_4 l_BM q_BM_0 q_BM_1 q_BM_2 q_BM_3 q_BM_4
                      refine wp_at (fun W1 hW => ?_)
                      have BT0 : Hid (W1.heap[w8.heap.size]? = some (.cells #[.int .i64 2, .int .i64 7, .int .i64 (wrap64 (x2 + 1)), .slice A3 l3.length c3, .slice A4 l4.length c4] 25 (0, 0))) := Lib.hid (by rw [hW]; exact heap_alloc_new _ _)
                      have hb81 : Below w8.heap.size w8 W1 := by rw [hW]; exact (Below.refl _ _).alloc (Nat.le_refl _) _
                      clear hW
                      have q_s4 : W1.cell? ⟨w.heap.size, 4, none⟩ = some (.slice A4 l4.length c4) := (blk_cell (blk_below BN.out hb81) 4).trans rfl
                      have q_m0 : W1.cell? ⟨w.heap.size + 1, 0, none⟩ = some (.int .i64 1) := (blk_cell (blk_below BM.out hb81) 0).trans rfl
                      have q_m1 : W1.cell? ⟨w.heap.size + 1, 1, none⟩ = some (.int .i64 y1) := (blk_cell (blk_below BM.out hb81) 1).trans rfl
                      have q_m2 : W1.cell? ⟨w.heap.size + 1, 2, none⟩ = some (.int .i64 y2) := (blk_cell (blk_below BM.out hb81) 2).trans rfl
                      have q_m3 : W1.cell? ⟨w.heap.size + 1, 3, none⟩ = some (.slice F3 m3.length f3) := (blk_cell (blk_below BM.out hb81) 3).trans rfl
                      have q_m4 : W1.cell? ⟨w.heap.size + 1, 4, none⟩ = some (.slice F4 m4.length f4) := (blk_cell (blk_below BM.out hb81) 4).trans rfl
                      obtain ⟨rowsN, hRK, hRC⟩ := rows_of_C HR4.out
                      have HL4 := Lib.hid hlen
                      have hrl : rowsN.length = l4.length := hRK.1
                      refine start_ (n := 9) (S := fun w' => w'.cell? ⟨w.heap.size, 4, none⟩ = some (.slice A4 l4.length c4) ∧ w'.cell? ⟨w.heap.size + 1, 0, none⟩ = some (.int .i64 1) ∧ w'.cell? ⟨w.heap.size + 1, 1, none⟩ = some (.int .i64 y1) ∧ w'.cell? ⟨w.heap.size + 1, 2, none⟩ = some (.int .i64 y2) ∧ w'.cell? ⟨w.heap.size + 1, 3, none⟩ = some (.slice F3 m3.length f3) ∧ w'.cell? ⟨w.heap.size + 1, 4, none⟩ = some (.slice F4 m4.length f4)) (ds := [8]) #[false, false, false, false, false, false, false, false, false] (by kernel_rfl) rfl rfl ⟨q_s4, q_m0, q_m1, q_m2, q_m3, q_m4⟩ (fun hHeld => ?_)
                      obtain ⟨wd, hwd⟩ : ∃ W, W = W1.drew := ⟨_, rfl⟩
                      rw [← hwd] at hHeld ⊢
                      have hb1d : Below W1.heap.size W1 wd := by rw [hwd]; exact (Below.refl _ _).drew
                      clear hwd q_s4 q_m0 q_m1 q_m2 q_m3 q_m4
                      have hb8d : Below w8.heap.size w8 wd := hb81.trans (hb1d.mono hb81.size)
                      have BT := Lib.hid (blk_below BT0.out hb1d)
                      have HC4 := Lib.hid (Kd.C_below hRC hb8d)
                      have HRK := Lib.hid hRK
                      clear hRC hRK BT0
                      have hHd := hHeld
                      obtain ⟨qd_s4, qd_m0, qd_m1, qd_m2, qd_m3, qd_m4⟩ := hHd
                      have l_src : w.heap.size < wd.heap.size := blk_lt (blk_below BN.out hb8d)
                      have l_more : w.heap.size + 1 < wd.heap.size := blk_lt (blk_below BM.out hb8d)
                      refine pure_ (i := 1) (N := some 139) (v := ?_) (a' := ?_) #[false, true, false, false, false, false, false, false, false] rfl rfl (by kernel_rfl) (fun _ _ _ h => h) (Or.inl ⟨by rfl, ?_⟩) ?_ ?_
                      rotate_left
                      · intro w'
                        go_simp
                        with_reducible rfl
                      rotate_left
                      · simp only [Act.put, List.setIfInBounds_toArray, List.set_cons_zero, List.set_cons_succ, i64_w, i32_w]
                        rfl
                      refine take_ (i := 2) (N := some 140) (v := ?_) (a' := ?_) #[false, true, true, false, false, false, false, false, false] rfl rfl (by kernel_rfl) (fun _ _ _ h => h) (Or.inl ⟨by rfl, ?_⟩) hHeld ?_ ?_
                      rotate_left
                      · rintro w' ⟨s0, s1, s2, s3, s4, s5⟩
                        go_simp
                        with_reducible rfl
                      rotate_left
                      · simp only [Act.put, List.setIfInBounds_toArray, List.set_cons_zero, List.set_cons_succ, i64_w, i32_w]
                        rfl
                      refine take_ (i := 4) (N := some 142) (v := ?_) (a' := ?_) #[false, true, true, false, true, false, false, false, false] rfl rfl (by kernel_rfl) (fun _ _ _ h => h) (Or.inl ⟨by rfl, ?_⟩) hHeld ?_ ?_
                      rotate_left
                      · rintro w' ⟨s0, s1, s2, s3, s4, s5⟩
                        go_simp
                        with_reducible rfl
                      rotate_left
                      · simp only [Act.put, List.setIfInBounds_toArray, List.set_cons_zero, List.set_cons_succ, i64_w, i32_w]
                        rfl
                      refine join_ (σ := Value × Value × Value) 3 #[true, true, true, true, true, true, false, false, false] (fun s_ => [(138, s_.1), (141, s_.2.1), (143, s_.2.2)]) (fun s_ w' => (w'.cell? ⟨w.heap.size, 4, none⟩ = some (.slice A4 l4.length c4) ∧ w'.cell? ⟨w.heap.size + 1, 0, none⟩ = some (.int .i64 1) ∧ w'.cell? ⟨w.heap.size + 1, 1, none⟩ = some (.int .i64 y1) ∧ w'.cell? ⟨w.heap.size + 1, 2, none⟩ = some (.int .i64 y2) ∧ w'.cell? ⟨w.heap.size + 1, 3, none⟩ = some (.slice F3 m3.length f3) ∧ w'.cell? ⟨w.heap.size + 1, 4, none⟩ = some (.slice F4 m4.length f4)) ∧ Below wd.heap.size wd w' ∧ Hid ((Kd.raw 5).R 25 w' wd.heap.size (fun _ => True) s_.2.1 ([] ++ rowsN)) ∧ Hid ((Kd.raw 5).R 25 w' wd.heap.size (fun _ => True) s_.2.2 [[.int .i64 1, .int .i64 y1, .int .i64 y2, .slice F3 m3.length f3, .slice F4 m4.length f4]])) ?_ ?_
                      rotate_left
                      · intro hCont
                        refine two_ (i := 0) (j := 5) (Ni := some 138) (Nj := some 143) #[true, true, true, false, true, false, false, false, false] #[false, true, true, false, true, true, false, false, false] rfl rfl rfl rfl (by kernel_rfl) (by decide) (by decide) (fun K hK => ?_) (fun K hK => ?_)
                        · skip
                          refine Kd.R_lit_step (Kd.raw 5) (w0 := wd) wd.heap.size 25 ?hg (N := 138) ?hd (xs := []) (inner := []) (ok := fun _ => True) (okp := fun _ => False) ?hr ?hp (fun _ hk => hk.elim) trivial (Below.refl _ _) (Nat.le_refl _) (by simp) ?_; (case hd => rfl); (case hg => rfl); (case hr => first | (go_simp; done) | (go_simp; rfl)); (case hp => exact (Reps.none _ _))
                          intro v0 we0 ho hb hg hnew
                          have H0 := Lib.hid ho
                          have n_hb := hb
                          have hbd := n_hb
                          clear n_hb hb ho hg
                          refine hK.out _ _ ⟨(hbd.cell (p := ⟨w.heap.size, 4, none⟩) l_src).trans qd_s4, (hbd.cell (p := ⟨w.heap.size + 1, 0, none⟩) l_more).trans qd_m0, (hbd.cell (p := ⟨w.heap.size + 1, 1, none⟩) l_more).trans qd_m1, (hbd.cell (p := ⟨w.heap.size + 1, 2, none⟩) l_more).trans qd_m2, (hbd.cell (p := ⟨w.heap.size + 1, 3, none⟩) l_more).trans qd_m3, (hbd.cell (p := ⟨w.heap.size + 1, 4, none⟩) l_more).trans qd_m4⟩ (fun hHeld => ?_)
                          clear hK K
                          refine norm_ (a' := ?_) ?_ ?_
                          rotate_left
                          · show Act.put _ (some 138) _ = _
                            simp only [Act.put, List.setIfInBounds_toArray, List.set_cons_zero, List.set_cons_succ, i64_w, i32_w]
                            rfl
                          refine two_ (i := 3) (j := 5) (Ni := some 141) (Nj := some 143) #[true, true, true, true, true, false, false, false, false] #[true, true, true, false, true, true, false, false, false] rfl rfl rfl rfl (by kernel_rfl) (by decide) (by decide) (fun K hK => ?_) (fun K hK => ?_)
                          · skip
                            refine Kd.R_append_rows_step (Kd.raw 5) (Rr := Kd.K (Kd.raw 5) wd) (w0 := wd) wd.heap.size (by rfl) (.tmp 138) (.tmp 140) 23 25 (.agg #[(.int .i64 0), (.int .i64 0), (.int .i64 0), (.slice none 0 0), (.slice none 0 0)]) 72 rfl Try.underlying23 info25 rfl (by decide) (by omega) v0 [] rowsN _ _ _ (fun _ => True) (fun _ => False) rfl rfl ?aO ?aR (fun _ _ h => h) (fun _ h => h.elim) (fun _ _ => trivial) ?aB ?aS ?aL ?_
                            (case aO => exact H0.out)
                            (case aR => exact Kd.C_below HC4.out hbd)
                            (case aB => exact hbd)
                            (case aS => exact hbd.size)
                            (case aL => have := HL4.out; simp only [List.length_nil]; omega)
                            intro v3 we1 ho hb hg hat
                            have H3 := Lib.hid ho
                            have n_hb := hb
                            clear hbd
                            have hbd := n_hb
                            clear n_hb hb ho hg
                            refine hK.out _ _ ⟨(hbd.cell (p := ⟨w.heap.size, 4, none⟩) l_src).trans qd_s4, (hbd.cell (p := ⟨w.heap.size + 1, 0, none⟩) l_more).trans qd_m0, (hbd.cell (p := ⟨w.heap.size + 1, 1, none⟩) l_more).trans qd_m1, (hbd.cell (p := ⟨w.heap.size + 1, 2, none⟩) l_more).trans qd_m2, (hbd.cell (p := ⟨w.heap.size + 1, 3, none⟩) l_more).trans qd_m3, (hbd.cell (p := ⟨w.heap.size + 1, 4, none⟩) l_more).trans qd_m4⟩ (fun hHeld => ?_)
                            clear hK K
                            refine norm_ (a' := ?_) ?_ ?_
                            rotate_left
                            · show Act.put _ (some 141) _ = _
                              simp only [Act.put, List.setIfInBounds_toArray, List.set_cons_zero, List.set_cons_succ, i64_w, i32_w]
                              rfl
                            refine one_ (i := 5) (N := some 143) #[true, true, true, true, true, true, false, false, false] rfl rfl (by kernel_rfl) (by decide) (fun K hK => ?_)
                            refine Kd.R_lit_step (Kd.raw 5) (w0 := wd) wd.heap.size 25 ?hg (N := 143) ?hd (xs := [[.int .i64 1, .int .i64 y1, .int .i64 y2, .slice F3 m3.length f3, .slice F4 m4.length f4]]) (inner := [.int .i64 1, .int .i64 y1, .int .i64 y2, .slice F3 m3.length f3, .slice F4 m4.length f4]) (ok := fun _ => True) (okp := fun _ => False) ?hr ?hp (fun _ hk => hk.elim) trivial hbd hbd.size (by simp) ?_; (case hd => rfl); (case hg => rfl); (case hr => first | (go_simp; done) | (go_simp; rfl)); (case hp => exact (Reps.c5 (show Kd.M (Kd.raw 5) _ _ _ [.int .i64 1, .int .i64 y1, .int .i64 y2, .slice F3 m3.length f3, .slice F4 m4.length f4] [.int .i64 1, .int .i64 y1, .int .i64 y2, .slice F3 m3.length f3, .slice F4 m4.length f4] from raw_M rfl (by simp [Value.oneCell'])) (Reps.none _ _)))
                            intro v5 we2 ho hb hg hnew
                            replace H3 := Lib.hid (raw_kept H3.out hg (fun k _ h => by cases h))
                            have H5 := Lib.hid ho
                            have n_hb := hb
                            clear hbd
                            have hbd := n_hb
                            clear n_hb hb ho hg
                            refine hK.out _ _ ⟨(hbd.cell (p := ⟨w.heap.size, 4, none⟩) l_src).trans qd_s4, (hbd.cell (p := ⟨w.heap.size + 1, 0, none⟩) l_more).trans qd_m0, (hbd.cell (p := ⟨w.heap.size + 1, 1, none⟩) l_more).trans qd_m1, (hbd.cell (p := ⟨w.heap.size + 1, 2, none⟩) l_more).trans qd_m2, (hbd.cell (p := ⟨w.heap.size + 1, 3, none⟩) l_more).trans qd_m3, (hbd.cell (p := ⟨w.heap.size + 1, 4, none⟩) l_more).trans qd_m4⟩ (fun hHeld => ?_)
                            clear hK K
                            refine norm_ (a' := ?_) ?_ ?_
                            rotate_left
                            · show Act.put _ (some 143) _ = _
                              simp only [Act.put, List.setIfInBounds_toArray, List.set_cons_zero, List.set_cons_succ, i64_w, i32_w]
                              rfl
                            exact norm_ (by simp only [putAll, Act.put, List.setIfInBounds_toArray, List.set_cons_zero, List.set_cons_succ]) (hCont (v0, v3, v5) _ ⟨⟨(hbd.cell (p := ⟨w.heap.size, 4, none⟩) l_src).trans qd_s4, (hbd.cell (p := ⟨w.heap.size + 1, 0, none⟩) l_more).trans qd_m0, (hbd.cell (p := ⟨w.heap.size + 1, 1, none⟩) l_more).trans qd_m1, (hbd.cell (p := ⟨w.heap.size + 1, 2, none⟩) l_more).trans qd_m2, (hbd.cell (p := ⟨w.heap.size + 1, 3, none⟩) l_more).trans qd_m3, (hbd.cell (p := ⟨w.heap.size + 1, 4, none⟩) l_more).trans qd_m4⟩, hbd, H3, H5⟩)
                          · skip
                            refine Kd.R_lit_step (Kd.raw 5) (w0 := wd) wd.heap.size 25 ?hg (N := 143) ?hd (xs := [[.int .i64 1, .int .i64 y1, .int .i64 y2, .slice F3 m3.length f3, .slice F4 m4.length f4]]) (inner := [.int .i64 1, .int .i64 y1, .int .i64 y2, .slice F3 m3.length f3, .slice F4 m4.length f4]) (ok := fun _ => True) (okp := fun _ => False) ?hr ?hp (fun _ hk => hk.elim) trivial hbd hbd.size (by simp) ?_; (case hd => rfl); (case hg => rfl); (case hr => first | (go_simp; done) | (go_simp; rfl)); (case hp => exact (Reps.c5 (show Kd.M (Kd.raw 5) _ _ _ [.int .i64 1, .int .i64 y1, .int .i64 y2, .slice F3 m3.length f3, .slice F4 m4.length f4] [.int .i64 1, .int .i64 y1, .int .i64 y2, .slice F3 m3.length f3, .slice F4 m4.length f4] from raw_M rfl (by simp [Value.oneCell'])) (Reps.none _ _)))
                            intro v5 we1 ho hb hg hnew
                            have D05 : Hid (∀ k, v5.ownBlock = some k → v0.ownBlock ≠ some k) := fun k hk he => by obtain ⟨b, e_, hle⟩ := hnew; rw [e_] at hk; have := (raw_block H0.out he).2; injection hk with hk; omega
                            replace H0 := Lib.hid (raw_kept H0.out hg (fun k _ h => by cases h))
                            have H5 := Lib.hid ho
                            have n_hb := hb
                            clear hbd
                            have hbd := n_hb
                            clear n_hb hb ho hg
                            refine hK.out _ _ ⟨(hbd.cell (p := ⟨w.heap.size, 4, none⟩) l_src).trans qd_s4, (hbd.cell (p := ⟨w.heap.size + 1, 0, none⟩) l_more).trans qd_m0, (hbd.cell (p := ⟨w.heap.size + 1, 1, none⟩) l_more).trans qd_m1, (hbd.cell (p := ⟨w.heap.size + 1, 2, none⟩) l_more).trans qd_m2, (hbd.cell (p := ⟨w.heap.size + 1, 3, none⟩) l_more).trans qd_m3, (hbd.cell (p := ⟨w.heap.size + 1, 4, none⟩) l_more).trans qd_m4⟩ (fun hHeld => ?_)
                            clear hK K
                            refine norm_ (a' := ?_) ?_ ?_
                            rotate_left
                            · show Act.put _ (some 143) _ = _
                              simp only [Act.put, List.setIfInBounds_toArray, List.set_cons_zero, List.set_cons_succ, i64_w, i32_w]
                              rfl
                            refine one_ (i := 3) (N := some 141) #[true, true, true, true, true, true, false, false, false] rfl rfl (by kernel_rfl) (by decide) (fun K hK => ?_)
                            refine Kd.R_append_rows_step (Kd.raw 5) (Rr := Kd.K (Kd.raw 5) wd) (w0 := wd) wd.heap.size (by rfl) (.tmp 138) (.tmp 140) 23 25 (.agg #[(.int .i64 0), (.int .i64 0), (.int .i64 0), (.slice none 0 0), (.slice none 0 0)]) 72 rfl Try.underlying23 info25 rfl (by decide) (by omega) v0 [] rowsN _ _ _ (fun _ => True) (fun _ => False) rfl rfl ?aO ?aR (fun _ _ h => h) (fun _ h => h.elim) (fun _ _ => trivial) ?aB ?aS ?aL ?_
                            (case aO => exact H0.out)
                            (case aR => exact Kd.C_below HC4.out hbd)
                            (case aB => exact hbd)
                            (case aS => exact hbd.size)
                            (case aL => have := HL4.out; simp only [List.length_nil]; omega)
                            intro v3 we2 ho hb hg hat
                            replace H5 := Lib.hid (raw_kept H5.out hg (fun k hk => D05.out k hk))
                            have H3 := Lib.hid ho
                            have n_hb := hb
                            clear hbd
                            have hbd := n_hb
                            clear n_hb hb ho hg
                            refine hK.out _ _ ⟨(hbd.cell (p := ⟨w.heap.size, 4, none⟩) l_src).trans qd_s4, (hbd.cell (p := ⟨w.heap.size + 1, 0, none⟩) l_more).trans qd_m0, (hbd.cell (p := ⟨w.heap.size + 1, 1, none⟩) l_more).trans qd_m1, (hbd.cell (p := ⟨w.heap.size + 1, 2, none⟩) l_more).trans qd_m2, (hbd.cell (p := ⟨w.heap.size + 1, 3, none⟩) l_more).trans qd_m3, (hbd.cell (p := ⟨w.heap.size + 1, 4, none⟩) l_more).trans qd_m4⟩ (fun hHeld => ?_)
                            clear hK K
                            refine norm_ (a' := ?_) ?_ ?_
                            rotate_left
                            · show Act.put _ (some 141) _ = _
                              simp only [Act.put, List.setIfInBounds_toArray, List.set_cons_zero, List.set_cons_succ, i64_w, i32_w]
                              rfl
                            exact norm_ (by simp only [putAll, Act.put, List.setIfInBounds_toArray, List.set_cons_zero, List.set_cons_succ]) (hCont (v0, v3, v5) _ ⟨⟨(hbd.cell (p := ⟨w.heap.size, 4, none⟩) l_src).trans qd_s4, (hbd.cell (p := ⟨w.heap.size + 1, 0, none⟩) l_more).trans qd_m0, (hbd.cell (p := ⟨w.heap.size + 1, 1, none⟩) l_more).trans qd_m1, (hbd.cell (p := ⟨w.heap.size + 1, 2, none⟩) l_more).trans qd_m2, (hbd.cell (p := ⟨w.heap.size + 1, 3, none⟩) l_more).trans qd_m3, (hbd.cell (p := ⟨w.heap.size + 1, 4, none⟩) l_more).trans qd_m4⟩, hbd, H3, H5⟩)
                        · skip
                          refine Kd.R_lit_step (Kd.raw 5) (w0 := wd) wd.heap.size 25 ?hg (N := 143) ?hd (xs := [[.int .i64 1, .int .i64 y1, .int .i64 y2, .slice F3 m3.length f3, .slice F4 m4.length f4]]) (inner := [.int .i64 1, .int .i64 y1, .int .i64 y2, .slice F3 m3.length f3, .slice F4 m4.length f4]) (ok := fun _ => True) (okp := fun _ => False) ?hr ?hp (fun _ hk => hk.elim) trivial (Below.refl _ _) (Nat.le_refl _) (by simp) ?_; (case hd => rfl); (case hg => rfl); (case hr => first | (go_simp; done) | (go_simp; rfl)); (case hp => exact (Reps.c5 (show Kd.M (Kd.raw 5) _ _ _ [.int .i64 1, .int .i64 y1, .int .i64 y2, .slice F3 m3.length f3, .slice F4 m4.length f4] [.int .i64 1, .int .i64 y1, .int .i64 y2, .slice F3 m3.length f3, .slice F4 m4.length f4] from raw_M rfl (by simp [Value.oneCell'])) (Reps.none _ _)))
                          intro v5 we0 ho hb hg hnew
                          have H5 := Lib.hid ho
                          have n_hb := hb
                          have hbd := n_hb
                          clear n_hb hb ho hg
                          refine hK.out _ _ ⟨(hbd.cell (p := ⟨w.heap.size, 4, none⟩) l_src).trans qd_s4, (hbd.cell (p := ⟨w.heap.size + 1, 0, none⟩) l_more).trans qd_m0, (hbd.cell (p := ⟨w.heap.size + 1, 1, none⟩) l_more).trans qd_m1, (hbd.cell (p := ⟨w.heap.size + 1, 2, none⟩) l_more).trans qd_m2, (hbd.cell (p := ⟨w.heap.size + 1, 3, none⟩) l_more).trans qd_m3, (hbd.cell (p := ⟨w.heap.size + 1, 4, none⟩) l_more).trans qd_m4⟩ (fun hHeld => ?_)
                          clear hK K
                          refine norm_ (a' := ?_) ?_ ?_
                          rotate_left
                          · show Act.put _ (some 143) _ = _
                            simp only [Act.put, List.setIfInBounds_toArray, List.set_cons_zero, List.set_cons_succ, i64_w, i32_w]
                            rfl
                          refine one_ (i := 0) (N := some 138) #[true, true, true, false, true, true, false, false, false] rfl rfl (by kernel_rfl) (by decide) (fun K hK => ?_)
                          refine Kd.R_lit_step (Kd.raw 5) (w0 := wd) wd.heap.size 25 ?hg (N := 138) ?hd (xs := []) (inner := []) (ok := fun _ => True) (okp := fun _ => False) ?hr ?hp (fun _ hk => hk.elim) trivial hbd hbd.size (by simp) ?_; (case hd => rfl); (case hg => rfl); (case hr => first | (go_simp; done) | (go_simp; rfl)); (case hp => exact (Reps.none _ _))
                          intro v0 we1 ho hb hg hnew
                          have D05 : Hid (∀ k, v5.ownBlock = some k → v0.ownBlock ≠ some k) := fun k hk he => by obtain ⟨b, e_, hle⟩ := hnew; rw [e_] at he; have := (raw_block H5.out hk).2; injection he with he; omega
                          replace H5 := Lib.hid (raw_kept H5.out hg (fun k _ h => by cases h))
                          have H0 := Lib.hid ho
                          have n_hb := hb
                          clear hbd
                          have hbd := n_hb
                          clear n_hb hb ho hg
                          refine hK.out _ _ ⟨(hbd.cell (p := ⟨w.heap.size, 4, none⟩) l_src).trans qd_s4, (hbd.cell (p := ⟨w.heap.size + 1, 0, none⟩) l_more).trans qd_m0, (hbd.cell (p := ⟨w.heap.size + 1, 1, none⟩) l_more).trans qd_m1, (hbd.cell (p := ⟨w.heap.size + 1, 2, none⟩) l_more).trans qd_m2, (hbd.cell (p := ⟨w.heap.size + 1, 3, none⟩) l_more).trans qd_m3, (hbd.cell (p := ⟨w.heap.size + 1, 4, none⟩) l_more).trans qd_m4⟩ (fun hHeld => ?_)
                          clear hK K
                          refine norm_ (a' := ?_) ?_ ?_
                          rotate_left
                          · show Act.put _ (some 138) _ = _
                            simp only [Act.put, List.setIfInBounds_toArray, List.set_cons_zero, List.set_cons_succ, i64_w, i32_w]
                            rfl
                          refine one_ (i := 3) (N := some 141) #[true, true, true, true, true, true, false, false, false] rfl rfl (by kernel_rfl) (by decide) (fun K hK => ?_)
                          refine Kd.R_append_rows_step (Kd.raw 5) (Rr := Kd.K (Kd.raw 5) wd) (w0 := wd) wd.heap.size (by rfl) (.tmp 138) (.tmp 140) 23 25 (.agg #[(.int .i64 0), (.int .i64 0), (.int .i64 0), (.slice none 0 0), (.slice none 0 0)]) 72 rfl Try.underlying23 info25 rfl (by decide) (by omega) v0 [] rowsN _ _ _ (fun _ => True) (fun _ => False) rfl rfl ?aO ?aR (fun _ _ h => h) (fun _ h => h.elim) (fun _ _ => trivial) ?aB ?aS ?aL ?_
                          (case aO => exact H0.out)
                          (case aR => exact Kd.C_below HC4.out hbd)
                          (case aB => exact hbd)
                          (case aS => exact hbd.size)
                          (case aL => have := HL4.out; simp only [List.length_nil]; omega)
                          intro v3 we2 ho hb hg hat
                          replace H5 := Lib.hid (raw_kept H5.out hg (fun k hk => D05.out k hk))
                          have H3 := Lib.hid ho
                          have n_hb := hb
                          clear hbd
                          have hbd := n_hb
                          clear n_hb hb ho hg
                          refine hK.out _ _ ⟨(hbd.cell (p := ⟨w.heap.size, 4, none⟩) l_src).trans qd_s4, (hbd.cell (p := ⟨w.heap.size + 1, 0, none⟩) l_more).trans qd_m0, (hbd.cell (p := ⟨w.heap.size + 1, 1, none⟩) l_more).trans qd_m1, (hbd.cell (p := ⟨w.heap.size + 1, 2, none⟩) l_more).trans qd_m2, (hbd.cell (p := ⟨w.heap.size + 1, 3, none⟩) l_more).trans qd_m3, (hbd.cell (p := ⟨w.heap.size + 1, 4, none⟩) l_more).trans qd_m4⟩ (fun hHeld => ?_)
                          clear hK K
                          refine norm_ (a' := ?_) ?_ ?_
                          rotate_left
                          · show Act.put _ (some 141) _ = _
                            simp only [Act.put, List.setIfInBounds_toArray, List.set_cons_zero, List.set_cons_succ, i64_w, i32_w]
                            rfl
                          exact norm_ (by simp only [putAll, Act.put, List.setIfInBounds_toArray, List.set_cons_zero, List.set_cons_succ]) (hCont (v0, v3, v5) _ ⟨⟨(hbd.cell (p := ⟨w.heap.size, 4, none⟩) l_src).trans qd_s4, (hbd.cell (p := ⟨w.heap.size + 1, 0, none⟩) l_more).trans qd_m0, (hbd.cell (p := ⟨w.heap.size + 1, 1, none⟩) l_more).trans qd_m1, (hbd.cell (p := ⟨w.heap.size + 1, 2, none⟩) l_more).trans qd_m2, (hbd.cell (p := ⟨w.heap.size + 1, 3, none⟩) l_more).trans qd_m3, (hbd.cell (p := ⟨w.heap.size + 1, 4, none⟩) l_more).trans qd_m4⟩, hbd, H3, H5⟩)
                      rintro ⟨v0, v3, v5⟩ wj ⟨hS_, hbj, H3, H5⟩
                      have hHeld : wj.cell? ⟨w.heap.size, 4, none⟩ = some (.slice A4 l4.length c4) ∧ wj.cell? ⟨w.heap.size + 1, 0, none⟩ = some (.int .i64 1) ∧ wj.cell? ⟨w.heap.size + 1, 1, none⟩ = some (.int .i64 y1) ∧ wj.cell? ⟨w.heap.size + 1, 2, none⟩ = some (.int .i64 y2) ∧ wj.cell? ⟨w.heap.size + 1, 3, none⟩ = some (.slice F3 m3.length f3) ∧ wj.cell? ⟨w.heap.size + 1, 4, none⟩ = some (.slice F4 m4.length f4) := hS_
                      clear hS_
                      obtain ⟨A5, c5, rfl, _, hC5⟩ := Kd.R_reads H5.out
                      have HC5 := Lib.hid hC5
                      clear hC5 H5
                      refine norm_ (a' := ?_) ?_ ?_
                      rotate_left
                      · simp only [putAll, Act.put, List.setIfInBounds_toArray, List.set_cons_zero, List.set_cons_succ]
                        rfl
                      refine one_ (i := 6) (N := some 144) #[true, true, true, true, true, true, true, false, false] rfl rfl (by kernel_rfl) (by decide) (fun K hK => ?_)
                      refine Kd.R_append_rows_step (Kd.raw 5) (Rr := Kd.K (Kd.raw 5) wj) (w0 := wd) wd.heap.size (by rfl) (.tmp 141) (.tmp 143) 23 25 (.agg #[(.int .i64 0), (.int .i64 0), (.int .i64 0), (.slice none 0 0), (.slice none 0 0)]) 72 rfl Try.underlying23 info25 rfl (by decide) (by omega) v3 ([] ++ rowsN) [[.int .i64 1, .int .i64 y1, .int .i64 y2, .slice F3 m3.length f3, .slice F4 m4.length f4]] _ _ _ (fun _ => True) (fun _ => False) rfl rfl ?aO ?aR (fun _ _ h => h) (fun _ h => h.elim) (fun _ _ => trivial) ?aB ?aS ?aL ?_
                      (case aO => exact H3.out)
                      (case aR => exact HC5.out)
                      (case aB => exact hbj)
                      (case aS => exact hbj.size)
                      (case aL => have := HL4.out; simp only [List.nil_append, List.length_singleton]; omega)
                      intro v6 wk ho hb hg hat
                      have H6 := Lib.hid ho
                      have hbk := hb
                      clear ho hb hg hat H3 HC5
                      refine hK.out _ _ ⟨(hbk.cell (p := ⟨w.heap.size, 4, none⟩) l_src).trans qd_s4, (hbk.cell (p := ⟨w.heap.size + 1, 0, none⟩) l_more).trans qd_m0, (hbk.cell (p := ⟨w.heap.size + 1, 1, none⟩) l_more).trans qd_m1, (hbk.cell (p := ⟨w.heap.size + 1, 2, none⟩) l_more).trans qd_m2, (hbk.cell (p := ⟨w.heap.size + 1, 3, none⟩) l_more).trans qd_m3, (hbk.cell (p := ⟨w.heap.size + 1, 4, none⟩) l_more).trans qd_m4⟩ (fun hHeld => ?_)
                      clear hK K
                      refine norm_ (a' := ?_) ?_ ?_
                      rotate_left
                      · show Act.put _ (some 144) _ = _
                        simp only [Act.put, List.setIfInBounds_toArray, List.set_cons_zero, List.set_cons_succ, i64_w, i32_w]
                        rfl
                      refine pure_ (i := 7) (N := some 145) (v := ?_) (a' := ?_) #[true, true, true, true, true, true, true, true, false] rfl rfl (by kernel_rfl) (fun _ _ _ h => h) (Or.inl ⟨by rfl, ?_⟩) ?_ ?_
                      rotate_left
                      · intro w'
                        go_simp
                        with_reducible rfl
                      rotate_left
                      · simp only [Act.put, List.setIfInBounds_toArray, List.set_cons_zero, List.set_cons_succ, i64_w, i32_w]
                        rfl
                      refine last_ (i := 8) (N := none) #[true, true, true, true, true, true, true, true, true] rfl rfl (by kernel_rfl) (by decide) (fun K hK => ?_)
                      have BT6 := blk_below BT.out hbk
                      have lt6 := blk_lt BT6
                      have qt6 : wk.cell? ⟨w8.heap.size, 4, none⟩ = some (.slice A4 l4.length c4) := (blk_cell BT6 4).trans rfl
                      have ft6 := blk_frozen BT6 4
                      clear BT6
                      obtain ⟨A6, c6, rfl, hl6, hC6⟩ := Kd.R_reads H6.out
                      clear hC6
                      refine skip_ (w1 := ?_) (by rfl) rfl ?_ ?_
                      rotate_left
                      · go_simp
                        rfl
                      refine hK.out _ _ ?_
                      clear hK K
                      refine done_ (by kernel_rfl) ?_
                      obtain ⟨L, hL⟩ : ∃ L, l4 ++ [⟨1, y1, y2, m3, m4⟩] = L := ⟨_, rfl⟩
                      have hLL : l4.length + 1 = L.length := by rw [← hL]; simp
                      rw [hLL]
                      obtain ⟨wf, hwf⟩ : ∃ W, W = wk.setCell ⟨w8.heap.size, 4, none⟩ (.slice A6 L.length c6) := ⟨_, rfl⟩
                      rw [← hwf]
                      have hb8f : Below w8.heap.size w8 wf := by rw [hwf]; exact (hb8d.trans (hbk.mono hb8d.size)).setCell (p := ⟨w8.heap.size, 4, none⟩) (Nat.le_refl _) _
                      have hBX : wf.heap[w8.heap.size]? = some (.cells #[.int .i64 2, .int .i64 7, .int .i64 (wrap64 (x2 + 1)), .slice A3 l3.length c3, .slice A6 L.length c6] 25 (0, 0)) := by rw [hwf]; exact blk_put (blk_below BT.out hbk) 4 _ rfl
                      have hR6 := raw_far (u := .slice A6 L.length c6) H6.out (p := ⟨w8.heap.size, 4, none⟩) (Nat.lt_of_lt_of_le (blk_lt BT.out) (Nat.le_refl _))
                      rw [← hwf] at hR6
                      have hC6 := (Kd.R_reads' hR6).2.2
                      have hrk := ((RowsK.nil k25 w8).append HRK.out).append (RowsK.one (k25_mk w8 ⟨1, y1, y2, m3, m4⟩ hd3 HQ3.out hd4 HQ4.out))
                      rw [List.nil_append, hL] at hrk
                      have hCx := C_of_rows hC6 (hrk.below hb8f)
                      rw [show List.length (([] : List (List Value)) ++ rowsN ++ [([.int .i64 1, .int .i64 y1, .int .i64 y2, .slice F3 m3.length f3, .slice F4 m4.length f4] : List Value)]) = L.length by rw [← hLL]; simp [hrl]] at hCx
                      have hcL : L.length ≤ c6 := by have := hl6; rw [← hLL]; simpa [hrl] using this
                      have hk3 := HKU3.out
                      rw [hL] at hk3
                      replace HKU3 := Lib.hid hk3
                      have HX4 := Lib.hid hCx
                      clear hk3 hCx hC6 hrk hR6 hwf H6 BT HRK HC4 hHeld qt6 ft6 lt6 qd_s4 qd_m0 qd_m1 qd_m2 qd_m3 qd_m4 l_src l_more hl6 hL
                      replace HR3 := Lib.hid (Kd.C_below HR3.out hb8f)
                      replace HR4 := Lib.hid (Kd.C_below HR4.out hb8f)
                      replace HQ3 := Lib.hid (Kd.C_below HQ3.out hb8f)
                      replace HQ4 := Lib.hid (Kd.C_below HQ4.out hb8f)
                      replace HB := Lib.hid (below_step HB.out hb8f)
                      replace BN := Lib.hid (blk_below BN.out hb8f)
                      replace BM := Lib.hid (blk_below BM.out hb8f)
                      have BX := Lib.hid hBX
                      clear hBX hb8f hbk hbj hb8d hb1d hb81
                      have l_BN : w.heap.size < wf.heap.size := blk_lt BN.out
                      have q_BN_0 : wf.cell? ⟨w.heap.size, 0, none⟩ = some (.int .i64 2) := (blk_cell BN.out 0).trans rfl
                      have q_BN_1 : wf.cell? ⟨w.heap.size, 1, none⟩ = some (.int .i64 7) := (blk_cell BN.out 1).trans rfl
                      have q_BN_2 : wf.cell? ⟨w.heap.size, 2, none⟩ = some (.int .i64 x2) := (blk_cell BN.out 2).trans rfl
                      have q_BN_3 : wf.cell? ⟨w.heap.size, 3, none⟩ = some (.slice A3 l3.length c3) := (blk_cell BN.out 3).trans rfl
                      have q_BN_4 : wf.cell? ⟨w.heap.size, 4, none⟩ = some (.slice A4 l4.length c4) := (blk_cell BN.out 4).trans rfl
                      have l_BM : w.heap.size + 1 < wf.heap.size := blk_lt BM.out
                      have q_BM_0 : wf.cell? ⟨w.heap.size + 1, 0, none⟩ = some (.int .i64 1) := (blk_cell BM.out 0).trans rfl
                      have q_BM_1 : wf.cell? ⟨w.heap.size + 1, 1, none⟩ = some (.int .i64 y1) := (blk_cell BM.out 1).trans rfl
                      have q_BM_2 : wf.cell? ⟨w.heap.size + 1, 2, none⟩ = some (.int .i64 y2) := (blk_cell BM.out 2).trans rfl
                      have q_BM_3 : wf.cell? ⟨w.heap.size + 1, 3, none⟩ = some (.slice F3 m3.length f3) := (blk_cell BM.out 3).trans rfl
                      have q_BM_4 : wf.cell? ⟨w.heap.size + 1, 4, none⟩ = some (.slice F4 m4.length f4) := (blk_cell BM.out 4).trans rfl
                      have l_BX : w8.heap.size < wf.heap.size := blk_lt BX.out
                      have q_BX_0 : wf.cell? ⟨w8.heap.size, 0, none⟩ = some (.int .i64 2) := (blk_cell BX.out 0).trans rfl
                      have q_BX_1 : wf.cell? ⟨w8.heap.size, 1, none⟩ = some (.int .i64 7) := (blk_cell BX.out 1).trans rfl
                      have q_BX_2 : wf.cell? ⟨w8.heap.size, 2, none⟩ = some (.int .i64 (wrap64 (x2 + 1))) := (blk_cell BX.out 2).trans rfl
                      have q_BX_3 : wf.cell? ⟨w8.heap.size, 3, none⟩ = some (.slice A3 l3.length c3) := (blk_cell BX.out 3).trans rfl
                      have q_BX_4 : wf.cell? ⟨w8.heap.size, 4, none⟩ = some (.slice A6 L.length c6) := (blk_cell BX.out 4).trans rfl
                      go_wp2_with fail
                      clear l_BN q_BN_0 q_BN_1 q_BN_2 q_BN_3 q_BN_4 l_BM q_BM_0 q_BM_1 q_BM_2 q_BM_3 q_BM_4 l_BX q_BX_0 q_BX_1 q_BX_2 q_BX_3 q_BX_4
                      refine (trim_Uniform.calls ku3 2 7 (wrap64 (x2 + 1)) A3 c3 l3 A6 c6 L _ _ _ HR3.out hc3 HX4.out hcL HKU3.out).mono ?_
                      rintro e w9 ⟨rfl, hb⟩
                      replace HR3 := Lib.hid (Kd.C_below HR3.out hb)
                      replace HR4 := Lib.hid (Kd.C_below HR4.out hb)
                      replace HQ3 := Lib.hid (Kd.C_below HQ3.out hb)
                      replace HQ4 := Lib.hid (Kd.C_below HQ4.out hb)
                      replace HB := Lib.hid (below_step HB.out hb)
                      replace HX4 := Lib.hid (Kd.C_below HX4.out hb)
                      replace BN := Lib.hid (blk_below BN.out hb)
                      replace BM := Lib.hid (blk_below BM.out hb)
                      replace BX := Lib.hid (blk_below BX.out hb)
                      clear hb
                      obtain ⟨hle1, hle2⟩ := HLE.out
                      obtain ⟨hm1, hm2⟩ := HLM.out
                      have e9 : wrap64 ((m3.length : Int) / 8) = (m3.length : Int) / 8 := w64 (by omega) (by omega)
                      clear hlt hj
                      have fin : ∀ (G H : Nat) , max D (m3.length / 8) = G → max P m4.length = H → ((G : Int) == max (D : Int) ((m3.length : Int) / 8)) = true ∧ ((H : Int) == max (P : Int) (m4.length : Int)) = true := fun G H hG hH => by
                        constructor
                        · rw [beq_iff_eq]; omega
                        · rw [beq_iff_eq]; omega
                      obtain ⟨G, hG⟩ : ∃ G : Nat, max D (m3.length / 8) = G := ⟨_, rfl⟩
                      obtain ⟨H, hH⟩ : ∃ H : Nat, max P m4.length = H := ⟨_, rfl⟩
                      rw [hG, hH]
                      have HG := Lib.hid hG; have HH := Lib.hid hH; have HFIN := Lib.hid fin
                      clear hG hH fin
                      have l_BN : w.heap.size < w9.heap.size := blk_lt BN.out
                      have q_BN_0 : w9.cell? ⟨w.heap.size, 0, none⟩ = some (.int .i64 2) := (blk_cell BN.out 0).trans rfl
                      have q_BN_1 : w9.cell? ⟨w.heap.size, 1, none⟩ = some (.int .i64 7) := (blk_cell BN.out 1).trans rfl
                      have q_BN_2 : w9.cell? ⟨w.heap.size, 2, none⟩ = some (.int .i64 x2) := (blk_cell BN.out 2).trans rfl
                      have q_BN_3 : w9.cell? ⟨w.heap.size, 3, none⟩ = some (.slice A3 l3.length c3) := (blk_cell BN.out 3).trans rfl
                      have q_BN_4 : w9.cell? ⟨w.heap.size, 4, none⟩ = some (.slice A4 l4.length c4) := (blk_cell BN.out 4).trans rfl
                      have l_BM : w.heap.size + 1 < w9.heap.size := blk_lt BM.out
                      have q_BM_0 : w9.cell? ⟨w.heap.size + 1, 0, none⟩ = some (.int .i64 1) := (blk_cell BM.out 0).trans rfl
                      have q_BM_1 : w9.cell? ⟨w.heap.size + 1, 1, none⟩ = some (.int .i64 y1) := (blk_cell BM.out 1).trans rfl
                      have q_BM_2 : w9.cell? ⟨w.heap.size + 1, 2, none⟩ = some (.int .i64 y2) := (blk_cell BM.out 2).trans rfl
                      have q_BM_3 : w9.cell? ⟨w.heap.size + 1, 3, none⟩ = some (.slice F3 m3.length f3) := (blk_cell BM.out 3).trans rfl
                      have q_BM_4 : w9.cell? ⟨w.heap.size + 1, 4, none⟩ = some (.slice F4 m4.length f4) := (blk_cell BM.out 4).trans rfl
                      have l_BX : w8.heap.size < w9.heap.size := blk_lt BX.out
                      have q_BX_0 : w9.cell? ⟨w8.heap.size, 0, none⟩ = some (.int .i64 2) := (blk_cell BX.out 0).trans rfl
                      have q_BX_1 : w9.cell? ⟨w8.heap.size, 1, none⟩ = some (.int .i64 7) := (blk_cell BX.out 1).trans rfl
                      have q_BX_2 : w9.cell? ⟨w8.heap.size, 2, none⟩ = some (.int .i64 (wrap64 (x2 + 1))) := (blk_cell BX.out 2).trans rfl
                      have q_BX_3 : w9.cell? ⟨w8.heap.size, 3, none⟩ = some (.slice A3 l3.length c3) := (blk_cell BX.out 3).trans rfl
                      have q_BX_4 : w9.cell? ⟨w8.heap.size, 4, none⟩ = some (.slice A6 L.length c6) := (blk_cell BX.out 4).trans rfl
                      go_wp2
                      all_goals first | (exfalso; have h1 := HG.out; have h2 := HH.out; omega) | go_ret
                      all_goals (refine ⟨congrArg (fun b => Ending.returned (.bool b)) (?_ : (_ : Bool) = true), HB.out⟩; have h1 := HG.out; have h2 := HH.out; simp only [beq_iff_eq]; omega)
                · have hb_ : ((l4.length : Int) == 0) = false := by simp [hz]
                  have S7 := Lib.hid (show (l4.length = 0 ∨ ∃ i, ∃ h : i < l4.length, i < 0 ∧ l4[i].f3.length = 8 * D) → false = true from fun h => by rcases h with h | ⟨_, _, h, _⟩ <;> omega)
                  have S8 := Lib.hid (show (l4.length = 0 ∨ ∃ i, ∃ h : i < l4.length, i < 0 ∧ l4[i].f4.length = P) → false = true from fun h => by rcases h with h | ⟨_, _, h, _⟩ <;> omega)
                  have l_BN : w.heap.size < w6.heap.size := blk_lt BN.out
                  have q_BN_0 : w6.cell? ⟨w.heap.size, 0, none⟩ = some (.int .i64 2) := (blk_cell BN.out 0).trans rfl
                  have q_BN_1 : w6.cell? ⟨w.heap.size, 1, none⟩ = some (.int .i64 7) := (blk_cell BN.out 1).trans rfl
                  have q_BN_2 : w6.cell? ⟨w.heap.size, 2, none⟩ = some (.int .i64 x2) := (blk_cell BN.out 2).trans rfl
                  have q_BN_3 : w6.cell? ⟨w.heap.size, 3, none⟩ = some (.slice A3 l3.length c3) := (blk_cell BN.out 3).trans rfl
                  have q_BN_4 : w6.cell? ⟨w.heap.size, 4, none⟩ = some (.slice A4 l4.length c4) := (blk_cell BN.out 4).trans rfl
                  have l_BM : w.heap.size + 1 < w6.heap.size := blk_lt BM.out
                  have q_BM_0 : w6.cell? ⟨w.heap.size + 1, 0, none⟩ = some (.int .i64 1) := (blk_cell BM.out 0).trans rfl
                  have q_BM_1 : w6.cell? ⟨w.heap.size + 1, 1, none⟩ = some (.int .i64 y1) := (blk_cell BM.out 1).trans rfl
                  have q_BM_2 : w6.cell? ⟨w.heap.size + 1, 2, none⟩ = some (.int .i64 y2) := (blk_cell BM.out 2).trans rfl
                  have q_BM_3 : w6.cell? ⟨w.heap.size + 1, 3, none⟩ = some (.slice F3 m3.length f3) := (blk_cell BM.out 3).trans rfl
                  have q_BM_4 : w6.cell? ⟨w.heap.size + 1, 4, none⟩ = some (.slice F4 m4.length f4) := (blk_cell BM.out 4).trans rfl
                  go_wp2_with fail
                  clear l_BN q_BN_0 q_BN_1 q_BN_2 q_BN_3 q_BN_4 l_BM q_BM_0 q_BM_1 q_BM_2 q_BM_3 q_BM_4
                  go_loop [7, 8, 9] (fun d q i => ∃ (j : Nat) (b7 b8 : Bool), d = .bool b7 ∧ q = .bool b8 ∧ i = .int .i64 j ∧ j ≤ l4.length ∧ Hid ((l4.length = 0 ∨ ∃ i, ∃ h : i < l4.length, i < j ∧ l4[i].f3.length = 8 * D) → b7 = true) ∧ Hid ((l4.length = 0 ∨ ∃ i, ∃ h : i < l4.length, i < j ∧ l4[i].f4.length = P) → b8 = true)) (fun d q i => l4.length - (intOf i).toNat)
                  case atStart => exact ⟨0, _, _, rfl, rfl, rfl, Nat.zero_le _, S7.out, S8.out⟩
                  case round =>
                    clear S7 S8 hb_
                    obtain ⟨j, b7, b8, rfl, rfl, rfl, hj, h7, h8⟩ := hrel
                    have l_BN : w.heap.size < w6.heap.size := blk_lt BN.out
                    have q_BN_0 : w6.cell? ⟨w.heap.size, 0, none⟩ = some (.int .i64 2) := (blk_cell BN.out 0).trans rfl
                    have q_BN_1 : w6.cell? ⟨w.heap.size, 1, none⟩ = some (.int .i64 7) := (blk_cell BN.out 1).trans rfl
                    have q_BN_2 : w6.cell? ⟨w.heap.size, 2, none⟩ = some (.int .i64 x2) := (blk_cell BN.out 2).trans rfl
                    have q_BN_3 : w6.cell? ⟨w.heap.size, 3, none⟩ = some (.slice A3 l3.length c3) := (blk_cell BN.out 3).trans rfl
                    have q_BN_4 : w6.cell? ⟨w.heap.size, 4, none⟩ = some (.slice A4 l4.length c4) := (blk_cell BN.out 4).trans rfl
                    have l_BM : w.heap.size + 1 < w6.heap.size := blk_lt BM.out
                    have q_BM_0 : w6.cell? ⟨w.heap.size + 1, 0, none⟩ = some (.int .i64 1) := (blk_cell BM.out 0).trans rfl
                    have q_BM_1 : w6.cell? ⟨w.heap.size + 1, 1, none⟩ = some (.int .i64 y1) := (blk_cell BM.out 1).trans rfl
                    have q_BM_2 : w6.cell? ⟨w.heap.size + 1, 2, none⟩ = some (.int .i64 y2) := (blk_cell BM.out 2).trans rfl
                    have q_BM_3 : w6.cell? ⟨w.heap.size + 1, 3, none⟩ = some (.slice F3 m3.length f3) := (blk_cell BM.out 3).trans rfl
                    have q_BM_4 : w6.cell? ⟨w.heap.size + 1, 4, none⟩ = some (.slice F4 m4.length f4) := (blk_cell BM.out 4).trans rfl
                    by_cases hlt : j < l4.length
                    · obtain ⟨ad, B3, b3, B4, b4, e, h0, h1, h2, h3, h4, _⟩ := at_T25 HR4.out (j : Int) (by omega) (by omega)
                      subst e
                      have hrd := rdT_at l4 j hlt
                      rw [hrd] at h0 h1 h2 h3 h4
                      simp only [Int.toNat_natCast] at h0 h1 h2 h3 h4
                      have hg := HGE.out _ (List.getElem_mem hlt)
                      have hm := HKD.out _ (List.getElem_mem hlt)
                      obtain ⟨x, hx⟩ : ∃ x, l4[j] = x := ⟨_, rfl⟩
                      rw [hx] at h0 h1 h2 h3 h4 hg hm
                      have HX := Lib.hid hx
                      have hDB := HDB.out
                      clear hx hrd
                      have n7 : Hid ((l4.length = 0 ∨ ∃ i, ∃ h : i < l4.length, i < j + 1 ∧ l4[i].f3.length = 8 * D) → (b7 || ((x.f3.length : Int) == 8 * (D : Int))) = true) := by
                        show _ → _
                        rintro (h | ⟨i, hi, hij, e⟩)
                        · omega
                        · by_cases hi2 : i < j
                          · rw [h7.out (.inr ⟨i, hi, hi2, e⟩), Bool.true_or]
                          · obtain rfl : i = j := by omega
                            rw [HX.out] at e
                            rw [beq_iff_eq.2 (by omega), Bool.or_true]
                      have n8 : Hid ((l4.length = 0 ∨ ∃ i, ∃ h : i < l4.length, i < j + 1 ∧ l4[i].f4.length = P) → (b8 || ((x.f4.length : Int) == (P : Int))) = true) := by
                        show _ → _
                        rintro (h | ⟨i, hi, hij, e⟩)
                        · omega
                        · by_cases hi2 : i < j
                          · rw [h8.out (.inr ⟨i, hi, hi2, e⟩), Bool.true_or]
                          · obtain rfl : i = j := by omega
                            rw [HX.out] at e
                            rw [beq_iff_eq.2 (by omega), Bool.or_true]
                      have e8 : wrap64 (8 * (D : Int)) = 8 * (D : Int) := w64 (by omega) (by omega)
                      have d1 : decide (8 * (D : Int) < (x.f3.length : Int)) = false := by simp; omega
                      have d2 : decide ((P : Int) < (x.f4.length : Int)) = false := by simp; omega
                      have d2' : ¬ P < x.f4.length := by omega
                      clear h7 h8 hg hm HX hDB
                      cases b7 <;> cases b8
                      all_goals
                        go_wp2
                        exact ⟨⟨j + 1, _, _, rfl, rfl, by go_num, by omega, n7, n8⟩, by simp [intOf]; omega⟩
                    · have e7 : b7 = true := h7.out (by
                        by_cases he : l4.length = 0
                        · exact .inl he
                        · obtain ⟨⟨x, hx, ex⟩, _⟩ := HAT.out (fun h => he (by rw [h]; rfl))
                          obtain ⟨i, hi, rfl⟩ := List.getElem_of_mem hx
                          have := HKD.out _ hx
                          exact .inr ⟨i, hi, by omega, by omega⟩)
                      have e8 : b8 = true := h8.out (by
                        by_cases he : l4.length = 0
                        · exact .inl he
                        · obtain ⟨_, ⟨x, hx, ex⟩⟩ := HAT.out (fun h => he (by rw [h]; rfl))
                          obtain ⟨i, hi, rfl⟩ := List.getElem_of_mem hx
                          exact .inr ⟨i, hi, by omega, by omega⟩)
                      subst e7 e8
                      clear h7 h8
                      go_wp2_with fail
                      clear l_BN q_BN_0 q_BN_1 q_BN_2 q_BN_3 q_BN_4 l_BM q_BM_0 q_BM_1 q_BM_2 q_BM_3 q_BM_4
                      refine (trim_Trim.calls kt 2 7 x2 (fun _ => True) _ c3 l3 (fun _ => True) _ c4 l4 _ _ _ _ _ _ (V_ints HR3.out hc3) (V_nodes HR4.out hc4) HKT.out).mono ?_
                      rintro e w7 ⟨v3, v4, rfl, hR3, hR4, hb⟩
                      replace HR3 := Lib.hid (Kd.C_below HR3.out hb)
                      replace HR4 := Lib.hid (Kd.C_below HR4.out hb)
                      replace HQ3 := Lib.hid (Kd.C_below HQ3.out hb)
                      replace HQ4 := Lib.hid (Kd.C_below HQ4.out hb)
                      replace HB := Lib.hid (below_step HB.out hb)
                      replace BN := Lib.hid (blk_below BN.out hb)
                      replace BM := Lib.hid (blk_below BM.out hb)
                      clear hb
                      obtain ⟨E3, e3, rfl, he3, hE3⟩ := Kd.R_reads hR3
                      obtain ⟨E4, e4, rfl, he4, hE4⟩ := Kd.R_reads hR4
                      clear hR3 hR4
                      have l_BN : w.heap.size < w7.heap.size := blk_lt BN.out
                      have q_BN_0 : w7.cell? ⟨w.heap.size, 0, none⟩ = some (.int .i64 2) := (blk_cell BN.out 0).trans rfl
                      have q_BN_1 : w7.cell? ⟨w.heap.size, 1, none⟩ = some (.int .i64 7) := (blk_cell BN.out 1).trans rfl
                      have q_BN_2 : w7.cell? ⟨w.heap.size, 2, none⟩ = some (.int .i64 x2) := (blk_cell BN.out 2).trans rfl
                      have q_BN_3 : w7.cell? ⟨w.heap.size, 3, none⟩ = some (.slice A3 l3.length c3) := (blk_cell BN.out 3).trans rfl
                      have q_BN_4 : w7.cell? ⟨w.heap.size, 4, none⟩ = some (.slice A4 l4.length c4) := (blk_cell BN.out 4).trans rfl
                      have l_BM : w.heap.size + 1 < w7.heap.size := blk_lt BM.out
                      have q_BM_0 : w7.cell? ⟨w.heap.size + 1, 0, none⟩ = some (.int .i64 1) := (blk_cell BM.out 0).trans rfl
                      have q_BM_1 : w7.cell? ⟨w.heap.size + 1, 1, none⟩ = some (.int .i64 y1) := (blk_cell BM.out 1).trans rfl
                      have q_BM_2 : w7.cell? ⟨w.heap.size + 1, 2, none⟩ = some (.int .i64 y2) := (blk_cell BM.out 2).trans rfl
                      have q_BM_3 : w7.cell? ⟨w.heap.size + 1, 3, none⟩ = some (.slice F3 m3.length f3) := (blk_cell BM.out 3).trans rfl
                      have q_BM_4 : w7.cell? ⟨w.heap.size + 1, 4, none⟩ = some (.slice F4 m4.length f4) := (blk_cell BM.out 4).trans rfl
                      go_wp2_with fail
                      clear l_BN q_BN_0 q_BN_1 q_BN_2 q_BN_3 q_BN_4 l_BM q_BM_0 q_BM_1 q_BM_2 q_BM_3 q_BM_4
                      refine (trim_Uniform.calls ku2 T.f0 T.f1 T.f2 E3 e3 T.f3 E4 e4 T.f4 (D2 : Int) (P2 : Int) _ hE3 he3 hE4 he4 HKU2.out).mono ?_
                      rintro e w8 ⟨rfl, hb⟩
                      replace HR3 := Lib.hid (Kd.C_below HR3.out hb)
                      replace HR4 := Lib.hid (Kd.C_below HR4.out hb)
                      replace HQ3 := Lib.hid (Kd.C_below HQ3.out hb)
                      replace HQ4 := Lib.hid (Kd.C_below HQ4.out hb)
                      replace HB := Lib.hid (below_step HB.out hb)
                      replace BN := Lib.hid (blk_below BN.out hb)
                      replace BM := Lib.hid (blk_below BM.out hb)
                      clear hb
                      clear hE3 hE4
                      have l_BN : w.heap.size < w8.heap.size := blk_lt BN.out
                      have q_BN_0 : w8.cell? ⟨w.heap.size, 0, none⟩ = some (.int .i64 2) := (blk_cell BN.out 0).trans rfl
                      have q_BN_1 : w8.cell? ⟨w.heap.size, 1, none⟩ = some (.int .i64 7) := (blk_cell BN.out 1).trans rfl
                      have q_BN_2 : w8.cell? ⟨w.heap.size, 2, none⟩ = some (.int .i64 x2) := (blk_cell BN.out 2).trans rfl
                      have q_BN_3 : w8.cell? ⟨w.heap.size, 3, none⟩ = some (.slice A3 l3.length c3) := (blk_cell BN.out 3).trans rfl
                      have q_BN_4 : w8.cell? ⟨w.heap.size, 4, none⟩ = some (.slice A4 l4.length c4) := (blk_cell BN.out 4).trans rfl
                      have l_BM : w.heap.size + 1 < w8.heap.size := blk_lt BM.out
                      have q_BM_0 : w8.cell? ⟨w.heap.size + 1, 0, none⟩ = some (.int .i64 1) := (blk_cell BM.out 0).trans rfl
                      have q_BM_1 : w8.cell? ⟨w.heap.size + 1, 1, none⟩ = some (.int .i64 y1) := (blk_cell BM.out 1).trans rfl
                      have q_BM_2 : w8.cell? ⟨w.heap.size + 1, 2, none⟩ = some (.int .i64 y2) := (blk_cell BM.out 2).trans rfl
                      have q_BM_3 : w8.cell? ⟨w.heap.size + 1, 3, none⟩ = some (.slice F3 m3.length f3) := (blk_cell BM.out 3).trans rfl
                      have q_BM_4 : w8.cell? ⟨w.heap.size + 1, 4, none⟩ = some (.slice F4 m4.length f4) := (blk_cell BM.out 4).trans rfl
                      go_wp2_with fail
                      clear l_BN q_BN_0 q_BN_1 q_BN_2 q_BN_3 q_BN_4 l_BM q_BM_0 q_BM_1 q_BM_2 q_BM_3 q_BM_4
                      refine wp_at (fun W1 hW => ?_)
                      have BT0 : Hid (W1.heap[w8.heap.size]? = some (.cells #[.int .i64 2, .int .i64 7, .int .i64 (wrap64 (x2 + 1)), .slice A3 l3.length c3, .slice A4 l4.length c4] 25 (0, 0))) := Lib.hid (by rw [hW]; exact heap_alloc_new _ _)
                      have hb81 : Below w8.heap.size w8 W1 := by rw [hW]; exact (Below.refl _ _).alloc (Nat.le_refl _) _
                      clear hW
                      have q_s4 : W1.cell? ⟨w.heap.size, 4, none⟩ = some (.slice A4 l4.length c4) := (blk_cell (blk_below BN.out hb81) 4).trans rfl
                      have q_m0 : W1.cell? ⟨w.heap.size + 1, 0, none⟩ = some (.int .i64 1) := (blk_cell (blk_below BM.out hb81) 0).trans rfl
                      have q_m1 : W1.cell? ⟨w.heap.size + 1, 1, none⟩ = some (.int .i64 y1) := (blk_cell (blk_below BM.out hb81) 1).trans rfl
                      have q_m2 : W1.cell? ⟨w.heap.size + 1, 2, none⟩ = some (.int .i64 y2) := (blk_cell (blk_below BM.out hb81) 2).trans rfl
                      have q_m3 : W1.cell? ⟨w.heap.size + 1, 3, none⟩ = some (.slice F3 m3.length f3) := (blk_cell (blk_below BM.out hb81) 3).trans rfl
                      have q_m4 : W1.cell? ⟨w.heap.size + 1, 4, none⟩ = some (.slice F4 m4.length f4) := (blk_cell (blk_below BM.out hb81) 4).trans rfl
                      obtain ⟨rowsN, hRK, hRC⟩ := rows_of_C HR4.out
                      have HL4 := Lib.hid hlen
                      have hrl : rowsN.length = l4.length := hRK.1
                      refine start_ (n := 9) (S := fun w' => w'.cell? ⟨w.heap.size, 4, none⟩ = some (.slice A4 l4.length c4) ∧ w'.cell? ⟨w.heap.size + 1, 0, none⟩ = some (.int .i64 1) ∧ w'.cell? ⟨w.heap.size + 1, 1, none⟩ = some (.int .i64 y1) ∧ w'.cell? ⟨w.heap.size + 1, 2, none⟩ = some (.int .i64 y2) ∧ w'.cell? ⟨w.heap.size + 1, 3, none⟩ = some (.slice F3 m3.length f3) ∧ w'.cell? ⟨w.heap.size + 1, 4, none⟩ = some (.slice F4 m4.length f4)) (ds := [8]) #[false, false, false, false, false, false, false, false, false] (by kernel_rfl) rfl rfl ⟨q_s4, q_m0, q_m1, q_m2, q_m3, q_m4⟩ (fun hHeld => ?_)
                      obtain ⟨wd, hwd⟩ : ∃ W, W = W1.drew := ⟨_, rfl⟩
                      rw [← hwd] at hHeld ⊢
                      have hb1d : Below W1.heap.size W1 wd := by rw [hwd]; exact (Below.refl _ _).drew
                      clear hwd q_s4 q_m0 q_m1 q_m2 q_m3 q_m4
                      have hb8d : Below w8.heap.size w8 wd := hb81.trans (hb1d.mono hb81.size)
                      have BT := Lib.hid (blk_below BT0.out hb1d)
                      have HC4 := Lib.hid (Kd.C_below hRC hb8d)
                      have HRK := Lib.hid hRK
                      clear hRC hRK BT0
                      have hHd := hHeld
                      obtain ⟨qd_s4, qd_m0, qd_m1, qd_m2, qd_m3, qd_m4⟩ := hHd
                      have l_src : w.heap.size < wd.heap.size := blk_lt (blk_below BN.out hb8d)
                      have l_more : w.heap.size + 1 < wd.heap.size := blk_lt (blk_below BM.out hb8d)
                      refine pure_ (i := 1) (N := some 139) (v := ?_) (a' := ?_) #[false, true, false, false, false, false, false, false, false] rfl rfl (by kernel_rfl) (fun _ _ _ h => h) (Or.inl ⟨by rfl, ?_⟩) ?_ ?_
                      rotate_left
                      · intro w'
                        go_simp
                        with_reducible rfl
                      rotate_left
                      · simp only [Act.put, List.setIfInBounds_toArray, List.set_cons_zero, List.set_cons_succ, i64_w, i32_w]
                        rfl
                      refine take_ (i := 2) (N := some 140) (v := ?_) (a' := ?_) #[false, true, true, false, false, false, false, false, false] rfl rfl (by kernel_rfl) (fun _ _ _ h => h) (Or.inl ⟨by rfl, ?_⟩) hHeld ?_ ?_
                      rotate_left
                      · rintro w' ⟨s0, s1, s2, s3, s4, s5⟩
                        go_simp
                        with_reducible rfl
                      rotate_left
                      · simp only [Act.put, List.setIfInBounds_toArray, List.set_cons_zero, List.set_cons_succ, i64_w, i32_w]
                        rfl
                      refine take_ (i := 4) (N := some 142) (v := ?_) (a' := ?_) #[false, true, true, false, true, false, false, false, false] rfl rfl (by kernel_rfl) (fun _ _ _ h => h) (Or.inl ⟨by rfl, ?_⟩) hHeld ?_ ?_
                      rotate_left
                      · rintro w' ⟨s0, s1, s2, s3, s4, s5⟩
                        go_simp
                        with_reducible rfl
                      rotate_left
                      · simp only [Act.put, List.setIfInBounds_toArray, List.set_cons_zero, List.set_cons_succ, i64_w, i32_w]
                        rfl
                      refine join_ (σ := Value × Value × Value) 3 #[true, true, true, true, true, true, false, false, false] (fun s_ => [(138, s_.1), (141, s_.2.1), (143, s_.2.2)]) (fun s_ w' => (w'.cell? ⟨w.heap.size, 4, none⟩ = some (.slice A4 l4.length c4) ∧ w'.cell? ⟨w.heap.size + 1, 0, none⟩ = some (.int .i64 1) ∧ w'.cell? ⟨w.heap.size + 1, 1, none⟩ = some (.int .i64 y1) ∧ w'.cell? ⟨w.heap.size + 1, 2, none⟩ = some (.int .i64 y2) ∧ w'.cell? ⟨w.heap.size + 1, 3, none⟩ = some (.slice F3 m3.length f3) ∧ w'.cell? ⟨w.heap.size + 1, 4, none⟩ = some (.slice F4 m4.length f4)) ∧ Below wd.heap.size wd w' ∧ Hid ((Kd.raw 5).R 25 w' wd.heap.size (fun _ => True) s_.2.1 ([] ++ rowsN)) ∧ Hid ((Kd.raw 5).R 25 w' wd.heap.size (fun _ => True) s_.2.2 [[.int .i64 1, .int .i64 y1, .int .i64 y2, .slice F3 m3.length f3, .slice F4 m4.length f4]])) ?_ ?_
                      rotate_left
                      · intro hCont
                        refine two_ (i := 0) (j := 5) (Ni := some 138) (Nj := some 143) #[true, true, true, false, true, false, false, false, false] #[false, true, true, false, true, true, false, false, false] rfl rfl rfl rfl (by kernel_rfl) (by decide) (by decide) (fun K hK => ?_) (fun K hK => ?_)
                        · skip
                          refine Kd.R_lit_step (Kd.raw 5) (w0 := wd) wd.heap.size 25 ?hg (N := 138) ?hd (xs := []) (inner := []) (ok := fun _ => True) (okp := fun _ => False) ?hr ?hp (fun _ hk => hk.elim) trivial (Below.refl _ _) (Nat.le_refl _) (by simp) ?_; (case hd => rfl); (case hg => rfl); (case hr => first | (go_simp; done) | (go_simp; rfl)); (case hp => exact (Reps.none _ _))
                          intro v0 we0 ho hb hg hnew
                          have H0 := Lib.hid ho
                          have n_hb := hb
                          have hbd := n_hb
                          clear n_hb hb ho hg
                          refine hK.out _ _ ⟨(hbd.cell (p := ⟨w.heap.size, 4, none⟩) l_src).trans qd_s4, (hbd.cell (p := ⟨w.heap.size + 1, 0, none⟩) l_more).trans qd_m0, (hbd.cell (p := ⟨w.heap.size + 1, 1, none⟩) l_more).trans qd_m1, (hbd.cell (p := ⟨w.heap.size + 1, 2, none⟩) l_more).trans qd_m2, (hbd.cell (p := ⟨w.heap.size + 1, 3, none⟩) l_more).trans qd_m3, (hbd.cell (p := ⟨w.heap.size + 1, 4, none⟩) l_more).trans qd_m4⟩ (fun hHeld => ?_)
                          clear hK K
                          refine norm_ (a' := ?_) ?_ ?_
                          rotate_left
                          · show Act.put _ (some 138) _ = _
                            simp only [Act.put, List.setIfInBounds_toArray, List.set_cons_zero, List.set_cons_succ, i64_w, i32_w]
                            rfl
                          refine two_ (i := 3) (j := 5) (Ni := some 141) (Nj := some 143) #[true, true, true, true, true, false, false, false, false] #[true, true, true, false, true, true, false, false, false] rfl rfl rfl rfl (by kernel_rfl) (by decide) (by decide) (fun K hK => ?_) (fun K hK => ?_)
                          · skip
                            refine Kd.R_append_rows_step (Kd.raw 5) (Rr := Kd.K (Kd.raw 5) wd) (w0 := wd) wd.heap.size (by rfl) (.tmp 138) (.tmp 140) 23 25 (.agg #[(.int .i64 0), (.int .i64 0), (.int .i64 0), (.slice none 0 0), (.slice none 0 0)]) 72 rfl Try.underlying23 info25 rfl (by decide) (by omega) v0 [] rowsN _ _ _ (fun _ => True) (fun _ => False) rfl rfl ?aO ?aR (fun _ _ h => h) (fun _ h => h.elim) (fun _ _ => trivial) ?aB ?aS ?aL ?_
                            (case aO => exact H0.out)
                            (case aR => exact Kd.C_below HC4.out hbd)
                            (case aB => exact hbd)
                            (case aS => exact hbd.size)
                            (case aL => have := HL4.out; simp only [List.length_nil]; omega)
                            intro v3 we1 ho hb hg hat
                            have H3 := Lib.hid ho
                            have n_hb := hb
                            clear hbd
                            have hbd := n_hb
                            clear n_hb hb ho hg
                            refine hK.out _ _ ⟨(hbd.cell (p := ⟨w.heap.size, 4, none⟩) l_src).trans qd_s4, (hbd.cell (p := ⟨w.heap.size + 1, 0, none⟩) l_more).trans qd_m0, (hbd.cell (p := ⟨w.heap.size + 1, 1, none⟩) l_more).trans qd_m1, (hbd.cell (p := ⟨w.heap.size + 1, 2, none⟩) l_more).trans qd_m2, (hbd.cell (p := ⟨w.heap.size + 1, 3, none⟩) l_more).trans qd_m3, (hbd.cell (p := ⟨w.heap.size + 1, 4, none⟩) l_more).trans qd_m4⟩ (fun hHeld => ?_)
                            clear hK K
                            refine norm_ (a' := ?_) ?_ ?_
                            rotate_left
                            · show Act.put _ (some 141) _ = _
                              simp only [Act.put, List.setIfInBounds_toArray, List.set_cons_zero, List.set_cons_succ, i64_w, i32_w]
                              rfl
                            refine one_ (i := 5) (N := some 143) #[true, true, true, true, true, true, false, false, false] rfl rfl (by kernel_rfl) (by decide) (fun K hK => ?_)
                            refine Kd.R_lit_step (Kd.raw 5) (w0 := wd) wd.heap.size 25 ?hg (N := 143) ?hd (xs := [[.int .i64 1, .int .i64 y1, .int .i64 y2, .slice F3 m3.length f3, .slice F4 m4.length f4]]) (inner := [.int .i64 1, .int .i64 y1, .int .i64 y2, .slice F3 m3.length f3, .slice F4 m4.length f4]) (ok := fun _ => True) (okp := fun _ => False) ?hr ?hp (fun _ hk => hk.elim) trivial hbd hbd.size (by simp) ?_; (case hd => rfl); (case hg => rfl); (case hr => first | (go_simp; done) | (go_simp; rfl)); (case hp => exact (Reps.c5 (show Kd.M (Kd.raw 5) _ _ _ [.int .i64 1, .int .i64 y1, .int .i64 y2, .slice F3 m3.length f3, .slice F4 m4.length f4] [.int .i64 1, .int .i64 y1, .int .i64 y2, .slice F3 m3.length f3, .slice F4 m4.length f4] from raw_M rfl (by simp [Value.oneCell'])) (Reps.none _ _)))
                            intro v5 we2 ho hb hg hnew
                            replace H3 := Lib.hid (raw_kept H3.out hg (fun k _ h => by cases h))
                            have H5 := Lib.hid ho
                            have n_hb := hb
                            clear hbd
                            have hbd := n_hb
                            clear n_hb hb ho hg
                            refine hK.out _ _ ⟨(hbd.cell (p := ⟨w.heap.size, 4, none⟩) l_src).trans qd_s4, (hbd.cell (p := ⟨w.heap.size + 1, 0, none⟩) l_more).trans qd_m0, (hbd.cell (p := ⟨w.heap.size + 1, 1, none⟩) l_more).trans qd_m1, (hbd.cell (p := ⟨w.heap.size + 1, 2, none⟩) l_more).trans qd_m2, (hbd.cell (p := ⟨w.heap.size + 1, 3, none⟩) l_more).trans qd_m3, (hbd.cell (p := ⟨w.heap.size + 1, 4, none⟩) l_more).trans qd_m4⟩ (fun hHeld => ?_)
                            clear hK K
                            refine norm_ (a' := ?_) ?_ ?_
                            rotate_left
                            · show Act.put _ (some 143) _ = _
                              simp only [Act.put, List.setIfInBounds_toArray, List.set_cons_zero, List.set_cons_succ, i64_w, i32_w]
                              rfl
                            exact norm_ (by simp only [putAll, Act.put, List.setIfInBounds_toArray, List.set_cons_zero, List.set_cons_succ]) (hCont (v0, v3, v5) _ ⟨⟨(hbd.cell (p := ⟨w.heap.size, 4, none⟩) l_src).trans qd_s4, (hbd.cell (p := ⟨w.heap.size + 1, 0, none⟩) l_more).trans qd_m0, (hbd.cell (p := ⟨w.heap.size + 1, 1, none⟩) l_more).trans qd_m1, (hbd.cell (p := ⟨w.heap.size + 1, 2, none⟩) l_more).trans qd_m2, (hbd.cell (p := ⟨w.heap.size + 1, 3, none⟩) l_more).trans qd_m3, (hbd.cell (p := ⟨w.heap.size + 1, 4, none⟩) l_more).trans qd_m4⟩, hbd, H3, H5⟩)
                          · skip
                            refine Kd.R_lit_step (Kd.raw 5) (w0 := wd) wd.heap.size 25 ?hg (N := 143) ?hd (xs := [[.int .i64 1, .int .i64 y1, .int .i64 y2, .slice F3 m3.length f3, .slice F4 m4.length f4]]) (inner := [.int .i64 1, .int .i64 y1, .int .i64 y2, .slice F3 m3.length f3, .slice F4 m4.length f4]) (ok := fun _ => True) (okp := fun _ => False) ?hr ?hp (fun _ hk => hk.elim) trivial hbd hbd.size (by simp) ?_; (case hd => rfl); (case hg => rfl); (case hr => first | (go_simp; done) | (go_simp; rfl)); (case hp => exact (Reps.c5 (show Kd.M (Kd.raw 5) _ _ _ [.int .i64 1, .int .i64 y1, .int .i64 y2, .slice F3 m3.length f3, .slice F4 m4.length f4] [.int .i64 1, .int .i64 y1, .int .i64 y2, .slice F3 m3.length f3, .slice F4 m4.length f4] from raw_M rfl (by simp [Value.oneCell'])) (Reps.none _ _)))
                            intro v5 we1 ho hb hg hnew
                            have D05 : Hid (∀ k, v5.ownBlock = some k → v0.ownBlock ≠ some k) := fun k hk he => by obtain ⟨b, e_, hle⟩ := hnew; rw [e_] at hk; have := (raw_block H0.out he).2; injection hk with hk; omega
                            replace H0 := Lib.hid (raw_kept H0.out hg (fun k _ h => by cases h))
                            have H5 := Lib.hid ho
                            have n_hb := hb
                            clear hbd
                            have hbd := n_hb
                            clear n_hb hb ho hg
                            refine hK.out _ _ ⟨(hbd.cell (p := ⟨w.heap.size, 4, none⟩) l_src).trans qd_s4, (hbd.cell (p := ⟨w.heap.size + 1, 0, none⟩) l_more).trans qd_m0, (hbd.cell (p := ⟨w.heap.size + 1, 1, none⟩) l_more).trans qd_m1, (hbd.cell (p := ⟨w.heap.size + 1, 2, none⟩) l_more).trans qd_m2, (hbd.cell (p := ⟨w.heap.size + 1, 3, none⟩) l_more).trans qd_m3, (hbd.cell (p := ⟨w.heap.size + 1, 4, none⟩) l_more).trans qd_m4⟩ (fun hHeld => ?_)
                            clear hK K
                            refine norm_ (a' := ?_) ?_ ?_
                            rotate_left
                            · show Act.put _ (some 143) _ = _
                              simp only [Act.put, List.setIfInBounds_toArray, List.set_cons_zero, List.set_cons_succ, i64_w, i32_w]
                              rfl
                            refine one_ (i := 3) (N := some 141) #[true, true, true, true, true, true, false, false, false] rfl rfl (by kernel_rfl) (by decide) (fun K hK => ?_)
                            refine Kd.R_append_rows_step (Kd.raw 5) (Rr := Kd.K (Kd.raw 5) wd) (w0 := wd) wd.heap.size (by rfl) (.tmp 138) (.tmp 140) 23 25 (.agg #[(.int .i64 0), (.int .i64 0), (.int .i64 0), (.slice none 0 0), (.slice none 0 0)]) 72 rfl Try.underlying23 info25 rfl (by decide) (by omega) v0 [] rowsN _ _ _ (fun _ => True) (fun _ => False) rfl rfl ?aO ?aR (fun _ _ h => h) (fun _ h => h.elim) (fun _ _ => trivial) ?aB ?aS ?aL ?_
                            (case aO => exact H0.out)
                            (case aR => exact Kd.C_below HC4.out hbd)
                            (case aB => exact hbd)
                            (case aS => exact hbd.size)
                            (case aL => have := HL4.out; simp only [List.length_nil]; omega)
                            intro v3 we2 ho hb hg hat
                            replace H5 := Lib.hid (raw_kept H5.out hg (fun k hk => D05.out k hk))
                            have H3 := Lib.hid ho
                            have n_hb := hb
                            clear hbd
                            have hbd := n_hb
                            clear n_hb hb ho hg
                            refine hK.out _ _ ⟨(hbd.cell (p := ⟨w.heap.size, 4, none⟩) l_src).trans qd_s4, (hbd.cell (p := ⟨w.heap.size + 1, 0, none⟩) l_more).trans qd_m0, (hbd.cell (p := ⟨w.heap.size + 1, 1, none⟩) l_more).trans qd_m1, (hbd.cell (p := ⟨w.heap.size + 1, 2, none⟩) l_more).trans qd_m2, (hbd.cell (p := ⟨w.heap.size + 1, 3, none⟩) l_more).trans qd_m3, (hbd.cell (p := ⟨w.heap.size + 1, 4, none⟩) l_more).trans qd_m4⟩ (fun hHeld => ?_)
                            clear hK K
                            refine norm_ (a' := ?_) ?_ ?_
                            rotate_left
                            · show Act.put _ (some 141) _ = _
                              simp only [Act.put, List.setIfInBounds_toArray, List.set_cons_zero, List.set_cons_succ, i64_w, i32_w]
                              rfl
                            exact norm_ (by simp only [putAll, Act.put, List.setIfInBounds_toArray, List.set_cons_zero, List.set_cons_succ]) (hCont (v0, v3, v5) _ ⟨⟨(hbd.cell (p := ⟨w.heap.size, 4, none⟩) l_src).trans qd_s4, (hbd.cell (p := ⟨w.heap.size + 1, 0, none⟩) l_more).trans qd_m0, (hbd.cell (p := ⟨w.heap.size + 1, 1, none⟩) l_more).trans qd_m1, (hbd.cell (p := ⟨w.heap.size + 1, 2, none⟩) l_more).trans qd_m2, (hbd.cell (p := ⟨w.heap.size + 1, 3, none⟩) l_more).trans qd_m3, (hbd.cell (p := ⟨w.heap.size + 1, 4, none⟩) l_more).trans qd_m4⟩, hbd, H3, H5⟩)
                        · skip
                          refine Kd.R_lit_step (Kd.raw 5) (w0 := wd) wd.heap.size 25 ?hg (N := 143) ?hd (xs := [[.int .i64 1, .int .i64 y1, .int .i64 y2, .slice F3 m3.length f3, .slice F4 m4.length f4]]) (inner := [.int .i64 1, .int .i64 y1, .int .i64 y2, .slice F3 m3.length f3, .slice F4 m4.length f4]) (ok := fun _ => True) (okp := fun _ => False) ?hr ?hp (fun _ hk => hk.elim) trivial (Below.refl _ _) (Nat.le_refl _) (by simp) ?_; (case hd => rfl); (case hg => rfl); (case hr => first | (go_simp; done) | (go_simp; rfl)); (case hp => exact (Reps.c5 (show Kd.M (Kd.raw 5) _ _ _ [.int .i64 1, .int .i64 y1, .int .i64 y2, .slice F3 m3.length f3, .slice F4 m4.length f4] [.int .i64 1, .int .i64 y1, .int .i64 y2, .slice F3 m3.length f3, .slice F4 m4.length f4] from raw_M rfl (by simp [Value.oneCell'])) (Reps.none _ _)))
                          intro v5 we0 ho hb hg hnew
                          have H5 := Lib.hid ho
                          have n_hb := hb
                          have hbd := n_hb
                          clear n_hb hb ho hg
                          refine hK.out _ _ ⟨(hbd.cell (p := ⟨w.heap.size, 4, none⟩) l_src).trans qd_s4, (hbd.cell (p := ⟨w.heap.size + 1, 0, none⟩) l_more).trans qd_m0, (hbd.cell (p := ⟨w.heap.size + 1, 1, none⟩) l_more).trans qd_m1, (hbd.cell (p := ⟨w.heap.size + 1, 2, none⟩) l_more).trans qd_m2, (hbd.cell (p := ⟨w.heap.size + 1, 3, none⟩) l_more).trans qd_m3, (hbd.cell (p := ⟨w.heap.size + 1, 4, none⟩) l_more).trans qd_m4⟩ (fun hHeld => ?_)
                          clear hK K
                          refine norm_ (a' := ?_) ?_ ?_
                          rotate_left
                          · show Act.put _ (some 143) _ = _
                            simp only [Act.put, List.setIfInBounds_toArray, List.set_cons_zero, List.set_cons_succ, i64_w, i32_w]
                            rfl
                          refine one_ (i := 0) (N := some 138) #[true, true, true, false, true, true, false, false, false] rfl rfl (by kernel_rfl) (by decide) (fun K hK => ?_)
                          refine Kd.R_lit_step (Kd.raw 5) (w0 := wd) wd.heap.size 25 ?hg (N := 138) ?hd (xs := []) (inner := []) (ok := fun _ => True) (okp := fun _ => False) ?hr ?hp (fun _ hk => hk.elim) trivial hbd hbd.size (by simp) ?_; (case hd => rfl); (case hg => rfl); (case hr => first | (go_simp; done) | (go_simp; rfl)); (case hp => exact (Reps.none _ _))
                          intro v0 we1 ho hb hg hnew
                          have D05 : Hid (∀ k, v5.ownBlock = some k → v0.ownBlock ≠ some k) := fun k hk he => by obtain ⟨b, e_, hle⟩ := hnew; rw [e_] at he; have := (raw_block H5.out hk).2; injection he with he; omega
                          replace H5 := Lib.hid (raw_kept H5.out hg (fun k _ h => by cases h))
                          have H0 := Lib.hid ho
                          have n_hb := hb
                          clear hbd
                          have hbd := n_hb
                          clear n_hb hb ho hg
                          refine hK.out _ _ ⟨(hbd.cell (p := ⟨w.heap.size, 4, none⟩) l_src).trans qd_s4, (hbd.cell (p := ⟨w.heap.size + 1, 0, none⟩) l_more).trans qd_m0, (hbd.cell (p := ⟨w.heap.size + 1, 1, none⟩) l_more).trans qd_m1, (hbd.cell (p := ⟨w.heap.size + 1, 2, none⟩) l_more).trans qd_m2, (hbd.cell (p := ⟨w.heap.size + 1, 3, none⟩) l_more).trans qd_m3, (hbd.cell (p := ⟨w.heap.size + 1, 4, none⟩) l_more).trans qd_m4⟩ (fun hHeld => ?_)
                          clear hK K
                          refine norm_ (a' := ?_) ?_ ?_
                          rotate_left
                          · show Act.put _ (some 138) _ = _
                            simp only [Act.put, List.setIfInBounds_toArray, List.set_cons_zero, List.set_cons_succ, i64_w, i32_w]
                            rfl
                          refine one_ (i := 3) (N := some 141) #[true, true, true, true, true, true, false, false, false] rfl rfl (by kernel_rfl) (by decide) (fun K hK => ?_)
                          refine Kd.R_append_rows_step (Kd.raw 5) (Rr := Kd.K (Kd.raw 5) wd) (w0 := wd) wd.heap.size (by rfl) (.tmp 138) (.tmp 140) 23 25 (.agg #[(.int .i64 0), (.int .i64 0), (.int .i64 0), (.slice none 0 0), (.slice none 0 0)]) 72 rfl Try.underlying23 info25 rfl (by decide) (by omega) v0 [] rowsN _ _ _ (fun _ => True) (fun _ => False) rfl rfl ?aO ?aR (fun _ _ h => h) (fun _ h => h.elim) (fun _ _ => trivial) ?aB ?aS ?aL ?_
                          (case aO => exact H0.out)
                          (case aR => exact Kd.C_below HC4.out hbd)
                          (case aB => exact hbd)
                          (case aS => exact hbd.size)
                          (case aL => have := HL4.out; simp only [List.length_nil]; omega)
                          intro v3 we2 ho hb hg hat
                          replace H5 := Lib.hid (raw_kept H5.out hg (fun k hk => D05.out k hk))
                          have H3 := Lib.hid ho
                          have n_hb := hb
                          clear hbd
                          have hbd := n_hb
                          clear n_hb hb ho hg
                          refine hK.out _ _ ⟨(hbd.cell (p := ⟨w.heap.size, 4, none⟩) l_src).trans qd_s4, (hbd.cell (p := ⟨w.heap.size + 1, 0, none⟩) l_more).trans qd_m0, (hbd.cell (p := ⟨w.heap.size + 1, 1, none⟩) l_more).trans qd_m1, (hbd.cell (p := ⟨w.heap.size + 1, 2, none⟩) l_more).trans qd_m2, (hbd.cell (p := ⟨w.heap.size + 1, 3, none⟩) l_more).trans qd_m3, (hbd.cell (p := ⟨w.heap.size + 1, 4, none⟩) l_more).trans qd_m4⟩ (fun hHeld => ?_)
                          clear hK K
                          refine norm_ (a' := ?_) ?_ ?_
                          rotate_left
                          · show Act.put _ (some 141) _ = _
                            simp only [Act.put, List.setIfInBounds_toArray, List.set_cons_zero, List.set_cons_succ, i64_w, i32_w]
                            rfl
                          exact norm_ (by simp only [putAll, Act.put, List.setIfInBounds_toArray, List.set_cons_zero, List.set_cons_succ]) (hCont (v0, v3, v5) _ ⟨⟨(hbd.cell (p := ⟨w.heap.size, 4, none⟩) l_src).trans qd_s4, (hbd.cell (p := ⟨w.heap.size + 1, 0, none⟩) l_more).trans qd_m0, (hbd.cell (p := ⟨w.heap.size + 1, 1, none⟩) l_more).trans qd_m1, (hbd.cell (p := ⟨w.heap.size + 1, 2, none⟩) l_more).trans qd_m2, (hbd.cell (p := ⟨w.heap.size + 1, 3, none⟩) l_more).trans qd_m3, (hbd.cell (p := ⟨w.heap.size + 1, 4, none⟩) l_more).trans qd_m4⟩, hbd, H3, H5⟩)
                      rintro ⟨v0, v3, v5⟩ wj ⟨hS_, hbj, H3, H5⟩
                      have hHeld : wj.cell? ⟨w.heap.size, 4, none⟩ = some (.slice A4 l4.length c4) ∧ wj.cell? ⟨w.heap.size + 1, 0, none⟩ = some (.int .i64 1) ∧ wj.cell? ⟨w.heap.size + 1, 1, none⟩ = some (.int .i64 y1) ∧ wj.cell? ⟨w.heap.size + 1, 2, none⟩ = some (.int .i64 y2) ∧ wj.cell? ⟨w.heap.size + 1, 3, none⟩ = some (.slice F3 m3.length f3) ∧ wj.cell? ⟨w.heap.size + 1, 4, none⟩ = some (.slice F4 m4.length f4) := hS_
                      clear hS_
                      obtain ⟨A5, c5, rfl, _, hC5⟩ := Kd.R_reads H5.out
                      have HC5 := Lib.hid hC5
                      clear hC5 H5
                      refine norm_ (a' := ?_) ?_ ?_
                      rotate_left
                      · simp only [putAll, Act.put, List.setIfInBounds_toArray, List.set_cons_zero, List.set_cons_succ]
                        rfl
                      refine one_ (i := 6) (N := some 144) #[true, true, true, true, true, true, true, false, false] rfl rfl (by kernel_rfl) (by decide) (fun K hK => ?_)
                      refine Kd.R_append_rows_step (Kd.raw 5) (Rr := Kd.K (Kd.raw 5) wj) (w0 := wd) wd.heap.size (by rfl) (.tmp 141) (.tmp 143) 23 25 (.agg #[(.int .i64 0), (.int .i64 0), (.int .i64 0), (.slice none 0 0), (.slice none 0 0)]) 72 rfl Try.underlying23 info25 rfl (by decide) (by omega) v3 ([] ++ rowsN) [[.int .i64 1, .int .i64 y1, .int .i64 y2, .slice F3 m3.length f3, .slice F4 m4.length f4]] _ _ _ (fun _ => True) (fun _ => False) rfl rfl ?aO ?aR (fun _ _ h => h) (fun _ h => h.elim) (fun _ _ => trivial) ?aB ?aS ?aL ?_
                      (case aO => exact H3.out)
                      (case aR => exact HC5.out)
                      (case aB => exact hbj)
                      (case aS => exact hbj.size)
                      (case aL => have := HL4.out; simp only [List.nil_append, List.length_singleton]; omega)
                      intro v6 wk ho hb hg hat
                      have H6 := Lib.hid ho
                      have hbk := hb
                      clear ho hb hg hat H3 HC5
                      refine hK.out _ _ ⟨(hbk.cell (p := ⟨w.heap.size, 4, none⟩) l_src).trans qd_s4, (hbk.cell (p := ⟨w.heap.size + 1, 0, none⟩) l_more).trans qd_m0, (hbk.cell (p := ⟨w.heap.size + 1, 1, none⟩) l_more).trans qd_m1, (hbk.cell (p := ⟨w.heap.size + 1, 2, none⟩) l_more).trans qd_m2, (hbk.cell (p := ⟨w.heap.size + 1, 3, none⟩) l_more).trans qd_m3, (hbk.cell (p := ⟨w.heap.size + 1, 4, none⟩) l_more).trans qd_m4⟩ (fun hHeld => ?_)
                      clear hK K
                      refine norm_ (a' := ?_) ?_ ?_
                      rotate_left
                      · show Act.put _ (some 144) _ = _
                        simp only [Act.put, List.setIfInBounds_toArray, List.set_cons_zero, List.set_cons_succ, i64_w, i32_w]
                        rfl
                      refine pure_ (i := 7) (N := some 145) (v := ?_) (a' := ?_) #[true, true, true, true, true, true, true, true, false] rfl rfl (by kernel_rfl) (fun _ _ _ h => h) (Or.inl ⟨by rfl, ?_⟩) ?_ ?_
                      rotate_left
                      · intro w'
                        go_simp
                        with_reducible rfl
                      rotate_left
                      · simp only [Act.put, List.setIfInBounds_toArray, List.set_cons_zero, List.set_cons_succ, i64_w, i32_w]
                        rfl
                      refine last_ (i := 8) (N := none) #[true, true, true, true, true, true, true, true, true] rfl rfl (by kernel_rfl) (by decide) (fun K hK => ?_)
                      have BT6 := blk_below BT.out hbk
                      have lt6 := blk_lt BT6
                      have qt6 : wk.cell? ⟨w8.heap.size, 4, none⟩ = some (.slice A4 l4.length c4) := (blk_cell BT6 4).trans rfl
                      have ft6 := blk_frozen BT6 4
                      clear BT6
                      obtain ⟨A6, c6, rfl, hl6, hC6⟩ := Kd.R_reads H6.out
                      clear hC6
                      refine skip_ (w1 := ?_) (by rfl) rfl ?_ ?_
                      rotate_left
                      · go_simp
                        rfl
                      refine hK.out _ _ ?_
                      clear hK K
                      refine done_ (by kernel_rfl) ?_
                      obtain ⟨L, hL⟩ : ∃ L, l4 ++ [⟨1, y1, y2, m3, m4⟩] = L := ⟨_, rfl⟩
                      have hLL : l4.length + 1 = L.length := by rw [← hL]; simp
                      rw [hLL]
                      obtain ⟨wf, hwf⟩ : ∃ W, W = wk.setCell ⟨w8.heap.size, 4, none⟩ (.slice A6 L.length c6) := ⟨_, rfl⟩
                      rw [← hwf]
                      have hb8f : Below w8.heap.size w8 wf := by rw [hwf]; exact (hb8d.trans (hbk.mono hb8d.size)).setCell (p := ⟨w8.heap.size, 4, none⟩) (Nat.le_refl _) _
                      have hBX : wf.heap[w8.heap.size]? = some (.cells #[.int .i64 2, .int .i64 7, .int .i64 (wrap64 (x2 + 1)), .slice A3 l3.length c3, .slice A6 L.length c6] 25 (0, 0)) := by rw [hwf]; exact blk_put (blk_below BT.out hbk) 4 _ rfl
                      have hR6 := raw_far (u := .slice A6 L.length c6) H6.out (p := ⟨w8.heap.size, 4, none⟩) (Nat.lt_of_lt_of_le (blk_lt BT.out) (Nat.le_refl _))
                      rw [← hwf] at hR6
                      have hC6 := (Kd.R_reads' hR6).2.2
                      have hrk := ((RowsK.nil k25 w8).append HRK.out).append (RowsK.one (k25_mk w8 ⟨1, y1, y2, m3, m4⟩ hd3 HQ3.out hd4 HQ4.out))
                      rw [List.nil_append, hL] at hrk
                      have hCx := C_of_rows hC6 (hrk.below hb8f)
                      rw [show List.length (([] : List (List Value)) ++ rowsN ++ [([.int .i64 1, .int .i64 y1, .int .i64 y2, .slice F3 m3.length f3, .slice F4 m4.length f4] : List Value)]) = L.length by rw [← hLL]; simp [hrl]] at hCx
                      have hcL : L.length ≤ c6 := by have := hl6; rw [← hLL]; simpa [hrl] using this
                      have hk3 := HKU3.out
                      rw [hL] at hk3
                      replace HKU3 := Lib.hid hk3
                      have HX4 := Lib.hid hCx
                      clear hk3 hCx hC6 hrk hR6 hwf H6 BT HRK HC4 hHeld qt6 ft6 lt6 qd_s4 qd_m0 qd_m1 qd_m2 qd_m3 qd_m4 l_src l_more hl6 hL
                      replace HR3 := Lib.hid (Kd.C_below HR3.out hb8f)
                      replace HR4 := Lib.hid (Kd.C_below HR4.out hb8f)
                      replace HQ3 := Lib.hid (Kd.C_below HQ3.out hb8f)
                      replace HQ4 := Lib.hid (Kd.C_below HQ4.out hb8f)
                      replace HB := Lib.hid (below_step HB.out hb8f)
                      replace BN := Lib.hid (blk_below BN.out hb8f)
                      replace BM := Lib.hid (blk_below BM.out hb8f)
                      have BX := Lib.hid hBX
                      clear hBX hb8f hbk hbj hb8d hb1d hb81
                      have l_BN : w.heap.size < wf.heap.size := blk_lt BN.out
                      have q_BN_0 : wf.cell? ⟨w.heap.size, 0, none⟩ = some (.int .i64 2) := (blk_cell BN.out 0).trans rfl
                      have q_BN_1 : wf.cell? ⟨w.heap.size, 1, none⟩ = some (.int .i64 7) := (blk_cell BN.out 1).trans rfl
                      have q_BN_2 : wf.cell? ⟨w.heap.size, 2, none⟩ = some (.int .i64 x2) := (blk_cell BN.out 2).trans rfl
                      have q_BN_3 : wf.cell? ⟨w.heap.size, 3, none⟩ = some (.slice A3 l3.length c3) := (blk_cell BN.out 3).trans rfl
                      have q_BN_4 : wf.cell? ⟨w.heap.size, 4, none⟩ = some (.slice A4 l4.length c4) := (blk_cell BN.out 4).trans rfl
                      have l_BM : w.heap.size + 1 < wf.heap.size := blk_lt BM.out
                      have q_BM_0 : wf.cell? ⟨w.heap.size + 1, 0, none⟩ = some (.int .i64 1) := (blk_cell BM.out 0).trans rfl
                      have q_BM_1 : wf.cell? ⟨w.heap.size + 1, 1, none⟩ = some (.int .i64 y1) := (blk_cell BM.out 1).trans rfl
                      have q_BM_2 : wf.cell? ⟨w.heap.size + 1, 2, none⟩ = some (.int .i64 y2) := (blk_cell BM.out 2).trans rfl
                      have q_BM_3 : wf.cell? ⟨w.heap.size + 1, 3, none⟩ = some (.slice F3 m3.length f3) := (blk_cell BM.out 3).trans rfl
                      have q_BM_4 : wf.cell? ⟨w.heap.size + 1, 4, none⟩ = some (.slice F4 m4.length f4) := (blk_cell BM.out 4).trans rfl
                      have l_BX : w8.heap.size < wf.heap.size := blk_lt BX.out
                      have q_BX_0 : wf.cell? ⟨w8.heap.size, 0, none⟩ = some (.int .i64 2) := (blk_cell BX.out 0).trans rfl
                      have q_BX_1 : wf.cell? ⟨w8.heap.size, 1, none⟩ = some (.int .i64 7) := (blk_cell BX.out 1).trans rfl
                      have q_BX_2 : wf.cell? ⟨w8.heap.size, 2, none⟩ = some (.int .i64 (wrap64 (x2 + 1))) := (blk_cell BX.out 2).trans rfl
                      have q_BX_3 : wf.cell? ⟨w8.heap.size, 3, none⟩ = some (.slice A3 l3.length c3) := (blk_cell BX.out 3).trans rfl
                      have q_BX_4 : wf.cell? ⟨w8.heap.size, 4, none⟩ = some (.slice A6 L.length c6) := (blk_cell BX.out 4).trans rfl
                      go_wp2_with fail
                      clear l_BN q_BN_0 q_BN_1 q_BN_2 q_BN_3 q_BN_4 l_BM q_BM_0 q_BM_1 q_BM_2 q_BM_3 q_BM_4 l_BX q_BX_0 q_BX_1 q_BX_2 q_BX_3 q_BX_4
                      refine (trim_Uniform.calls ku3 2 7 (wrap64 (x2 + 1)) A3 c3 l3 A6 c6 L _ _ _ HR3.out hc3 HX4.out hcL HKU3.out).mono ?_
                      rintro e w9 ⟨rfl, hb⟩
                      replace HR3 := Lib.hid (Kd.C_below HR3.out hb)
                      replace HR4 := Lib.hid (Kd.C_below HR4.out hb)
                      replace HQ3 := Lib.hid (Kd.C_below HQ3.out hb)
                      replace HQ4 := Lib.hid (Kd.C_below HQ4.out hb)
                      replace HB := Lib.hid (below_step HB.out hb)
                      replace HX4 := Lib.hid (Kd.C_below HX4.out hb)
                      replace BN := Lib.hid (blk_below BN.out hb)
                      replace BM := Lib.hid (blk_below BM.out hb)
                      replace BX := Lib.hid (blk_below BX.out hb)
                      clear hb
                      obtain ⟨hle1, hle2⟩ := HLE.out
                      obtain ⟨hm1, hm2⟩ := HLM.out
                      have e9 : wrap64 ((m3.length : Int) / 8) = (m3.length : Int) / 8 := w64 (by omega) (by omega)
                      clear hlt hj
                      have fin : ∀ (G H : Nat) , max D (m3.length / 8) = G → max P m4.length = H → ((G : Int) == max (D : Int) ((m3.length : Int) / 8)) = true ∧ ((H : Int) == max (P : Int) (m4.length : Int)) = true := fun G H hG hH => by
                        constructor
                        · rw [beq_iff_eq]; omega
                        · rw [beq_iff_eq]; omega
                      obtain ⟨G, hG⟩ : ∃ G : Nat, max D (m3.length / 8) = G := ⟨_, rfl⟩
                      obtain ⟨H, hH⟩ : ∃ H : Nat, max P m4.length = H := ⟨_, rfl⟩
                      rw [hG, hH]
                      have HG := Lib.hid hG; have HH := Lib.hid hH; have HFIN := Lib.hid fin
                      clear hG hH fin
                      have l_BN : w.heap.size < w9.heap.size := blk_lt BN.out
                      have q_BN_0 : w9.cell? ⟨w.heap.size, 0, none⟩ = some (.int .i64 2) := (blk_cell BN.out 0).trans rfl
                      have q_BN_1 : w9.cell? ⟨w.heap.size, 1, none⟩ = some (.int .i64 7) := (blk_cell BN.out 1).trans rfl
                      have q_BN_2 : w9.cell? ⟨w.heap.size, 2, none⟩ = some (.int .i64 x2) := (blk_cell BN.out 2).trans rfl
                      have q_BN_3 : w9.cell? ⟨w.heap.size, 3, none⟩ = some (.slice A3 l3.length c3) := (blk_cell BN.out 3).trans rfl
                      have q_BN_4 : w9.cell? ⟨w.heap.size, 4, none⟩ = some (.slice A4 l4.length c4) := (blk_cell BN.out 4).trans rfl
                      have l_BM : w.heap.size + 1 < w9.heap.size := blk_lt BM.out
                      have q_BM_0 : w9.cell? ⟨w.heap.size + 1, 0, none⟩ = some (.int .i64 1) := (blk_cell BM.out 0).trans rfl
                      have q_BM_1 : w9.cell? ⟨w.heap.size + 1, 1, none⟩ = some (.int .i64 y1) := (blk_cell BM.out 1).trans rfl
                      have q_BM_2 : w9.cell? ⟨w.heap.size + 1, 2, none⟩ = some (.int .i64 y2) := (blk_cell BM.out 2).trans rfl
                      have q_BM_3 : w9.cell? ⟨w.heap.size + 1, 3, none⟩ = some (.slice F3 m3.length f3) := (blk_cell BM.out 3).trans rfl
                      have q_BM_4 : w9.cell? ⟨w.heap.size + 1, 4, none⟩ = some (.slice F4 m4.length f4) := (blk_cell BM.out 4).trans rfl
                      have l_BX : w8.heap.size < w9.heap.size := blk_lt BX.out
                      have q_BX_0 : w9.cell? ⟨w8.heap.size, 0, none⟩ = some (.int .i64 2) := (blk_cell BX.out 0).trans rfl
                      have q_BX_1 : w9.cell? ⟨w8.heap.size, 1, none⟩ = some (.int .i64 7) := (blk_cell BX.out 1).trans rfl
                      have q_BX_2 : w9.cell? ⟨w8.heap.size, 2, none⟩ = some (.int .i64 (wrap64 (x2 + 1))) := (blk_cell BX.out 2).trans rfl
                      have q_BX_3 : w9.cell? ⟨w8.heap.size, 3, none⟩ = some (.slice A3 l3.length c3) := (blk_cell BX.out 3).trans rfl
                      have q_BX_4 : w9.cell? ⟨w8.heap.size, 4, none⟩ = some (.slice A6 L.length c6) := (blk_cell BX.out 4).trans rfl
                      go_wp2
                      all_goals first | (exfalso; have h1 := HG.out; have h2 := HH.out; omega) | go_ret
                      all_goals (refine ⟨congrArg (fun b => Ending.returned (.bool b)) (?_ : (_ : Bool) = true), HB.out⟩; have h1 := HG.out; have h2 := HH.out; simp only [beq_iff_eq]; omega)
theorem uniform_true (n m : S25) {A3 : Option Addr} {c3 : Nat} {A4 : Option Addr} {c4 : Nat} {F3 : Option Addr} {f3 : Nat} {F4 : Option Addr} {f4 : Nat} (w : World) (hok : okT n) (hs : tsize n ≤ 2000000) (hok2 : okT m) (hs2 : tsize m ≤ 2000000)
    (hr3 : Kd.C (Kd.int .u8) w A3 n.f3.length n.f3) (hc3 : n.f3.length ≤ c3) (hr4 : Kd.C k25 w A4 n.f4.length n.f4) (hc4 : n.f4.length ≤ c4)
    (hq3 : Kd.C (Kd.int .u8) w F3 m.f3.length m.f3) (hd3 : m.f3.length ≤ f3) (hq4 : Kd.C k25 w F4 m.f4.length m.f4) (hd4 : m.f4.length ≤ f4) :
    Calls Try.prog 6 #[.agg #[.int .i64 n.f0, .int .i64 n.f1, .int .i64 n.f2, .slice A3 n.f3.length c3, .slice A4 n.f4.length c4], .agg #[.int .i64 m.f0, .int .i64 m.f1, .int .i64 m.f2, .slice F3 m.f3.length f3, .slice F4 m.f4.length f4]] w fun e w' => e = .returned (.bool true) ∧ Below w.heap.size w w' := by
  cases n
  cases m
  exact uniform_calls _ _ _ _ _ _ _ _ _ _ _ _ _ _ _ _ _ _ w hok hs hok2 hs2 hr3 hc3 hr4 hc4 hq3 hd3 hq4 hd4
end Go.Proofs.Ytmbockhcmhghlaa.Pr
end
section
namespace Go.Proofs.Ytmbockhcmhghlaa.Pr
open Go.RowKit Go.ChangeShapes Go.WideShapes Go.ChangeAt Go.Proofs.YtmbockhcmhghlaaW.PrintWords Go.Proofs.YtmbockhcmhghlaaW.PrintLast Go.Proofs.YtmbockhcmhghlaaW.PrintMore
set_option linter.unusedVariables false
set_option linter.unusedSimpArgs false
theorem byte_range {n : Int} (h : (Lit.int .u8 n).wf = true) : 0 ≤ n ∧ n ≤ 255 := by
  simpa [Lit.wf, IntKind.min, IntKind.max, IntKind.signed, IntKind.bits] using h
theorem cells_each {w : World} {base : Nat} {a : Addr} {n : Nat} {cs : List Value} (h : w.cells? base a n = some cs) : cs.length = n ∧ ∀ (i : Nat) (u : Value), cs[i]? = some u → w.cell? (a.add i) = some u := by
  unfold World.cells? at h
  split at h
  · have hl := mapM_some_length h
    refine ⟨by simpa using hl, fun i u hu => ?_⟩
    have hi : i < n := by
      have := (List.getElem?_eq_some_iff.1 hu).1
      simp at hl; omega
    have := mapM_some_get h i i (by simp [hi])
    rw [this, hu]
  · cases h
section
variable {H : Type} {enc : TypeId × Value → H} {w : World} {base : Nat} {held : Bool}
theorem bulk_bytes {fuel : Nat} {cs : List Value} {x : DataW H × List MemPlace} (h : DataW.trod enc Try.prog w base (fun _ => true) held fuel 22 cs = some x) :
    ∃ (A : Option Addr) (c : Nat) (xs : List Int), cs = [.slice A xs.length c] ∧ xs.length ≤ c ∧ (Kd.int .u8).C w A xs.length xs ∧ (∀ n ∈ xs, 0 ≤ n ∧ n ≤ 255) ∧ xs.length + 1 ≤ Rows.uptoBulk x.1 := by
  rcases open_ints Try.underlying22 Try.underlying5 (by kernel_rfl) h with ⟨rfl, rfl⟩ | ⟨ad, len, cap, zs, rfl, hb, hle, hm, hz, rfl, hcell, hwz⟩
  · exact ⟨none, 0, [], rfl, Nat.le_refl _, Kd.C_nil _ _, by simp, by simp [Rows.uptoBulk]⟩
  · have hzl : zs.length = cap := by simpa using hz
    have htl : (zs.take len).length = len := by simp; omega
    have hlits : ∀ l : List Int, Rows.uptoBulkAll (lits (H := H) .u8 l) = l.length := fun l => by
      induction l with
      | nil => simp [lits, Rows.uptoBulkAll]
      | cons y l ih =>
        simp only [lits, List.map_cons, Rows.uptoBulkAll, Rows.uptoBulk, List.length_cons] at ih ⊢
        omega
    refine ⟨some ad, cap, zs.take len, by rw [htl], by omega, ⟨rfl, by rw [htl]; simp only [maxLen] at hm; omega, fun hp => ⟨ad, rfl, fun j p hj => ⟨[.int .u8 p], rfl, rfl, fun i u hu => ?_⟩⟩⟩, fun n hn => byte_range (hwz n (List.mem_of_mem_take hn)), ?_⟩
    · match i with
      | 0 =>
        obtain rfl : Value.int .u8 p = u := by simpa using hu
        have hjl := (List.getElem?_eq_some_iff.1 hj).1
        rw [htl] at hjl
        have := hcell j (by omega)
        rw [List.getElem?_take_of_lt hjl] at hj
        rw [List.getD_eq_getElem?_getD, hj] at this
        show w.cell? (ad.add (j * 1 + 0)) = _
        rw [Nat.mul_one, Nat.add_zero]
        exact this
      | i + 1 => simp at hu
    · simp only [Rows.uptoBulk, hlits]
      omega
theorem sizes_bulk : ∀ (L : List S25) (ds : List (DataW H)), L.length = ds.length → (∀ (i : Nat) (x : S25) (d : DataW H), L[i]? = some x → ds[i]? = some d → tsize x ≤ Rows.uptoBulk d) → tsizes L ≤ Rows.uptoBulkAll ds
  | [], _, _, _ => by simp [tsizes]
  | x :: L, [], h, _ => by simp at h
  | x :: L, d :: ds, h, hx => by
    have h1 := hx 0 x d rfl rfl
    have h2 := sizes_bulk L ds (by simpa using h) (fun i y e h1 h2 => hx (i + 1) y e (by simpa using h1) (by simpa using h2))
    simp only [tsizes, Rows.uptoBulkAll]; omega
theorem open_node : ∀ (fuel : Nat) (cs : List Value) (x : DataW H × List MemPlace), DataW.trod enc Try.prog w base (fun _ => true) held fuel 25 cs = some x → ∃ a : S25, k25.K w a cs ∧ okT a ∧ tsize a ≤ Rows.uptoBulk x.1 := by
  intro fuel
  induction fuel using Nat.strongRecOn with
  | _ fuel ih =>
  intro cs x h
  obtain ⟨xs, n, rfl, rfl, hl, hlen, hf⟩ := DataW.trod_struct Try.underlying25 h
  have z25 : Try.prog.cellsOf 25 = 5 := by kernel_rfl
  have z3 : Try.prog.cellsOf 3 = 1 := by kernel_rfl
  have zb : Try.prog.cellsOf 22 = 1 := by kernel_rfl
  have zn : Try.prog.cellsOf 23 = 1 := by kernel_rfl
  rw [z25] at hl
  match xs, hlen, cs, hl with
  | [y0, y1, y2, y3, y4], _, [c0, c1, c2, c3, c4], _ =>
  have h0 : DataW.trod enc Try.prog w base (fun _ => true) held n 3 [c0] = some y0 := by simpa [z3] using hf 0 _ rfl
  have h1 : DataW.trod enc Try.prog w base (fun _ => true) held n 3 [c1] = some y1 := by simpa [z3] using hf 1 _ rfl
  have h2 : DataW.trod enc Try.prog w base (fun _ => true) held n 3 [c2] = some y2 := by simpa [z3] using hf 2 _ rfl
  have h3 : DataW.trod enc Try.prog w base (fun _ => true) held n 22 [c3] = some y3 := by simpa [zb] using hf 3 _ rfl
  have h4 : DataW.trod enc Try.prog w base (fun _ => true) held n 23 [c4] = some y4 := by simpa [zn] using hf 4 _ rfl
  obtain ⟨n0, e0, rfl, _⟩ := DataW.trod_int Try.underlying3 h0
  obtain ⟨n1, e1, rfl, _⟩ := DataW.trod_int Try.underlying3 h1
  obtain ⟨n2, e2, rfl, _⟩ := DataW.trod_int Try.underlying3 h2
  obtain ⟨A3, k3, zs, e3, l3, g3, hzb, hb3⟩ := bulk_bytes h3
  simp only [List.cons.injEq, and_true] at e0 e1 e2 e3
  subst e0 e1 e2 e3
  have kids : ∃ (A : Option Addr) (c : Nat) (L : List S25), c4 = .slice A L.length c ∧ L.length ≤ c ∧ k25.C w A L.length L ∧ (∀ a ∈ L, okT a) ∧ tsizes L ≤ Rows.uptoBulk y4.1 := by
    rcases DataW.trod_slice Try.underlying23 h4 with ⟨e4, rfl⟩ | ⟨ad, len, cap, elems, rest, m, rfl, e4, rfl, hb, hle, hmax, hel0, hel, _, _⟩
    · simp only [List.cons.injEq, and_true] at e4
      exact ⟨none, 0, [], e4, Nat.le_refl _, Kd.C_nil _ _, by simp, by simp [tsizes]⟩
    · simp only [List.cons.injEq, and_true] at e4
      have each : ∀ i, i < len → ∃ (cs' : List Value) (a : S25), (∀ (j : Nat) (u : Value), cs'[j]? = some u → w.cell? ((ad.add (i * 5)).add j) = some u) ∧ cs'.length = 5 ∧ k25.K w a cs' ∧ okT a ∧ ∀ d, (elems.map (·.1))[i]? = some d → tsize a ≤ Rows.uptoBulk d := fun i hi => by
        have hq := hel i hi
        rw [z25, List.getElem?_eq_getElem (by omega)] at hq
        obtain ⟨cs', hc, ht⟩ := Option.bind_eq_some_iff.1 hq
        obtain ⟨a, hK, hok, hsz⟩ := ih m (by omega) cs' _ ht
        obtain ⟨hlc, hcc⟩ := cells_each hc
        refine ⟨cs', a, hcc, hlc, hK, hok, fun d hd => ?_⟩
        rw [List.getElem?_map, List.getElem?_eq_getElem (by omega)] at hd
        obtain rfl : elems[i].1 = d := by simpa using hd
        exact hsz
      classical
      let f : Nat → S25 := fun i => if hi : i < len then (each i hi).choose_spec.choose else ⟨0, 0, 0, [], []⟩
      have hfs : ∀ i (hi : i < len), f i = (each i hi).choose_spec.choose := fun i hi => dif_pos hi
      have hL : ((List.range len).map f).length = len := by simp
      have hget : ∀ (j : Nat) (p : S25), ((List.range len).map f)[j]? = some p → ∃ hj : j < len, p = (each j hj).choose_spec.choose := fun j p hp => by
        have hj : j < len := by have := (List.getElem?_eq_some_iff.1 hp).1; rwa [hL] at this
        refine ⟨hj, ?_⟩
        rw [← hfs j hj]
        simp [hj] at hp
        exact hp.symm
      refine ⟨some ad, cap, (List.range len).map f, by rw [hL]; exact e4, by rw [hL]; exact hle, ⟨rfl, by rw [hL]; simp only [maxLen] at hmax; omega, fun hp => ⟨ad, rfl, fun j p hj => ?_⟩⟩, fun a ha => ?_, ?_⟩
      · obtain ⟨hjl, rfl⟩ := hget j p hj
        obtain ⟨hc, hlc, hK, _⟩ := (each j hjl).choose_spec.choose_spec
        refine ⟨(each j hjl).choose, hlc, hK, fun i u hu => ?_⟩
        have := hc i u hu
        rw [Addr.add_add] at this
        exact this
      · obtain ⟨j, hj⟩ := List.getElem?_of_mem ha
        obtain ⟨hjl, rfl⟩ := hget j a hj
        exact (each j hjl).choose_spec.choose_spec.2.2.2.1
      · refine Nat.le_trans (sizes_bulk _ (elems.map (·.1)) (by simp; omega) fun i x d hx hd => ?_) (by simp only [Rows.uptoBulk]; omega)
        obtain ⟨hjl, rfl⟩ := hget i x hx
        exact (each i hjl).choose_spec.choose_spec.2.2.2.2 d hd
  obtain ⟨A4, k4, L, rfl, l4, g4, hLok, hb4⟩ := kids
  refine ⟨⟨n0, n1, n2, zs, L⟩, k25_mk w ⟨n0, n1, n2, zs, L⟩ l3 g3 l4 g4, .mk hzb hLok, ?_⟩
  simp only [tsize, Rows.uptoBulk, Rows.uptoBulkAll, List.map_cons, List.map_nil]
  omega
end
end Go.Proofs.Ytmbockhcmhghlaa.Pr
end
section
namespace Go.Proofs.Ytmbockhcmhghlaa.trimUniform
open Go.ChangeShapes Go.WideShapes Go.ChangeAt Go.RowKit Go.Joins Go.Proofs.Ytmbockhcmhghlaa.Pr
set_option linter.unusedVariables false
set_option linter.unusedSimpArgs false
theorem own : ownKnob Try.prog.godebug = none := by kernel_rfl
theorem laidOut : laidOutB Try.prog = true := by kernel_rfl
theorem contract (H : Type) (enc : TypeId × Value → H) (W : World) (base : Nat) (args : Array Value) (ds gs : List (DataW H)) (before : List MemPlace)
    (hval0 : ∀ (j : Nat) t v, Try.f6.params[j]? = some t → args[j]? = some v → Value.okWide Try.prog W .any base t v)
    (hW : DataW.Whole enc Try.prog Try.f6.params.toList Rows.trimUniformSpec.vars false W args.toList ds gs before) (hbulk : Rows.uptoSmall H (ds ++ gs) = true) :
    Calls Try.prog 6 args W fun e W' => ∃ v, e = .returned v ∧ Rows.trimUniformSpec.post enc Try.prog Try.f6 false true false false W args v W' := by
  have hval : ∀ (j : Nat) t v, Try.f6.params[j]? = some t → args[j]? = some v → Value.okWide Try.prog W .any base t v := hval0
  have hW' := hW
  obtain ⟨p, q, hA0, hV, rfl, hfz, hnd⟩ := hW
  have hA : DataW.TrodAll enc Try.prog W 0 (fun _ => true) true Try.f6.params.toList args.toList ds p := hA0
  rw [Try.params6] at hA hval
  obtain ⟨v0, vs0, d0, ds0, p0, q0, hargs, rfl, rfl, h0, r0⟩ := trodAll_cons hA
  obtain ⟨v1, vs1, d1, ds1, p1, q1, rfl, rfl, rfl, h1, r1⟩ := trodAll_cons r0
  obtain ⟨rfl, rfl, rfl⟩ := trodAll_nil r1
  obtain rfl : args = #[v0, v1] := by cases args; simp_all
  obtain ⟨rfl, rfl⟩ := trodVars_none hV
  have k0 := h0
  have lt0 : ∀ x ∈ p0, x.block < W.heap.size := by obtain ⟨m, hm⟩ := k0; exact DataW.trod_lt m _ _ _ hm
  obtain ⟨cs0, rfl, hn0⟩ := okWide_struct Try.underlying25 (hval 0 25 v0 rfl rfl)
  obtain ⟨fuel0, hf0⟩ := h0
  obtain ⟨a0, K0, ok0, sz0⟩ := open_node _ _ _ hf0
  obtain ⟨A0_3, c0_3, A0_4, c0_4, e0, l0_3, g0_3, l0_4, g0_4⟩ := k25_open K0
  obtain rfl : cs0 = #[.int .i64 a0.f0, .int .i64 a0.f1, .int .i64 a0.f2, .slice A0_3 a0.f3.length c0_3, .slice A0_4 a0.f4.length c0_4] := by
    have e' : cs0.toList = _ := e0
    rw [← Array.toArray_toList (xs := cs0), e']
  clear K0 e0 hf0 hn0
  have sz0 : tsize a0 ≤ Rows.uptoBulk d0 := sz0
  have k1 := h1
  have lt1 : ∀ x ∈ p1, x.block < W.heap.size := by obtain ⟨m, hm⟩ := k1; exact DataW.trod_lt m _ _ _ hm
  obtain ⟨cs1, rfl, hn1⟩ := okWide_struct Try.underlying25 (hval 1 25 v1 rfl rfl)
  obtain ⟨fuel1, hf1⟩ := h1
  obtain ⟨a1, K1, ok1, sz1⟩ := open_node _ _ _ hf1
  obtain ⟨A1_3, c1_3, A1_4, c1_4, e1, l1_3, g1_3, l1_4, g1_4⟩ := k25_open K1
  obtain rfl : cs1 = #[.int .i64 a1.f0, .int .i64 a1.f1, .int .i64 a1.f2, .slice A1_3 a1.f3.length c1_3, .slice A1_4 a1.f4.length c1_4] := by
    have e' : cs1.toList = _ := e1
    rw [← Array.toArray_toList (xs := cs1), e']
  clear K1 e1 hf1 hn1
  have sz1 : tsize a1 ≤ Rows.uptoBulk d1 := sz1
  have hk : Rows.uptoBulk d0 + Rows.uptoBulk d1 ≤ 1048576 := by have h := of_decide_eq_true hbulk; simp only [Rows.uptoBulkAll, List.nil_append, List.append_nil, List.cons_append] at h; omega
  clear hA0 hval0
  refine (uniform_true a0 a1 W ok0 (by omega) ok1 (by omega) g0_3 l0_3 g0_4 l0_4 g1_3 l1_3 g1_4 l1_4).mono fun e W' ⟨he, bel⟩ => ?_
  subst he
  exact ⟨_, rfl, _, _, _, [], _, [], hW', trodAll_mk1 (shut_bool Try.underlying4 _), (trodAll_cons_mk (Below.trod laidOut (by kernel_rfl) (of_decide_eq_true (by kernel_rfl)) k0 bel lt0) (trodAll_cons_mk (Below.trod laidOut (by kernel_rfl) (of_decide_eq_true (by kernel_rfl)) k1 bel lt1) trodAll_mk0)), rfl, bel.frame _, fun h => by cases h⟩
set_option maxRecDepth 100000 in
theorem lifted (os : Os) (started : os.Started) (H : Type) (enc : TypeId × Value → H) (F : Stop.Interp) :
    ReturnsInHanded {} Try.checked os 6 .any ((Rows.OpenSpec.upto Rows.trimUniformSpec).pre6 enc Try.prog Try.f6 Rows.trimUniformUptoRow.domain false) (((Rows.OpenSpec.upto Rows.trimUniformSpec).at F).post enc Try.prog Try.f6 false true false false) := by
  refine returnsInHanded_of_cond (C := Try.checked) (s := (Rows.OpenSpec.upto Rows.trimUniformSpec)) (k := Rows.uptoSmall) rfl own started (by kernel_rfl) Try.func6
    (OpenSpec.witness (enc := enc) (C := Try.checked) (s := (Rows.OpenSpec.upto Rows.trimUniformSpec)) (k := Rows.uptoSmall) rfl false ⟨#[], #[.agg #[.int .i64 0, .int .i64 0, .int .i64 0, .slice none 0 0, .slice none 0 0], .agg #[.int .i64 0, .int .i64 0, .int .i64 0, .slice none 0 0, .slice none 0 0]], []⟩ 8 (by kernel_rfl) (by kernel_rfl) (by kernel_rfl)
      (x := ([.agg [.lit (.int .i64 0), .lit (.int .i64 0), .lit (.int .i64 0), .nil, .nil], .agg [.lit (.int .i64 0), .lit (.int .i64 0), .lit (.int .i64 0), .nil, .nil]], [], [])) (by kernel_rfl) rfl (by kernel_rfl)) ?_
  intro W base args ds gs before hval hW _ hk _
  exact contract H enc W base args ds gs before hval hW hk
theorem over : Rows.trimUniformUptoRow.holds Try.pinned (Rows.OpenSpec.upto Rows.trimUniformSpec) :=
  OpenClaim.holds_of_cond 6 Try.f6 rfl rfl rfl rfl rfl rfl rfl ⟨rfl, rfl, rfl, rfl, rfl⟩ rfl rfl rfl rfl rfl (by kernel_rfl) Try.func6 (by kernel_rfl)
    (of_decide_eq_true (by kernel_rfl)) (by unfold Func.isWrapper; first | (rw [if_pos (by decide +kernel)]; kernel_rfl) | (rw [if_neg (by decide +kernel)]; exact ⟨rfl, rfl⟩))
    (fun os started H enc _ F => lifted os started H enc F)
theorem proved : Rows.TrimUniformUptoSaid := over
#print axioms proved
end Go.Proofs.Ytmbockhcmhghlaa.trimUniform
namespace Go.Proofs.Ytmbockhcmhghlaa
theorem trimUniform_holds : Rows.TrimUniformUptoSaid := trimUniform.proved
end Go.Proofs.Ytmbockhcmhghlaa
end
