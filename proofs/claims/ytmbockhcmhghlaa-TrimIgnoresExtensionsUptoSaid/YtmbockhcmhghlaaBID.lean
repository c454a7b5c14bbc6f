/- For every two nodes of bulk at most 1048576 together, appending zero words and null pointers to a struct does not change the trimmed form and appending anything else does: the law answers true and leaves its arguments as they were. -/
import Derived.Test.YtmbockhcmhghlaaBIC
import Derived.Below
import Derived.Deep.Draws
import Derived.Deep.AppendLies
import Derived.Maps.AppendAt
import Derived.OwnWalk
import Derived.Laws.BytesArg
import Derived.Laws.MakeOwn
import Derived.Laws.OwnMore
import Derived.Deep.OwnRows
import Derived.Tactics
import Derived.Lib.ConvBytes
import Derived.Laws.Slices
import Derived.WalkKit
import Derived.KernelRfl
import Derived.RowKit3
import Derived.Deep.LoopGhost
import Derived.Deep.QuietTactic
import Derived.BigQuiet
import Derived.WideLaws
import Derived.Deep.DeepCutAuto
import Derived.Deep.CutBlock
import Derived.Deep.RegionHeld3
import Derived.Laws.Rows
import Derived.Lib.AppendStr
import Derived.ArgAppend
import Derived.Laws.IdiomCopy
import Derived.RowKit
import Derived.OrdersHeld
import Derived.Laws.BitsLemmas
import Derived.Laws.StructEq
import Derived.SizedLaws
import Derived.ChangeSlices
import Derived.Test.YtmbockhcmhghlaaProg
import Derived.Lib.Hide
import Derived.IntWalk
import Derived.Test.YtmbockhcmhghlaaRows
import Derived.ProofKit
import Derived.OpenShut
import Derived.ChangeOld
import Derived.Lib.SmallJoins
import Derived.DataReads
import Derived.ShutString
import Derived.JoinedCond
section
namespace Go.Proofs.Ytmbockhcmhghlaa.Pr
open Go.RowKit Go.Proofs.YtmbockhcmhghlaaW.PrintWords Go.Proofs.YtmbockhcmhghlaaW.PrintLast Go.Proofs.YtmbockhcmhghlaaW.PrintMore
set_option linter.unusedVariables false
set_option linter.unusedSimpArgs false
set_option maxRecDepth 100000 in
set_option maxHeartbeats 16000000 in
theorem ignores_calls (x0 x1 x2 : Int) (l3 : List Int) (l4 : List S25) (A3 : Option Addr) (c3 : Nat) (A4 : Option Addr) (c4 : Nat) (a1 a2 : Int) (y0 y1 y2 : Int) (m3 : List Int) (m4 : List S25) (F3 : Option Addr) (f3 : Nat) (F4 : Option Addr) (f4 : Nat) (bb : Int) (w : World)
    (hok : okT ⟨x0, x1, x2, l3, l4⟩) (hs : tsize ⟨x0, x1, x2, l3, l4⟩ ≤ 2000000) (hok2 : okT ⟨y0, y1, y2, m3, m4⟩) (hs2 : tsize ⟨y0, y1, y2, m3, m4⟩ ≤ 2000000) (ha1 : 0 ≤ a1) (ha2 : 0 ≤ a2)
    (hr3 : Kd.C (Kd.int .u8) w A3 l3.length l3) (hc3 : l3.length ≤ c3) (hr4 : Kd.C k25 w A4 l4.length l4) (hc4 : l4.length ≤ c4)
    (hq3 : Kd.C (Kd.int .u8) w F3 m3.length m3) (hd3 : m3.length ≤ f3) (hq4 : Kd.C k25 w F4 m4.length m4) (hd4 : m4.length ≤ f4) :
    Calls Try.prog 5 #[.agg #[.int .i64 x0, .int .i64 x1, .int .i64 x2, .slice A3 l3.length c3, .slice A4 l4.length c4], .int .u8 a1, .int .u8 a2, .agg #[.int .i64 y0, .int .i64 y1, .int .i64 y2, .slice F3 m3.length f3, .slice F4 m4.length f4], .int .u8 bb] w fun e w' => e = .returned (.bool true) ∧ Below w.heap.size w w' := by
  obtain ⟨kw, hkw, hkw4⟩ : ∃ k : Nat, a1 % 5 = (k : Int) ∧ k ≤ 4 := ⟨(a1 % 5).toNat, by omega, by omega⟩
  obtain ⟨kn, hkn, hkn4⟩ : ∃ k : Nat, a2 % 5 = (k : Int) ∧ k ≤ 4 := ⟨(a2 % 5).toNat, by omega, by omega⟩
  obtain ⟨kfn, hf⟩ := (few_ev ⟨x0, x1, x2, l3, l4⟩ (by omega)).rounds
  obtain ⟨kvn, hv⟩ := (valid_ev ⟨x0, x1, x2, l3, l4⟩ hok (by omega)).rounds
  obtain ⟨bfn, efn⟩ : ∃ b, Hid (tfew ⟨x0, x1, x2, l3, l4⟩ = b) := ⟨_, rfl⟩
  obtain ⟨bvn, evn⟩ : ∃ b, Hid (tvalid ⟨x0, x1, x2, l3, l4⟩ = b) := ⟨_, rfl⟩
  rw [efn.out] at hf
  rw [evn.out] at hv
  have HFn := Lib.hid hf; have HVn := Lib.hid hv
  clear hf hv
  obtain ⟨kfm, hf⟩ := (few_ev ⟨y0, y1, y2, m3, m4⟩ (by omega)).rounds
  obtain ⟨kvm, hv⟩ := (valid_ev ⟨y0, y1, y2, m3, m4⟩ hok2 (by omega)).rounds
  obtain ⟨bfm, efm⟩ : ∃ b, Hid (tfew ⟨y0, y1, y2, m3, m4⟩ = b) := ⟨_, rfl⟩
  obtain ⟨bvm, evm⟩ : ∃ b, Hid (tvalid ⟨y0, y1, y2, m3, m4⟩ = b) := ⟨_, rfl⟩
  rw [efm.out] at hf
  rw [evm.out] at hv
  have HFm := Lib.hid hf; have HVm := Lib.hid hv
  clear hf hv
  have HR3 := Lib.hid (hr3)
  have HR4 := Lib.hid (hr4)
  have HQ3 := Lib.hid (hq3)
  have HQ4 := Lib.hid (hq4)
  have HB := Lib.hid (Below.refl w.heap.size w)
  have HKW := Lib.hid hkw; have HKN := Lib.hid hkn
  clear hr3 hr4 hq3 hq4 hkw hkn
  go_enter Try.func5, Try.ntmps5
  go_wp2_with fail
  refine calls_at (fun W0 hW => ?_)
  have hb : Below w.heap.size w W0 := by rw [hW]; repeat (first | exact Below.refl _ _ | refine Below.alloc ?_ (by first | exact Nat.le_refl _ | (simp <;> omega)) _)
  have nBN : W0.heap[w.heap.size]? = some (.cells #[.int .i64 x0, .int .i64 x1, .int .i64 x2, .slice A3 l3.length c3, .slice A4 l4.length c4] 25 (0, 0)) := by rw [hW]; repeat (first | exact heap_alloc_new _ _ | exact blk_new _ _ _ (by simp) | refine blk_alloc ?_ _)
  have nBM : W0.heap[w.heap.size + 1]? = some (.cells #[.int .i64 y0, .int .i64 y1, .int .i64 y2, .slice F3 m3.length f3, .slice F4 m4.length f4] 25 (0, 0)) := by rw [hW]; repeat (first | exact heap_alloc_new _ _ | exact blk_new _ _ _ (by simp) | refine blk_alloc ?_ _)
  clear hW
  replace HR3 := Lib.hid (Kd.C_below HR3.out hb)
  replace HR4 := Lib.hid (Kd.C_below HR4.out hb)
  replace HQ3 := Lib.hid (Kd.C_below HQ3.out hb)
  replace HQ4 := Lib.hid (Kd.C_below HQ4.out hb)
  replace HB := Lib.hid (below_step HB.out hb)
  clear hb
  have BN := Lib.hid nBN
  clear nBN
  have BM := Lib.hid nBM
  clear nBM
  refine (capnplaw11_awake.calls true _ rfl).mono ?_
  rintro e w1 ⟨rfl, hb⟩
  replace HR3 := Lib.hid (Kd.C_below HR3.out hb)
  replace HR4 := Lib.hid (Kd.C_below HR4.out hb)
  replace HQ3 := Lib.hid (Kd.C_below HQ3.out hb)
  replace HQ4 := Lib.hid (Kd.C_below HQ4.out hb)
  replace HB := Lib.hid (below_step HB.out hb)
  replace BN := Lib.hid (blk_below BN.out hb)
  replace BM := Lib.hid (blk_below BM.out hb)
  clear hb
  have l_BN : w.heap.size < w1.heap.size := blk_lt BN.out
  have q_BN_0 : w1.cell? ⟨w.heap.size, 0, none⟩ = some (.int .i64 x0) := (blk_cell BN.out 0).trans rfl
  have q_BN_1 : w1.cell? ⟨w.heap.size, 1, none⟩ = some (.int .i64 x1) := (blk_cell BN.out 1).trans rfl
  have q_BN_2 : w1.cell? ⟨w.heap.size, 2, none⟩ = some (.int .i64 x2) := (blk_cell BN.out 2).trans rfl
  have q_BN_3 : w1.cell? ⟨w.heap.size, 3, none⟩ = some (.slice A3 l3.length c3) := (blk_cell BN.out 3).trans rfl
  have q_BN_4 : w1.cell? ⟨w.heap.size, 4, none⟩ = some (.slice A4 l4.length c4) := (blk_cell BN.out 4).trans rfl
  have l_BM : w.heap.size + 1 < w1.heap.size := blk_lt BM.out
  have q_BM_0 : w1.cell? ⟨w.heap.size + 1, 0, none⟩ = some (.int .i64 y0) := (blk_cell BM.out 0).trans rfl
  have q_BM_1 : w1.cell? ⟨w.heap.size + 1, 1, none⟩ = some (.int .i64 y1) := (blk_cell BM.out 1).trans rfl
  have q_BM_2 : w1.cell? ⟨w.heap.size + 1, 2, none⟩ = some (.int .i64 y2) := (blk_cell BM.out 2).trans rfl
  have q_BM_3 : w1.cell? ⟨w.heap.size + 1, 3, none⟩ = some (.slice F3 m3.length f3) := (blk_cell BM.out 3).trans rfl
  have q_BM_4 : w1.cell? ⟨w.heap.size + 1, 4, none⟩ = some (.slice F4 m4.length f4) := (blk_cell BM.out 4).trans rfl
  go_wp2_with fail
  clear l_BN q_BN_0 q_BN_1 q_BN_2 q_BN_3 q_BN_4 l_BM q_BM_0 q_BM_1 q_BM_2 q_BM_3 q_BM_4
  refine (capnpref10_Few.calls kfn x0 x1 x2 A3 c3 l3 A4 c4 l4 bfn _ HR3.out hc3 HR4.out hc4 HFn.out).mono ?_
  rintro e w2 ⟨rfl, hb⟩
  replace HR3 := Lib.hid (Kd.C_below HR3.out hb)
  replace HR4 := Lib.hid (Kd.C_below HR4.out hb)
  replace HQ3 := Lib.hid (Kd.C_below HQ3.out hb)
  replace HQ4 := Lib.hid (Kd.C_below HQ4.out hb)
  replace HB := Lib.hid (below_step HB.out hb)
  replace BN := Lib.hid (blk_below BN.out hb)
  replace BM := Lib.hid (blk_below BM.out hb)
  clear hb
  cases bfn with
  | false =>
    have l_BN : w.heap.size < w2.heap.size := blk_lt BN.out
    have q_BN_0 : w2.cell? ⟨w.heap.size, 0, none⟩ = some (.int .i64 x0) := (blk_cell BN.out 0).trans rfl
    have q_BN_1 : w2.cell? ⟨w.heap.size, 1, none⟩ = some (.int .i64 x1) := (blk_cell BN.out 1).trans rfl
    have q_BN_2 : w2.cell? ⟨w.heap.size, 2, none⟩ = some (.int .i64 x2) := (blk_cell BN.out 2).trans rfl
    have q_BN_3 : w2.cell? ⟨w.heap.size, 3, none⟩ = some (.slice A3 l3.length c3) := (blk_cell BN.out 3).trans rfl
    have q_BN_4 : w2.cell? ⟨w.heap.size, 4, none⟩ = some (.slice A4 l4.length c4) := (blk_cell BN.out 4).trans rfl
    have l_BM : w.heap.size + 1 < w2.heap.size := blk_lt BM.out
    have q_BM_0 : w2.cell? ⟨w.heap.size + 1, 0, none⟩ = some (.int .i64 y0) := (blk_cell BM.out 0).trans rfl
    have q_BM_1 : w2.cell? ⟨w.heap.size + 1, 1, none⟩ = some (.int .i64 y1) := (blk_cell BM.out 1).trans rfl
    have q_BM_2 : w2.cell? ⟨w.heap.size + 1, 2, none⟩ = some (.int .i64 y2) := (blk_cell BM.out 2).trans rfl
    have q_BM_3 : w2.cell? ⟨w.heap.size + 1, 3, none⟩ = some (.slice F3 m3.length f3) := (blk_cell BM.out 3).trans rfl
    have q_BM_4 : w2.cell? ⟨w.heap.size + 1, 4, none⟩ = some (.slice F4 m4.length f4) := (blk_cell BM.out 4).trans rfl
    go_wp2_with fail
    clear l_BN q_BN_0 q_BN_1 q_BN_2 q_BN_3 q_BN_4 l_BM q_BM_0 q_BM_1 q_BM_2 q_BM_3 q_BM_4
    refine (capnplaw11_awake.calls true _ rfl).mono ?_
    rintro e w3 ⟨rfl, hb⟩
    replace HR3 := Lib.hid (Kd.C_below HR3.out hb)
    replace HR4 := Lib.hid (Kd.C_below HR4.out hb)
    replace HQ3 := Lib.hid (Kd.C_below HQ3.out hb)
    replace HQ4 := Lib.hid (Kd.C_below HQ4.out hb)
    replace HB := Lib.hid (below_step HB.out hb)
    replace BN := Lib.hid (blk_below BN.out hb)
    replace BM := Lib.hid (blk_below BM.out hb)
    clear hb
    have l_BN : w.heap.size < w3.heap.size := blk_lt BN.out
    have q_BN_0 : w3.cell? ⟨w.heap.size, 0, none⟩ = some (.int .i64 x0) := (blk_cell BN.out 0).trans rfl
    have q_BN_1 : w3.cell? ⟨w.heap.size, 1, none⟩ = some (.int .i64 x1) := (blk_cell BN.out 1).trans rfl
    have q_BN_2 : w3.cell? ⟨w.heap.size, 2, none⟩ = some (.int .i64 x2) := (blk_cell BN.out 2).trans rfl
    have q_BN_3 : w3.cell? ⟨w.heap.size, 3, none⟩ = some (.slice A3 l3.length c3) := (blk_cell BN.out 3).trans rfl
    have q_BN_4 : w3.cell? ⟨w.heap.size, 4, none⟩ = some (.slice A4 l4.length c4) := (blk_cell BN.out 4).trans rfl
    have l_BM : w.heap.size + 1 < w3.heap.size := blk_lt BM.out
    have q_BM_0 : w3.cell? ⟨w.heap.size + 1, 0, none⟩ = some (.int .i64 y0) := (blk_cell BM.out 0).trans rfl
    have q_BM_1 : w3.cell? ⟨w.heap.size + 1, 1, none⟩ = some (.int .i64 y1) := (blk_cell BM.out 1).trans rfl
    have q_BM_2 : w3.cell? ⟨w.heap.size + 1, 2, none⟩ = some (.int .i64 y2) := (blk_cell BM.out 2).trans rfl
    have q_BM_3 : w3.cell? ⟨w.heap.size + 1, 3, none⟩ = some (.slice F3 m3.length f3) := (blk_cell BM.out 3).trans rfl
    have q_BM_4 : w3.cell? ⟨w.heap.size + 1, 4, none⟩ = some (.slice F4 m4.length f4) := (blk_cell BM.out 4).trans rfl
    go_wp2
    go_ret
    exact ⟨rfl, HB.out⟩
  | true =>
    have l_BN : w.heap.size < w2.heap.size := blk_lt BN.out
    have q_BN_0 : w2.cell? ⟨w.heap.size, 0, none⟩ = some (.int .i64 x0) := (blk_cell BN.out 0).trans rfl
    have q_BN_1 : w2.cell? ⟨w.heap.size, 1, none⟩ = some (.int .i64 x1) := (blk_cell BN.out 1).trans rfl
    have q_BN_2 : w2.cell? ⟨w.heap.size, 2, none⟩ = some (.int .i64 x2) := (blk_cell BN.out 2).trans rfl
    have q_BN_3 : w2.cell? ⟨w.heap.size, 3, none⟩ = some (.slice A3 l3.length c3) := (blk_cell BN.out 3).trans rfl
    have q_BN_4 : w2.cell? ⟨w.heap.size, 4, none⟩ = some (.slice A4 l4.length c4) := (blk_cell BN.out 4).trans rfl
    have l_BM : w.heap.size + 1 < w2.heap.size := blk_lt BM.out
    have q_BM_0 : w2.cell? ⟨w.heap.size + 1, 0, none⟩ = some (.int .i64 y0) := (blk_cell BM.out 0).trans rfl
    have q_BM_1 : w2.cell? ⟨w.heap.size + 1, 1, none⟩ = some (.int .i64 y1) := (blk_cell BM.out 1).trans rfl
    have q_BM_2 : w2.cell? ⟨w.heap.size + 1, 2, none⟩ = some (.int .i64 y2) := (blk_cell BM.out 2).trans rfl
    have q_BM_3 : w2.cell? ⟨w.heap.size + 1, 3, none⟩ = some (.slice F3 m3.length f3) := (blk_cell BM.out 3).trans rfl
    have q_BM_4 : w2.cell? ⟨w.heap.size + 1, 4, none⟩ = some (.slice F4 m4.length f4) := (blk_cell BM.out 4).trans rfl
    go_wp2_with fail
    clear l_BN q_BN_0 q_BN_1 q_BN_2 q_BN_3 q_BN_4 l_BM q_BM_0 q_BM_1 q_BM_2 q_BM_3 q_BM_4
    refine (capnpref10_Valid.calls kvn x0 x1 x2 A3 c3 l3 A4 c4 l4 bvn _ HR3.out hc3 HR4.out hc4 HVn.out).mono ?_
    rintro e w3 ⟨rfl, hb⟩
    replace HR3 := Lib.hid (Kd.C_below HR3.out hb)
    replace HR4 := Lib.hid (Kd.C_below HR4.out hb)
    replace HQ3 := Lib.hid (Kd.C_below HQ3.out hb)
    replace HQ4 := Lib.hid (Kd.C_below HQ4.out hb)
    replace HB := Lib.hid (below_step HB.out hb)
    replace BN := Lib.hid (blk_below BN.out hb)
    replace BM := Lib.hid (blk_below BM.out hb)
    clear hb
    cases bvn with
    | false =>
      have l_BN : w.heap.size < w3.heap.size := blk_lt BN.out
      have q_BN_0 : w3.cell? ⟨w.heap.size, 0, none⟩ = some (.int .i64 x0) := (blk_cell BN.out 0).trans rfl
      have q_BN_1 : w3.cell? ⟨w.heap.size, 1, none⟩ = some (.int .i64 x1) := (blk_cell BN.out 1).trans rfl
      have q_BN_2 : w3.cell? ⟨w.heap.size, 2, none⟩ = some (.int .i64 x2) := (blk_cell BN.out 2).trans rfl
      have q_BN_3 : w3.cell? ⟨w.heap.size, 3, none⟩ = some (.slice A3 l3.length c3) := (blk_cell BN.out 3).trans rfl
      have q_BN_4 : w3.cell? ⟨w.heap.size, 4, none⟩ = some (.slice A4 l4.length c4) := (blk_cell BN.out 4).trans rfl
      have l_BM : w.heap.size + 1 < w3.heap.size := blk_lt BM.out
      have q_BM_0 : w3.cell? ⟨w.heap.size + 1, 0, none⟩ = some (.int .i64 y0) := (blk_cell BM.out 0).trans rfl
      have q_BM_1 : w3.cell? ⟨w.heap.size + 1, 1, none⟩ = some (.int .i64 y1) := (blk_cell BM.out 1).trans rfl
      have q_BM_2 : w3.cell? ⟨w.heap.size + 1, 2, none⟩ = some (.int .i64 y2) := (blk_cell BM.out 2).trans rfl
      have q_BM_3 : w3.cell? ⟨w.heap.size + 1, 3, none⟩ = some (.slice F3 m3.length f3) := (blk_cell BM.out 3).trans rfl
      have q_BM_4 : w3.cell? ⟨w.heap.size + 1, 4, none⟩ = some (.slice F4 m4.length f4) := (blk_cell BM.out 4).trans rfl
      go_wp2_with fail
      clear l_BN q_BN_0 q_BN_1 q_BN_2 q_BN_3 q_BN_4 l_BM q_BM_0 q_BM_1 q_BM_2 q_BM_3 q_BM_4
      refine (capnplaw11_awake.calls true _ rfl).mono ?_
      rintro e w4 ⟨rfl, hb⟩
      replace HR3 := Lib.hid (Kd.C_below HR3.out hb)
      replace HR4 := Lib.hid (Kd.C_below HR4.out hb)
      replace HQ3 := Lib.hid (Kd.C_below HQ3.out hb)
      replace HQ4 := Lib.hid (Kd.C_below HQ4.out hb)
      replace HB := Lib.hid (below_step HB.out hb)
      replace BN := Lib.hid (blk_below BN.out hb)
      replace BM := Lib.hid (blk_below BM.out hb)
      clear hb
      have l_BN : w.heap.size < w4.heap.size := blk_lt BN.out
      have q_BN_0 : w4.cell? ⟨w.heap.size, 0, none⟩ = some (.int .i64 x0) := (blk_cell BN.out 0).trans rfl
      have q_BN_1 : w4.cell? ⟨w.heap.size, 1, none⟩ = some (.int .i64 x1) := (blk_cell BN.out 1).trans rfl
      have q_BN_2 : w4.cell? ⟨w.heap.size, 2, none⟩ = some (.int .i64 x2) := (blk_cell BN.out 2).trans rfl
      have q_BN_3 : w4.cell? ⟨w.heap.size, 3, none⟩ = some (.slice A3 l3.length c3) := (blk_cell BN.out 3).trans rfl
      have q_BN_4 : w4.cell? ⟨w.heap.size, 4, none⟩ = some (.slice A4 l4.length c4) := (blk_cell BN.out 4).trans rfl
      have l_BM : w.heap.size + 1 < w4.heap.size := blk_lt BM.out
      have q_BM_0 : w4.cell? ⟨w.heap.size + 1, 0, none⟩ = some (.int .i64 y0) := (blk_cell BM.out 0).trans rfl
      have q_BM_1 : w4.cell? ⟨w.heap.size + 1, 1, none⟩ = some (.int .i64 y1) := (blk_cell BM.out 1).trans rfl
      have q_BM_2 : w4.cell? ⟨w.heap.size + 1, 2, none⟩ = some (.int .i64 y2) := (blk_cell BM.out 2).trans rfl
      have q_BM_3 : w4.cell? ⟨w.heap.size + 1, 3, none⟩ = some (.slice F3 m3.length f3) := (blk_cell BM.out 3).trans rfl
      have q_BM_4 : w4.cell? ⟨w.heap.size + 1, 4, none⟩ = some (.slice F4 m4.length f4) := (blk_cell BM.out 4).trans rfl
      go_wp2
      go_ret
      exact ⟨rfl, HB.out⟩
    | true =>
      have l_BN : w.heap.size < w3.heap.size := blk_lt BN.out
      have q_BN_0 : w3.cell? ⟨w.heap.size, 0, none⟩ = some (.int .i64 x0) := (blk_cell BN.out 0).trans rfl
      have q_BN_1 : w3.cell? ⟨w.heap.size, 1, none⟩ = some (.int .i64 x1) := (blk_cell BN.out 1).trans rfl
      have q_BN_2 : w3.cell? ⟨w.heap.size, 2, none⟩ = some (.int .i64 x2) := (blk_cell BN.out 2).trans rfl
      have q_BN_3 : w3.cell? ⟨w.heap.size, 3, none⟩ = some (.slice A3 l3.length c3) := (blk_cell BN.out 3).trans rfl
      have q_BN_4 : w3.cell? ⟨w.heap.size, 4, none⟩ = some (.slice A4 l4.length c4) := (blk_cell BN.out 4).trans rfl
      have l_BM : w.heap.size + 1 < w3.heap.size := blk_lt BM.out
      have q_BM_0 : w3.cell? ⟨w.heap.size + 1, 0, none⟩ = some (.int .i64 y0) := (blk_cell BM.out 0).trans rfl
      have q_BM_1 : w3.cell? ⟨w.heap.size + 1, 1, none⟩ = some (.int .i64 y1) := (blk_cell BM.out 1).trans rfl
      have q_BM_2 : w3.cell? ⟨w.heap.size + 1, 2, none⟩ = some (.int .i64 y2) := (blk_cell BM.out 2).trans rfl
      have q_BM_3 : w3.cell? ⟨w.heap.size + 1, 3, none⟩ = some (.slice F3 m3.length f3) := (blk_cell BM.out 3).trans rfl
      have q_BM_4 : w3.cell? ⟨w.heap.size + 1, 4, none⟩ = some (.slice F4 m4.length f4) := (blk_cell BM.out 4).trans rfl
      go_wp2_with fail
      clear l_BN q_BN_0 q_BN_1 q_BN_2 q_BN_3 q_BN_4 l_BM q_BM_0 q_BM_1 q_BM_2 q_BM_3 q_BM_4
      refine (capnpref10_Few.calls kfm y0 y1 y2 F3 f3 m3 F4 f4 m4 bfm _ HQ3.out hd3 HQ4.out hd4 HFm.out).mono ?_
      rintro e w4 ⟨rfl, hb⟩
      replace HR3 := Lib.hid (Kd.C_below HR3.out hb)
      replace HR4 := Lib.hid (Kd.C_below HR4.out hb)
      replace HQ3 := Lib.hid (Kd.C_below HQ3.out hb)
      replace HQ4 := Lib.hid (Kd.C_below HQ4.out hb)
      replace HB := Lib.hid (below_step HB.out hb)
      replace BN := Lib.hid (blk_below BN.out hb)
      replace BM := Lib.hid (blk_below BM.out hb)
      clear hb
      cases bfm with
      | false =>
        have l_BN : w.heap.size < w4.heap.size := blk_lt BN.out
        have q_BN_0 : w4.cell? ⟨w.heap.size, 0, none⟩ = some (.int .i64 x0) := (blk_cell BN.out 0).trans rfl
        have q_BN_1 : w4.cell? ⟨w.heap.size, 1, none⟩ = some (.int .i64 x1) := (blk_cell BN.out 1).trans rfl
        have q_BN_2 : w4.cell? ⟨w.heap.size, 2, none⟩ = some (.int .i64 x2) := (blk_cell BN.out 2).trans rfl
        have q_BN_3 : w4.cell? ⟨w.heap.size, 3, none⟩ = some (.slice A3 l3.length c3) := (blk_cell BN.out 3).trans rfl
        have q_BN_4 : w4.cell? ⟨w.heap.size, 4, none⟩ = some (.slice A4 l4.length c4) := (blk_cell BN.out 4).trans rfl
        have l_BM : w.heap.size + 1 < w4.heap.size := blk_lt BM.out
        have q_BM_0 : w4.cell? ⟨w.heap.size + 1, 0, none⟩ = some (.int .i64 y0) := (blk_cell BM.out 0).trans rfl
        have q_BM_1 : w4.cell? ⟨w.heap.size + 1, 1, none⟩ = some (.int .i64 y1) := (blk_cell BM.out 1).trans rfl
        have q_BM_2 : w4.cell? ⟨w.heap.size + 1, 2, none⟩ = some (.int .i64 y2) := (blk_cell BM.out 2).trans rfl
        have q_BM_3 : w4.cell? ⟨w.heap.size + 1, 3, none⟩ = some (.slice F3 m3.length f3) := (blk_cell BM.out 3).trans rfl
        have q_BM_4 : w4.cell? ⟨w.heap.size + 1, 4, none⟩ = some (.slice F4 m4.length f4) := (blk_cell BM.out 4).trans rfl
        go_wp2_with fail
        clear l_BN q_BN_0 q_BN_1 q_BN_2 q_BN_3 q_BN_4 l_BM q_BM_0 q_BM_1 q_BM_2 q_BM_3 q_BM_4
        refine (capnplaw11_awake.calls true _ rfl).mono ?_
        rintro e w5 ⟨rfl, hb⟩
        replace HR3 := Lib.hid (Kd.C_below HR3.out hb)
        replace HR4 := Lib.hid (Kd.C_below HR4.out hb)
        replace HQ3 := Lib.hid (Kd.C_below HQ3.out hb)
        replace HQ4 := Lib.hid (Kd.C_below HQ4.out hb)
        replace HB := Lib.hid (below_step HB.out hb)
        replace BN := Lib.hid (blk_below BN.out hb)
        replace BM := Lib.hid (blk_below BM.out hb)
        clear hb
        have l_BN : w.heap.size < w5.heap.size := blk_lt BN.out
        have q_BN_0 : w5.cell? ⟨w.heap.size, 0, none⟩ = some (.int .i64 x0) := (blk_cell BN.out 0).trans rfl
        have q_BN_1 : w5.cell? ⟨w.heap.size, 1, none⟩ = some (.int .i64 x1) := (blk_cell BN.out 1).trans rfl
        have q_BN_2 : w5.cell? ⟨w.heap.size, 2, none⟩ = some (.int .i64 x2) := (blk_cell BN.out 2).trans rfl
        have q_BN_3 : w5.cell? ⟨w.heap.size, 3, none⟩ = some (.slice A3 l3.length c3) := (blk_cell BN.out 3).trans rfl
        have q_BN_4 : w5.cell? ⟨w.heap.size, 4, none⟩ = some (.slice A4 l4.length c4) := (blk_cell BN.out 4).trans rfl
        have l_BM : w.heap.size + 1 < w5.heap.size := blk_lt BM.out
        have q_BM_0 : w5.cell? ⟨w.heap.size + 1, 0, none⟩ = some (.int .i64 y0) := (blk_cell BM.out 0).trans rfl
        have q_BM_1 : w5.cell? ⟨w.heap.size + 1, 1, none⟩ = some (.int .i64 y1) := (blk_cell BM.out 1).trans rfl
        have q_BM_2 : w5.cell? ⟨w.heap.size + 1, 2, none⟩ = some (.int .i64 y2) := (blk_cell BM.out 2).trans rfl
        have q_BM_3 : w5.cell? ⟨w.heap.size + 1, 3, none⟩ = some (.slice F3 m3.length f3) := (blk_cell BM.out 3).trans rfl
        have q_BM_4 : w5.cell? ⟨w.heap.size + 1, 4, none⟩ = some (.slice F4 m4.length f4) := (blk_cell BM.out 4).trans rfl
        go_wp2
        go_ret
        exact ⟨rfl, HB.out⟩
      | true =>
        have l_BN : w.heap.size < w4.heap.size := blk_lt BN.out
        have q_BN_0 : w4.cell? ⟨w.heap.size, 0, none⟩ = some (.int .i64 x0) := (blk_cell BN.out 0).trans rfl
        have q_BN_1 : w4.cell? ⟨w.heap.size, 1, none⟩ = some (.int .i64 x1) := (blk_cell BN.out 1).trans rfl
        have q_BN_2 : w4.cell? ⟨w.heap.size, 2, none⟩ = some (.int .i64 x2) := (blk_cell BN.out 2).trans rfl
        have q_BN_3 : w4.cell? ⟨w.heap.size, 3, none⟩ = some (.slice A3 l3.length c3) := (blk_cell BN.out 3).trans rfl
        have q_BN_4 : w4.cell? ⟨w.heap.size, 4, none⟩ = some (.slice A4 l4.length c4) := (blk_cell BN.out 4).trans rfl
        have l_BM : w.heap.size + 1 < w4.heap.size := blk_lt BM.out
        have q_BM_0 : w4.cell? ⟨w.heap.size + 1, 0, none⟩ = some (.int .i64 y0) := (blk_cell BM.out 0).trans rfl
        have q_BM_1 : w4.cell? ⟨w.heap.size + 1, 1, none⟩ = some (.int .i64 y1) := (blk_cell BM.out 1).trans rfl
        have q_BM_2 : w4.cell? ⟨w.heap.size + 1, 2, none⟩ = some (.int .i64 y2) := (blk_cell BM.out 2).trans rfl
        have q_BM_3 : w4.cell? ⟨w.heap.size + 1, 3, none⟩ = some (.slice F3 m3.length f3) := (blk_cell BM.out 3).trans rfl
        have q_BM_4 : w4.cell? ⟨w.heap.size + 1, 4, none⟩ = some (.slice F4 m4.length f4) := (blk_cell BM.out 4).trans rfl
        go_wp2_with fail
        clear l_BN q_BN_0 q_BN_1 q_BN_2 q_BN_3 q_BN_4 l_BM q_BM_0 q_BM_1 q_BM_2 q_BM_3 q_BM_4
        refine (capnpref10_Valid.calls kvm y0 y1 y2 F3 f3 m3 F4 f4 m4 bvm _ HQ3.out hd3 HQ4.out hd4 HVm.out).mono ?_
        rintro e w5 ⟨rfl, hb⟩
        replace HR3 := Lib.hid (Kd.C_below HR3.out hb)
        replace HR4 := Lib.hid (Kd.C_below HR4.out hb)
        replace HQ3 := Lib.hid (Kd.C_below HQ3.out hb)
        replace HQ4 := Lib.hid (Kd.C_below HQ4.out hb)
        replace HB := Lib.hid (below_step HB.out hb)
        replace BN := Lib.hid (blk_below BN.out hb)
        replace BM := Lib.hid (blk_below BM.out hb)
        clear hb
        cases bvm with
        | false =>
          have l_BN : w.heap.size < w5.heap.size := blk_lt BN.out
          have q_BN_0 : w5.cell? ⟨w.heap.size, 0, none⟩ = some (.int .i64 x0) := (blk_cell BN.out 0).trans rfl
          have q_BN_1 : w5.cell? ⟨w.heap.size, 1, none⟩ = some (.int .i64 x1) := (blk_cell BN.out 1).trans rfl
          have q_BN_2 : w5.cell? ⟨w.heap.size, 2, none⟩ = some (.int .i64 x2) := (blk_cell BN.out 2).trans rfl
          have q_BN_3 : w5.cell? ⟨w.heap.size, 3, none⟩ = some (.slice A3 l3.length c3) := (blk_cell BN.out 3).trans rfl
          have q_BN_4 : w5.cell? ⟨w.heap.size, 4, none⟩ = some (.slice A4 l4.length c4) := (blk_cell BN.out 4).trans rfl
          have l_BM : w.heap.size + 1 < w5.heap.size := blk_lt BM.out
          have q_BM_0 : w5.cell? ⟨w.heap.size + 1, 0, none⟩ = some (.int .i64 y0) := (blk_cell BM.out 0).trans rfl
          have q_BM_1 : w5.cell? ⟨w.heap.size + 1, 1, none⟩ = some (.int .i64 y1) := (blk_cell BM.out 1).trans rfl
          have q_BM_2 : w5.cell? ⟨w.heap.size + 1, 2, none⟩ = some (.int .i64 y2) := (blk_cell BM.out 2).trans rfl
          have q_BM_3 : w5.cell? ⟨w.heap.size + 1, 3, none⟩ = some (.slice F3 m3.length f3) := (blk_cell BM.out 3).trans rfl
          have q_BM_4 : w5.cell? ⟨w.heap.size + 1, 4, none⟩ = some (.slice F4 m4.length f4) := (blk_cell BM.out 4).trans rfl
          go_wp2_with fail
          clear l_BN q_BN_0 q_BN_1 q_BN_2 q_BN_3 q_BN_4 l_BM q_BM_0 q_BM_1 q_BM_2 q_BM_3 q_BM_4
          refine (capnplaw11_awake.calls true _ rfl).mono ?_
          rintro e w6 ⟨rfl, hb⟩
          replace HR3 := Lib.hid (Kd.C_below HR3.out hb)
          replace HR4 := Lib.hid (Kd.C_below HR4.out hb)
          replace HQ3 := Lib.hid (Kd.C_below HQ3.out hb)
          replace HQ4 := Lib.hid (Kd.C_below HQ4.out hb)
          replace HB := Lib.hid (below_step HB.out hb)
          replace BN := Lib.hid (blk_below BN.out hb)
          replace BM := Lib.hid (blk_below BM.out hb)
          clear hb
          have l_BN : w.heap.size < w6.heap.size := blk_lt BN.out
          have q_BN_0 : w6.cell? ⟨w.heap.size, 0, none⟩ = some (.int .i64 x0) := (blk_cell BN.out 0).trans rfl
          have q_BN_1 : w6.cell? ⟨w.heap.size, 1, none⟩ = some (.int .i64 x1) := (blk_cell BN.out 1).trans rfl
          have q_BN_2 : w6.cell? ⟨w.heap.size, 2, none⟩ = some (.int .i64 x2) := (blk_cell BN.out 2).trans rfl
          have q_BN_3 : w6.cell? ⟨w.heap.size, 3, none⟩ = some (.slice A3 l3.length c3) := (blk_cell BN.out 3).trans rfl
          have q_BN_4 : w6.cell? ⟨w.heap.size, 4, none⟩ = some (.slice A4 l4.length c4) := (blk_cell BN.out 4).trans rfl
          have l_BM : w.heap.size + 1 < w6.heap.size := blk_lt BM.out
          have q_BM_0 : w6.cell? ⟨w.heap.size + 1, 0, none⟩ = some (.int .i64 y0) := (blk_cell BM.out 0).trans rfl
          have q_BM_1 : w6.cell? ⟨w.heap.size + 1, 1, none⟩ = some (.int .i64 y1) := (blk_cell BM.out 1).trans rfl
          have q_BM_2 : w6.cell? ⟨w.heap.size + 1, 2, none⟩ = some (.int .i64 y2) := (blk_cell BM.out 2).trans rfl
          have q_BM_3 : w6.cell? ⟨w.heap.size + 1, 3, none⟩ = some (.slice F3 m3.length f3) := (blk_cell BM.out 3).trans rfl
          have q_BM_4 : w6.cell? ⟨w.heap.size + 1, 4, none⟩ = some (.slice F4 m4.length f4) := (blk_cell BM.out 4).trans rfl
          go_wp2
          go_ret
          exact ⟨rfl, HB.out⟩
        | true =>
          rcases Decidable.em (¬ x0 = 1) with k0 | k0
          · have hb_ : (x0 != 1) = true := by rw [bne_iff_ne]; exact k0
            have l_BN : w.heap.size < w5.heap.size := blk_lt BN.out
            have q_BN_0 : w5.cell? ⟨w.heap.size, 0, none⟩ = some (.int .i64 x0) := (blk_cell BN.out 0).trans rfl
            have q_BN_1 : w5.cell? ⟨w.heap.size, 1, none⟩ = some (.int .i64 x1) := (blk_cell BN.out 1).trans rfl
            have q_BN_2 : w5.cell? ⟨w.heap.size, 2, none⟩ = some (.int .i64 x2) := (blk_cell BN.out 2).trans rfl
            have q_BN_3 : w5.cell? ⟨w.heap.size, 3, none⟩ = some (.slice A3 l3.length c3) := (blk_cell BN.out 3).trans rfl
            have q_BN_4 : w5.cell? ⟨w.heap.size, 4, none⟩ = some (.slice A4 l4.length c4) := (blk_cell BN.out 4).trans rfl
            have l_BM : w.heap.size + 1 < w5.heap.size := blk_lt BM.out
            have q_BM_0 : w5.cell? ⟨w.heap.size + 1, 0, none⟩ = some (.int .i64 y0) := (blk_cell BM.out 0).trans rfl
            have q_BM_1 : w5.cell? ⟨w.heap.size + 1, 1, none⟩ = some (.int .i64 y1) := (blk_cell BM.out 1).trans rfl
            have q_BM_2 : w5.cell? ⟨w.heap.size + 1, 2, none⟩ = some (.int .i64 y2) := (blk_cell BM.out 2).trans rfl
            have q_BM_3 : w5.cell? ⟨w.heap.size + 1, 3, none⟩ = some (.slice F3 m3.length f3) := (blk_cell BM.out 3).trans rfl
            have q_BM_4 : w5.cell? ⟨w.heap.size + 1, 4, none⟩ = some (.slice F4 m4.length f4) := (blk_cell BM.out 4).trans rfl
            go_wp2_with fail
            clear l_BN q_BN_0 q_BN_1 q_BN_2 q_BN_3 q_BN_4 l_BM q_BM_0 q_BM_1 q_BM_2 q_BM_3 q_BM_4
            refine (capnplaw11_awake.calls true _ rfl).mono ?_
            rintro e w6 ⟨rfl, hb⟩
            replace HR3 := Lib.hid (Kd.C_below HR3.out hb)
            replace HR4 := Lib.hid (Kd.C_below HR4.out hb)
            replace HQ3 := Lib.hid (Kd.C_below HQ3.out hb)
            replace HQ4 := Lib.hid (Kd.C_below HQ4.out hb)
            replace HB := Lib.hid (below_step HB.out hb)
            replace BN := Lib.hid (blk_below BN.out hb)
            replace BM := Lib.hid (blk_below BM.out hb)
            clear hb
            have l_BN : w.heap.size < w6.heap.size := blk_lt BN.out
            have q_BN_0 : w6.cell? ⟨w.heap.size, 0, none⟩ = some (.int .i64 x0) := (blk_cell BN.out 0).trans rfl
            have q_BN_1 : w6.cell? ⟨w.heap.size, 1, none⟩ = some (.int .i64 x1) := (blk_cell BN.out 1).trans rfl
            have q_BN_2 : w6.cell? ⟨w.heap.size, 2, none⟩ = some (.int .i64 x2) := (blk_cell BN.out 2).trans rfl
            have q_BN_3 : w6.cell? ⟨w.heap.size, 3, none⟩ = some (.slice A3 l3.length c3) := (blk_cell BN.out 3).trans rfl
            have q_BN_4 : w6.cell? ⟨w.heap.size, 4, none⟩ = some (.slice A4 l4.length c4) := (blk_cell BN.out 4).trans rfl
            have l_BM : w.heap.size + 1 < w6.heap.size := blk_lt BM.out
            have q_BM_0 : w6.cell? ⟨w.heap.size + 1, 0, none⟩ = some (.int .i64 y0) := (blk_cell BM.out 0).trans rfl
            have q_BM_1 : w6.cell? ⟨w.heap.size + 1, 1, none⟩ = some (.int .i64 y1) := (blk_cell BM.out 1).trans rfl
            have q_BM_2 : w6.cell? ⟨w.heap.size + 1, 2, none⟩ = some (.int .i64 y2) := (blk_cell BM.out 2).trans rfl
            have q_BM_3 : w6.cell? ⟨w.heap.size + 1, 3, none⟩ = some (.slice F3 m3.length f3) := (blk_cell BM.out 3).trans rfl
            have q_BM_4 : w6.cell? ⟨w.heap.size + 1, 4, none⟩ = some (.slice F4 m4.length f4) := (blk_cell BM.out 4).trans rfl
            go_wp2
            go_ret
            exact ⟨rfl, HB.out⟩
          · obtain rfl := Decidable.of_not_not k0
            clear k0 HFn HVn HFm HVm efn efm
            have hw := valid_words ⟨1, x1, x2, l3, l4⟩ evn.out
            have hwm := valid_words ⟨y0, y1, y2, m3, m4⟩ evm.out
            have h8 : l3.length % 8 = 0 := hw.here rfl
            have hse := tsize_eq ⟨1, x1, x2, l3, l4⟩
            simp only at hse
            have hll := length_tsizes l4
            have hwk : ∀ x ∈ l4 ++ List.replicate kn z25, wordsT x := fun x hx => by
              rcases List.mem_append.1 hx with hx | hx
              · exact hw.kids x hx
              · rw [List.eq_of_mem_replicate hx]; exact words_z
            have hwX : wordsT ⟨1, x1, x2, l3 ++ List.replicate (8 * kw) 0, l4 ++ List.replicate kn z25⟩ := words_mk (fun _ => by show (l3 ++ List.replicate (8 * kw) 0).length % 8 = 0; simp; omega) hwk
            have hwY : wordsT ⟨1, x1, x2, l3 ++ List.replicate (8 * kw) 0, (l4 ++ List.replicate kn z25) ++ [⟨y0, y1, y2, m3, m4⟩]⟩ := words_mk (fun _ => by show (l3 ++ List.replicate (8 * kw) 0).length % 8 = 0; simp; omega) (fun x hx => by
              rcases List.mem_append.1 hx with hx | hx
              · exact hwk x hx
              · rw [List.mem_singleton.1 hx]; exact hwm)
            have hwZ : wordsT ⟨1, x1, x2, (l3 ++ List.replicate (8 * kw) 0) ++ eightB bb, l4 ++ List.replicate kn z25⟩ := words_mk (fun _ => by show ((l3 ++ List.replicate (8 * kw) 0) ++ eightB bb).length % 8 = 0; simp [eightB]; omega) hwk
            have hwL : wordsT ⟨2, 7, 1, [], [⟨1, x1, x2, l3 ++ List.replicate (8 * kw) 0, l4 ++ List.replicate kn z25⟩]⟩ := words_mk (fun h => by cases h) (fun x hx => by rw [List.mem_singleton.1 hx]; exact hwX)
            have sX : tsize ⟨1, x1, x2, l3 ++ List.replicate (8 * kw) 0, l4 ++ List.replicate kn z25⟩ ≤ 2000100 := by rw [tsize_eq, tsizes_append, sizes_nulls]; simp only [List.length_append, List.length_replicate]; omega
            have sY : tsize ⟨1, x1, x2, l3 ++ List.replicate (8 * kw) 0, (l4 ++ List.replicate kn z25) ++ [⟨y0, y1, y2, m3, m4⟩]⟩ ≤ 4000100 := by rw [tsize_eq, tsizes_append, tsizes_append, sizes_nulls]; simp only [List.length_append, List.length_replicate, tsizes]; omega
            have sZ : tsize ⟨1, x1, x2, (l3 ++ List.replicate (8 * kw) 0) ++ eightB bb, l4 ++ List.replicate kn z25⟩ ≤ 2000200 := by rw [tsize_eq, tsizes_append, sizes_nulls]; simp only [List.length_append, List.length_replicate, eightB, List.length_cons, List.length_nil]; omega
            have sL : tsize ⟨2, 7, 1, [], [⟨1, x1, x2, l3 ++ List.replicate (8 * kw) 0, l4 ++ List.replicate kn z25⟩]⟩ ≤ 2000200 := by rw [tsize_eq]; simp only [tsizes, List.length_nil]; omega
            obtain ⟨kN, hkN⟩ := (ttrim_ev ⟨1, x1, x2, l3, l4⟩ hw (by omega)).rounds
            obtain ⟨kX, hkX⟩ := (ttrim_ev ⟨1, x1, x2, l3 ++ List.replicate (8 * kw) 0, l4 ++ List.replicate kn z25⟩ hwX (by omega)).rounds
            obtain ⟨kY, hkY⟩ := (ttrim_ev ⟨1, x1, x2, l3 ++ List.replicate (8 * kw) 0, (l4 ++ List.replicate kn z25) ++ [⟨y0, y1, y2, m3, m4⟩]⟩ hwY (by omega)).rounds
            obtain ⟨kZ, hkZ⟩ := (ttrim_ev ⟨1, x1, x2, (l3 ++ List.replicate (8 * kw) 0) ++ eightB bb, l4 ++ List.replicate kn z25⟩ hwZ (by omega)).rounds
            obtain ⟨kL, hkL⟩ := (ttrim_ev ⟨2, 7, 1, [], [⟨1, x1, x2, l3 ++ List.replicate (8 * kw) 0, l4 ++ List.replicate kn z25⟩]⟩ hwL (by omega)).rounds
            have eX : ttrim ⟨1, x1, x2, l3 ++ List.replicate (8 * kw) 0, l4 ++ List.replicate kn z25⟩ = ttrim ⟨1, x1, x2, l3, l4⟩ := ext_same ⟨1, x1, x2, l3, l4⟩ rfl h8 (8 * kw) kn
            have eL := ext_list ⟨1, x1, x2, l3 ++ List.replicate (8 * kw) 0, l4 ++ List.replicate kn z25⟩
            have qY := ext_more ⟨1, x1, x2, l3, l4⟩ ⟨y0, y1, y2, m3, m4⟩ rfl h8 (8 * kw) kn
            have qZ := ext_word ⟨1, x1, x2, l3, l4⟩ bb rfl h8 kw kn
            have sTX := size_trim ⟨1, x1, x2, l3 ++ List.replicate (8 * kw) 0, l4 ++ List.replicate kn z25⟩
            have sTY := size_trim ⟨1, x1, x2, l3 ++ List.replicate (8 * kw) 0, (l4 ++ List.replicate kn z25) ++ [⟨y0, y1, y2, m3, m4⟩]⟩
            have sTZ := size_trim ⟨1, x1, x2, (l3 ++ List.replicate (8 * kw) 0) ++ eightB bb, l4 ++ List.replicate kn z25⟩
            obtain ⟨eq1, hq1⟩ := (equal_ev (ttrim ⟨1, x1, x2, l3 ++ List.replicate (8 * kw) 0, l4 ++ List.replicate kn z25⟩) (ttrim ⟨1, x1, x2, l3, l4⟩) (by omega)).rounds
            obtain ⟨eq3, hq3⟩ := (equal_ev (ttrim ⟨1, x1, x2, l3 ++ List.replicate (8 * kw) 0, (l4 ++ List.replicate kn z25) ++ [⟨y0, y1, y2, m3, m4⟩]⟩) (ttrim ⟨1, x1, x2, l3, l4⟩) (by omega)).rounds
            obtain ⟨eq4, hq4⟩ := (equal_ev (ttrim ⟨1, x1, x2, (l3 ++ List.replicate (8 * kw) 0) ++ eightB bb, l4 ++ List.replicate kn z25⟩) (ttrim ⟨1, x1, x2, l3, l4⟩) (by omega)).rounds
            rw [qY] at hq3
            rw [qZ] at hq4
            rw [eqT_true eX] at hq1
            rw [eL] at hkL
            rw [eX] at hkX hkL hq1
            obtain ⟨T, hT⟩ : ∃ T, ttrim ⟨1, x1, x2, l3, l4⟩ = T := ⟨_, rfl⟩
            rw [hT] at hkN hkX hkL hq1 hq3 hq4
            obtain ⟨TY, hTY⟩ : ∃ T, ttrim ⟨1, x1, x2, l3 ++ List.replicate (8 * kw) 0, (l4 ++ List.replicate kn z25) ++ [⟨y0, y1, y2, m3, m4⟩]⟩ = T := ⟨_, rfl⟩
            rw [hTY] at hkY hq3
            obtain ⟨TZ, hTZ⟩ : ∃ T, ttrim ⟨1, x1, x2, (l3 ++ List.replicate (8 * kw) 0) ++ eightB bb, l4 ++ List.replicate kn z25⟩ = T := ⟨_, rfl⟩
            rw [hTZ] at hkZ hq4
            obtain ⟨X3, hX3⟩ : ∃ X, l3 ++ List.replicate (8 * kw) 0 = X := ⟨_, rfl⟩
            obtain ⟨X4, hX4⟩ : ∃ X, l4 ++ List.replicate kn z25 = X := ⟨_, rfl⟩
            rw [hX3] at hkX hkY hkZ hkL
            rw [hX4] at hkX hkY hkZ hkL
            have HX3d := Lib.hid hX3; have HX4d := Lib.hid hX4
            have hXl3 : X3.length ≤ 2000032 := by rw [← hX3]; simp; omega
            have hXl4 : X4.length ≤ 2000004 := by rw [← hX4]; simp; omega
            have HXL := Lib.hid (And.intro hXl3 hXl4)
            obtain ⟨Z3, hZ3⟩ : ∃ X, X3 ++ eightB bb = X := ⟨_, rfl⟩
            rw [hZ3] at hkZ
            have HZ3d := Lib.hid hZ3
            clear hX3 hX4 hXl3 hXl4 hZ3
            have HKN_ := Lib.hid hkN; have HKX := Lib.hid hkX; have HKY := Lib.hid hkY; have HKZ := Lib.hid hkZ; have HKL := Lib.hid hkL; have HQ1 := Lib.hid hq1; have HQ3_ := Lib.hid hq3; have HQ4_ := Lib.hid hq4
            have hlen : l4.length ≤ 2000000 ∧ l3.length ≤ 2000000 := by constructor <;> omega
            have HLN := Lib.hid hlen
            clear hw hwm h8 hse hll hwk hwX hwY hwZ hwL sX sY sZ sL hkN hkX hkY hkZ hkL eX eL qY qZ sTX sTY sTZ hq1 hq3 hq4 hT hTY hTZ hok hs hok2 hs2 evn evm hlen
            have l_BN : w.heap.size < w5.heap.size := blk_lt BN.out
            have q_BN_0 : w5.cell? ⟨w.heap.size, 0, none⟩ = some (.int .i64 1) := (blk_cell BN.out 0).trans rfl
            have q_BN_1 : w5.cell? ⟨w.heap.size, 1, none⟩ = some (.int .i64 x1) := (blk_cell BN.out 1).trans rfl
            have q_BN_2 : w5.cell? ⟨w.heap.size, 2, none⟩ = some (.int .i64 x2) := (blk_cell BN.out 2).trans rfl
            have q_BN_3 : w5.cell? ⟨w.heap.size, 3, none⟩ = some (.slice A3 l3.length c3) := (blk_cell BN.out 3).trans rfl
            have q_BN_4 : w5.cell? ⟨w.heap.size, 4, none⟩ = some (.slice A4 l4.length c4) := (blk_cell BN.out 4).trans rfl
            have l_BM : w.heap.size + 1 < w5.heap.size := blk_lt BM.out
            have q_BM_0 : w5.cell? ⟨w.heap.size + 1, 0, none⟩ = some (.int .i64 y0) := (blk_cell BM.out 0).trans rfl
            have q_BM_1 : w5.cell? ⟨w.heap.size + 1, 1, none⟩ = some (.int .i64 y1) := (blk_cell BM.out 1).trans rfl
            have q_BM_2 : w5.cell? ⟨w.heap.size + 1, 2, none⟩ = some (.int .i64 y2) := (blk_cell BM.out 2).trans rfl
            have q_BM_3 : w5.cell? ⟨w.heap.size + 1, 3, none⟩ = some (.slice F3 m3.length f3) := (blk_cell BM.out 3).trans rfl
            have q_BM_4 : w5.cell? ⟨w.heap.size + 1, 4, none⟩ = some (.slice F4 m4.length f4) := (blk_cell BM.out 4).trans rfl
            go_upto_region 4 with fail
            clear l_BN q_BN_0 q_BN_1 q_BN_2 q_BN_3 q_BN_4 l_BM q_BM_0 q_BM_1 q_BM_2 q_BM_3 q_BM_4
            refine wp_at (fun W1 hW => ?_)
            have hBX : W1.heap[w5.heap.size]? = some (.cells #[.int .i64 1, .int .i64 x1, .int .i64 x2, .slice A3 l3.length c3, .slice A4 l4.length c4] 25 (0, 0)) := by rw [hW]; exact heap_alloc_new _ _
            have hb : Below w5.heap.size w5 W1 := by rw [hW]; exact (Below.refl _ _).alloc (Nat.le_refl _) _
            clear hW
            have BX1 := Lib.hid hBX
            clear hBX
            have HU := Lib.hid hb
            clear hb
            go_upto_region 5 with (first | ((with_reducible refine gate_dst (N := 46) rfl ?_); refine Kd.R_lit (Kd.int .u8) (w0 := W1) W1.heap.size 5 ?hg46 (N := 46) ?hd46 (xs := []) (inner := []) (ok := fun _ => True) (okp := fun _ => False) ?hr46 ?hp46 (fun _ h => h.elim) trivial (Below.refl _ _) (Nat.le_refl _) (by simp) ?_; (case hd46 => rfl); (case hg46 => rfl); (case hr46 => first | (go_simp; done) | (go_simp; rfl)); (case hp46 => exact (Reps.none _ _)); intro v46 e1 ho hb hg hnew; have H46 := Lib.hid ho; have hE1 := hb; have hF1 := HU.out.trans (hb.mono HU.out.size); have qn3 : e1.cell? ⟨w.heap.size, 3, none⟩ = some (.slice A3 l3.length c3) := (blk_cell (blk_below BN.out (HU.out.trans (hb.mono HU.out.size))) 3).trans rfl; have ln : w.heap.size < e1.heap.size := blk_lt (blk_below BN.out (HU.out.trans (hb.mono HU.out.size))); clear ho hb hg hnew) | ((with_reducible refine gate_builtin (b := .append) (xs := #[.tmp 46, .tmp 48]) rfl ?_); at_builtin; refine Kd.R_append_rows (Kd.int .u8) (Rr := Kd.K (Kd.int .u8) W1) (w0 := W1) W1.heap.size rfl (.tmp 46) (.tmp 48) 22 5 (.int .u8 0) 1 rfl Try.underlying22 info5 rfl (by decide) (by omega) v46 [] l3 _ _ _ (fun _ => True) (fun _ => False) rfl rfl ?aO49 ?aR49 (fun _ _ h => h) (fun _ h => h.elim) (fun _ _ => trivial) ?aB49 ?aS49 ?aL49 ?_; (case aO49 => exact H46.out); (case aR49 => exact Kd.C_below HR3.out hF1); (case aB49 => exact hE1); (case aS49 => exact hE1.size); (case aL49 => have := HLN.out; simp only [List.length_nil]; omega); intro v49 e2 ho hb hg hat; have H49 := Lib.hid ho; have hE2 := hb; clear ho hb hg hat) | ((with_reducible refine gate_builtin (b := .append) (xs := #[.tmp 49, .tmp 53]) rfl ?_); at_builtin; refine Kd.R_append_zeros (Kd.int .u8) (w0 := W1) W1.heap.size rfl (.tmp 49) (.tmp 53) 22 3 5 (.int .u8 0) 1 rfl Try.underlying22 Try.underlying3 info5 rfl (by decide) (by omega) v49 ([] ++ l3) 0 ((8 * (a1 % 5)) : Int) (fun _ => True) rfl rfl rfl (fun _ _ => trivial) ?aO54 (by omega) ?aB54 ?aS54 ?aL54 ?_; (case aO54 => exact H49.out); (case aB54 => exact hE2); (case aS54 => exact hE2.size); (case aL54 => have := HLN.out; simp only [List.nil_append]; omega); intro v54 e3 ho hb hg hat; rw [show (8 * (a1 % 5)).toNat = 8 * kw by have := HKW.out; omega, List.nil_append, HX3d.out] at ho; obtain ⟨A54, c54, rfl, hl54, _⟩ := Kd.R_reads ho; have H54 := Lib.hid ho; have hE3 := hb; have HX := Lib.hid (blk_below BX1.out hb); have qx : e3.cell? ⟨w5.heap.size, 3, none⟩ = some (.slice A3 l3.length c3) := (blk_cell HX.out 3).trans rfl; have fx := blk_frozen HX.out 3; have lx := blk_lt HX.out; clear ho hb hg hat))
            obtain ⟨e4, h4⟩ : ∃ W, W = e3.setCell ⟨w5.heap.size, 3, none⟩ (.slice A54 X3.length c54) := ⟨_, rfl⟩
            rw [← h4]
            have hU4 : Below w5.heap.size w5 e4 := by rw [h4]; exact (HU.out.trans (hE3.mono HU.out.size)).setCell (p := ⟨w5.heap.size, 3, none⟩) (Nat.le_refl _) _
            have hBX : e4.heap[w5.heap.size]? = some (.cells #[.int .i64 1, .int .i64 x1, .int .i64 x2, .slice A54 X3.length c54, .slice A4 l4.length c4] 25 (0, 0)) := by rw [h4]; exact blk_put HX.out 3 _ rfl
            have hR54 := ints_far (u := .slice A54 X3.length c54) H54.out (p := ⟨w5.heap.size, 3, none⟩) (blk_lt BX1.out)
            rw [← h4] at hR54
            have HR54 := Lib.hid hR54
            have hgx := Lib.hid (blk_lt BX1.out)
            have BX4 := Lib.hid hBX; have HU4 := Lib.hid hU4
            clear hBX hU4 hR54 h4 H46 hE1 hF1 qn3 ln H49 hE2 H54 hE3 HX qx fx lx BX1 HU
            obtain ⟨rowsN, hRK, hRC⟩ := rows_of_C HR4.out
            have HRK := Lib.hid hRK; have HRC := Lib.hid hRC
            have hrl : rowsN.length = l4.length := hRK.1
            clear hRK hRC
            go_upto_region 6 with (first | ((with_reducible refine gate_dst (N := 56) rfl ?_); refine Kd.R_lit (Kd.raw 5) (w0 := e4) e4.heap.size 25 ?hg56 (N := 56) ?hd56 (xs := []) (inner := []) (ok := fun _ => True) (okp := fun _ => False) ?hr56 ?hp56 (fun _ h => h.elim) trivial (Below.refl _ _) (Nat.le_refl _) (by simp) ?_; (case hd56 => rfl); (case hg56 => rfl); (case hr56 => first | (go_simp; done) | (go_simp; rfl)); (case hp56 => exact (Reps.none _ _)); intro v56 e5 ho hb hg hnew; have H56 := Lib.hid ho; have hE5 := hb; have hF5 := HU4.out.trans (hb.mono HU4.out.size); have qn4 : e5.cell? ⟨w.heap.size, 4, none⟩ = some (.slice A4 l4.length c4) := (blk_cell (blk_below BN.out (HU4.out.trans (hb.mono HU4.out.size))) 4).trans rfl; have ln : w.heap.size < e5.heap.size := blk_lt (blk_below BN.out (HU4.out.trans (hb.mono HU4.out.size))); clear ho hb hg hnew) | ((with_reducible refine gate_builtin (b := .append) (xs := #[.tmp 56, .tmp 58]) rfl ?_); at_builtin; refine Kd.R_append_rows (Kd.raw 5) (Rr := Kd.K (Kd.raw 5) w5) (w0 := e4) e4.heap.size rfl (.tmp 56) (.tmp 58) 23 25 (.agg #[(.int .i64 0), (.int .i64 0), (.int .i64 0), (.slice none 0 0), (.slice none 0 0)]) 72 rfl Try.underlying23 info25 rfl (by decide) (by omega) v56 [] rowsN _ _ _ (fun _ => True) (fun _ => False) rfl rfl ?aO59 ?aR59 (fun _ _ h => h) (fun _ h => h.elim) (fun _ _ => trivial) ?aB59 ?aS59 ?aL59 ?_; (case aO59 => exact H56.out); (case aR59 => exact Kd.C_below HRC.out hF5); (case aB59 => exact hE5); (case aS59 => exact hE5.size); (case aL59 => have := HLN.out; simp only [List.length_nil]; omega); intro v59 e6 ho hb hg hat; have H59 := Lib.hid ho; have hE6 := hb; clear ho hb hg hat) | ((with_reducible refine gate_builtin (b := .append) (xs := #[.tmp 59, .tmp 62]) rfl ?_); at_builtin; refine Kd.R_append_zeros (Kd.raw 5) (w0 := e4) e4.heap.size rfl (.tmp 59) (.tmp 62) 23 3 25 (.agg #[(.int .i64 0), (.int .i64 0), (.int .i64 0), (.slice none 0 0), (.slice none 0 0)]) 72 rfl Try.underlying23 Try.underlying3 info25 rfl (by decide) (by omega) v59 ([] ++ rowsN) [.int .i64 0, .int .i64 0, .int .i64 0, .slice none 0 0, .slice none 0 0] ((a2 % 5) : Int) (fun _ => True) rfl rfl (raw_M rfl (by simp [Value.oneCell'])) (fun _ _ => trivial) ?aO63 (by omega) ?aB63 ?aS63 ?aL63 ?_; (case aO63 => exact H59.out); (case aB63 => exact hE6); (case aS63 => exact hE6.size); (case aL63 => have := HLN.out; simp only [List.nil_append]; omega); intro v63 e7 ho hb hg hat; rw [show (a2 % 5).toNat = kn by have := HKN.out; omega, List.nil_append] at ho; obtain ⟨A63, c63, rfl, hl63, _⟩ := Kd.R_reads ho; have H63 := Lib.hid ho; have hE7 := hb; have HX := Lib.hid (blk_below BX4.out hb); have qx : e7.cell? ⟨w5.heap.size, 4, none⟩ = some (.slice A4 l4.length c4) := (blk_cell HX.out 4).trans rfl; have fx := blk_frozen HX.out 4; have lx := blk_lt HX.out; clear ho hb hg hat))
            have hXX : l4.length + kn = X4.length := by rw [← HX4d.out]; simp
            rw [hXX]
            clear hXX
            obtain ⟨e8, h8⟩ : ∃ W, W = e7.setCell ⟨w5.heap.size, 4, none⟩ (.slice A63 X4.length c63) := ⟨_, rfl⟩
            rw [← h8]
            have hU8 : Below w5.heap.size w5 e8 := by rw [h8]; exact (HU4.out.trans (hE7.mono HU4.out.size)).setCell (p := ⟨w5.heap.size, 4, none⟩) (Nat.le_refl _) _
            have hBX : e8.heap[w5.heap.size]? = some (.cells #[.int .i64 1, .int .i64 x1, .int .i64 x2, .slice A54 X3.length c54, .slice A63 X4.length c63] 25 (0, 0)) := by rw [h8]; exact blk_put HX.out 4 _ rfl
            have hR63 := raw_far (u := .slice A63 X4.length c63) H63.out (p := ⟨w5.heap.size, 4, none⟩) (blk_lt BX4.out)
            rw [← h8] at hR63
            have hK0 : k25.K e8 z25 [.int .i64 0, .int .i64 0, .int .i64 0, .slice none 0 0, .slice none 0 0] := K_nil e8 0 0 0
            have hrk := (HRK.out.below hU8).append (RowsK.replicate hK0 kn)
            rw [HX4d.out] at hrk
            have hX4C := C_of_rows (Kd.R_reads' hR63).2.2 hrk
            rw [hrk.1] at hX4C
            have hlen63 : X4.length ≤ c63 := by have := hl63; rw [hrk.1] at this; exact this
            have hlen54 : X3.length ≤ c54 := hl54
            have hR8 := ints_far (u := .slice A63 X4.length c63) (Kd.R_below HR54.out hE7) (p := ⟨w5.heap.size, 4, none⟩) hgx.out
            rw [← h8] at hR8
            have hX3C := (Kd.R_reads' hR8).2.2
            clear hrk hK0 hR63 hR8 h8 HR54 HRK HRC hgx BX4 HU4 H56 hE5 hF5 qn4 ln H59 hE6 H63 hE7 HX qx fx lx hl63 hl54
            replace HR3 := Lib.hid (Kd.C_below HR3.out hU8)
            replace HR4 := Lib.hid (Kd.C_below HR4.out hU8)
            replace HQ3 := Lib.hid (Kd.C_below HQ3.out hU8)
            replace HQ4 := Lib.hid (Kd.C_below HQ4.out hU8)
            replace HB := Lib.hid (below_step HB.out hU8)
            replace BN := Lib.hid (blk_below BN.out hU8)
            replace BM := Lib.hid (blk_below BM.out hU8)
            have HX3 := Lib.hid (hX3C)
            have HX4 := Lib.hid (hX4C)
            have BX := Lib.hid hBX
            clear hBX hX3C hX4C hU8 HKW HKN
            have l_BN : w.heap.size < e8.heap.size := blk_lt BN.out
            have q_BN_0 : e8.cell? ⟨w.heap.size, 0, none⟩ = some (.int .i64 1) := (blk_cell BN.out 0).trans rfl
            have q_BN_1 : e8.cell? ⟨w.heap.size, 1, none⟩ = some (.int .i64 x1) := (blk_cell BN.out 1).trans rfl
            have q_BN_2 : e8.cell? ⟨w.heap.size, 2, none⟩ = some (.int .i64 x2) := (blk_cell BN.out 2).trans rfl
            have q_BN_3 : e8.cell? ⟨w.heap.size, 3, none⟩ = some (.slice A3 l3.length c3) := (blk_cell BN.out 3).trans rfl
            have q_BN_4 : e8.cell? ⟨w.heap.size, 4, none⟩ = some (.slice A4 l4.length c4) := (blk_cell BN.out 4).trans rfl
            have l_BM : w.heap.size + 1 < e8.heap.size := blk_lt BM.out
            have q_BM_0 : e8.cell? ⟨w.heap.size + 1, 0, none⟩ = some (.int .i64 y0) := (blk_cell BM.out 0).trans rfl
            have q_BM_1 : e8.cell? ⟨w.heap.size + 1, 1, none⟩ = some (.int .i64 y1) := (blk_cell BM.out 1).trans rfl
            have q_BM_2 : e8.cell? ⟨w.heap.size + 1, 2, none⟩ = some (.int .i64 y2) := (blk_cell BM.out 2).trans rfl
            have q_BM_3 : e8.cell? ⟨w.heap.size + 1, 3, none⟩ = some (.slice F3 m3.length f3) := (blk_cell BM.out 3).trans rfl
            have q_BM_4 : e8.cell? ⟨w.heap.size + 1, 4, none⟩ = some (.slice F4 m4.length f4) := (blk_cell BM.out 4).trans rfl
            have l_BX : w5.heap.size < e8.heap.size := blk_lt BX.out
            have q_BX_0 : e8.cell? ⟨w5.heap.size, 0, none⟩ = some (.int .i64 1) := (blk_cell BX.out 0).trans rfl
            have q_BX_1 : e8.cell? ⟨w5.heap.size, 1, none⟩ = some (.int .i64 x1) := (blk_cell BX.out 1).trans rfl
            have q_BX_2 : e8.cell? ⟨w5.heap.size, 2, none⟩ = some (.int .i64 x2) := (blk_cell BX.out 2).trans rfl
            have q_BX_3 : e8.cell? ⟨w5.heap.size, 3, none⟩ = some (.slice A54 X3.length c54) := (blk_cell BX.out 3).trans rfl
            have q_BX_4 : e8.cell? ⟨w5.heap.size, 4, none⟩ = some (.slice A63 X4.length c63) := (blk_cell BX.out 4).trans rfl
            go_wp2_with fail
            clear l_BN q_BN_0 q_BN_1 q_BN_2 q_BN_3 q_BN_4 l_BM q_BM_0 q_BM_1 q_BM_2 q_BM_3 q_BM_4 l_BX q_BX_0 q_BX_1 q_BX_2 q_BX_3 q_BX_4
            refine (trim_Trim.calls kN 1 x1 x2 (fun _ => True) A3 c3 l3 (fun _ => True) A4 c4 l4 _ _ _ _ _ _ (V_ints HR3.out hc3) (V_nodes HR4.out hc4) HKN_.out).mono ?_
            rintro e w6 ⟨v3, v4, rfl, hR3, hR4, hb⟩
            replace HR3 := Lib.hid (Kd.C_below HR3.out hb)
            replace HR4 := Lib.hid (Kd.C_below HR4.out hb)
            replace HQ3 := Lib.hid (Kd.C_below HQ3.out hb)
            replace HQ4 := Lib.hid (Kd.C_below HQ4.out hb)
            replace HB := Lib.hid (below_step HB.out hb)
            replace HX3 := Lib.hid (Kd.C_below HX3.out hb)
            replace HX4 := Lib.hid (Kd.C_below HX4.out hb)
            replace BN := Lib.hid (blk_below BN.out hb)
            replace BM := Lib.hid (blk_below BM.out hb)
            replace BX := Lib.hid (blk_below BX.out hb)
            clear hb
            obtain ⟨T3, t3, rfl, ht3, hT3⟩ := Kd.R_reads hR3
            obtain ⟨T4, t4, rfl, ht4, hT4⟩ := Kd.R_reads hR4
            clear hR3 hR4
            have HT3 := Lib.hid (hT3)
            have HT4 := Lib.hid (hT4)
            clear hT3 hT4
            have l_BN : w.heap.size < w6.heap.size := blk_lt BN.out
            have q_BN_0 : w6.cell? ⟨w.heap.size, 0, none⟩ = some (.int .i64 1) := (blk_cell BN.out 0).trans rfl
            have q_BN_1 : w6.cell? ⟨w.heap.size, 1, none⟩ = some (.int .i64 x1) := (blk_cell BN.out 1).trans rfl
            have q_BN_2 : w6.cell? ⟨w.heap.size, 2, none⟩ = some (.int .i64 x2) := (blk_cell BN.out 2).trans rfl
            have q_BN_3 : w6.cell? ⟨w.heap.size, 3, none⟩ = some (.slice A3 l3.length c3) := (blk_cell BN.out 3).trans rfl
            have q_BN_4 : w6.cell? ⟨w.heap.size, 4, none⟩ = some (.slice A4 l4.length c4) := (blk_cell BN.out 4).trans rfl
            have l_BM : w.heap.size + 1 < w6.heap.size := blk_lt BM.out
            have q_BM_0 : w6.cell? ⟨w.heap.size + 1, 0, none⟩ = some (.int .i64 y0) := (blk_cell BM.out 0).trans rfl
            have q_BM_1 : w6.cell? ⟨w.heap.size + 1, 1, none⟩ = some (.int .i64 y1) := (blk_cell BM.out 1).trans rfl
            have q_BM_2 : w6.cell? ⟨w.heap.size + 1, 2, none⟩ = some (.int .i64 y2) := (blk_cell BM.out 2).trans rfl
            have q_BM_3 : w6.cell? ⟨w.heap.size + 1, 3, none⟩ = some (.slice F3 m3.length f3) := (blk_cell BM.out 3).trans rfl
            have q_BM_4 : w6.cell? ⟨w.heap.size + 1, 4, none⟩ = some (.slice F4 m4.length f4) := (blk_cell BM.out 4).trans rfl
            have l_BX : w5.heap.size < w6.heap.size := blk_lt BX.out
            have q_BX_0 : w6.cell? ⟨w5.heap.size, 0, none⟩ = some (.int .i64 1) := (blk_cell BX.out 0).trans rfl
            have q_BX_1 : w6.cell? ⟨w5.heap.size, 1, none⟩ = some (.int .i64 x1) := (blk_cell BX.out 1).trans rfl
            have q_BX_2 : w6.cell? ⟨w5.heap.size, 2, none⟩ = some (.int .i64 x2) := (blk_cell BX.out 2).trans rfl
            have q_BX_3 : w6.cell? ⟨w5.heap.size, 3, none⟩ = some (.slice A54 X3.length c54) := (blk_cell BX.out 3).trans rfl
            have q_BX_4 : w6.cell? ⟨w5.heap.size, 4, none⟩ = some (.slice A63 X4.length c63) := (blk_cell BX.out 4).trans rfl
            go_wp2_with fail
            clear l_BN q_BN_0 q_BN_1 q_BN_2 q_BN_3 q_BN_4 l_BM q_BM_0 q_BM_1 q_BM_2 q_BM_3 q_BM_4 l_BX q_BX_0 q_BX_1 q_BX_2 q_BX_3 q_BX_4
            refine calls_at (fun W2 hW => ?_)
            have hb : Below w6.heap.size w6 W2 := by rw [hW]; repeat (first | exact Below.refl _ _ | refine Below.alloc ?_ (by first | exact Nat.le_refl _ | (simp <;> omega)) _)
            have nBT : W2.heap[w6.heap.size]? = some (.cells #[.int .i64 T.f0, .int .i64 T.f1, .int .i64 T.f2, .slice T3 T.f3.length t3, .slice T4 T.f4.length t4] 25 (0, 0)) := by rw [hW]; repeat (first | exact heap_alloc_new _ _ | exact blk_new _ _ _ (by simp) | refine blk_alloc ?_ _)
            have nBS : W2.heap[w6.heap.size + 1]? = some (.cells #[.int .i64 1, .int .i64 x1, .int .i64 x2, .slice A54 X3.length c54, .slice A63 X4.length c63] 25 (0, 0)) := by rw [hW]; repeat (first | exact heap_alloc_new _ _ | exact blk_new _ _ _ (by simp) | refine blk_alloc ?_ _)
            have nBL : W2.heap[w6.heap.size + 1 + 1]? = some (.cells #[.int .i64 2, .int .i64 7, .int .i64 1, .slice none 0 0, .slice (some ⟨w6.heap.size + 1, 0, none⟩) 1 1] 25 (0, 0)) := by rw [hW]; repeat (first | exact heap_alloc_new _ _ | exact blk_new _ _ _ (by simp) | refine blk_alloc ?_ _)
            clear hW
            replace HR3 := Lib.hid (Kd.C_below HR3.out hb)
            replace HR4 := Lib.hid (Kd.C_below HR4.out hb)
            replace HQ3 := Lib.hid (Kd.C_below HQ3.out hb)
            replace HQ4 := Lib.hid (Kd.C_below HQ4.out hb)
            replace HB := Lib.hid (below_step HB.out hb)
            replace HX3 := Lib.hid (Kd.C_below HX3.out hb)
            replace HX4 := Lib.hid (Kd.C_below HX4.out hb)
            replace HT3 := Lib.hid (Kd.C_below HT3.out hb)
            replace HT4 := Lib.hid (Kd.C_below HT4.out hb)
            replace BN := Lib.hid (blk_below BN.out hb)
            replace BM := Lib.hid (blk_below BM.out hb)
            replace BX := Lib.hid (blk_below BX.out hb)
            clear hb
            have BT := Lib.hid nBT
            clear nBT
            have BS := Lib.hid nBS
            clear nBS
            have BL := Lib.hid nBL
            clear nBL
            have hS1 : k25.C W2 (some ⟨w6.heap.size + 1, 0, none⟩) 1 [⟨1, x1, x2, X3, X4⟩] := C_node1 (k25_mk W2 ⟨1, x1, x2, X3, X4⟩ hlen54 HX3.out hlen63 HX4.out) BS.out
            have HS1 := Lib.hid (hS1)
            clear hS1
            refine (trim_Trim.calls kL 2 7 1 (fun _ => True) none 0 [] (fun _ => True) _ 1 [⟨1, x1, x2, X3, X4⟩] _ _ _ _ _ W2 (V_ints (xs := []) (c := 0) (Kd.C_nil _ _) (Nat.le_refl _)) (V_nodes (xs := [⟨1, x1, x2, X3, X4⟩]) (c := 1) HS1.out (Nat.le_refl _)) HKL.out).mono ?_
            rintro e w7 ⟨v3, v4, rfl, hR3, hR4, hb⟩
            replace HR3 := Lib.hid (Kd.C_below HR3.out hb)
            replace HR4 := Lib.hid (Kd.C_below HR4.out hb)
            replace HQ3 := Lib.hid (Kd.C_below HQ3.out hb)
            replace HQ4 := Lib.hid (Kd.C_below HQ4.out hb)
            replace HB := Lib.hid (below_step HB.out hb)
            replace HX3 := Lib.hid (Kd.C_below HX3.out hb)
            replace HX4 := Lib.hid (Kd.C_below HX4.out hb)
            replace HT3 := Lib.hid (Kd.C_below HT3.out hb)
            replace HT4 := Lib.hid (Kd.C_below HT4.out hb)
            replace HS1 := Lib.hid (Kd.C_below HS1.out hb)
            replace BN := Lib.hid (blk_below BN.out hb)
            replace BM := Lib.hid (blk_below BM.out hb)
            replace BX := Lib.hid (blk_below BX.out hb)
            replace BT := Lib.hid (blk_below BT.out hb)
            replace BS := Lib.hid (blk_below BS.out hb)
            replace BL := Lib.hid (blk_below BL.out hb)
            clear hb HS1 BS
            obtain ⟨J3, j3, rfl, hj3, hJ3⟩ := Kd.R_reads hR3
            obtain ⟨J4, j4, rfl, hj4, hJ4⟩ := Kd.R_reads hR4
            clear hR3 hR4 hJ3
            have hJ4' : k25.C w7 J4 1 [T] := hJ4
            have HJ4 := Lib.hid (hJ4')
            clear hJ4 hJ4'
            have l_BN : w.heap.size < w7.heap.size := blk_lt BN.out
            have q_BN_0 : w7.cell? ⟨w.heap.size, 0, none⟩ = some (.int .i64 1) := (blk_cell BN.out 0).trans rfl
            have q_BN_1 : w7.cell? ⟨w.heap.size, 1, none⟩ = some (.int .i64 x1) := (blk_cell BN.out 1).trans rfl
            have q_BN_2 : w7.cell? ⟨w.heap.size, 2, none⟩ = some (.int .i64 x2) := (blk_cell BN.out 2).trans rfl
            have q_BN_3 : w7.cell? ⟨w.heap.size, 3, none⟩ = some (.slice A3 l3.length c3) := (blk_cell BN.out 3).trans rfl
            have q_BN_4 : w7.cell? ⟨w.heap.size, 4, none⟩ = some (.slice A4 l4.length c4) := (blk_cell BN.out 4).trans rfl
            have l_BM : w.heap.size + 1 < w7.heap.size := blk_lt BM.out
            have q_BM_0 : w7.cell? ⟨w.heap.size + 1, 0, none⟩ = some (.int .i64 y0) := (blk_cell BM.out 0).trans rfl
            have q_BM_1 : w7.cell? ⟨w.heap.size + 1, 1, none⟩ = some (.int .i64 y1) := (blk_cell BM.out 1).trans rfl
            have q_BM_2 : w7.cell? ⟨w.heap.size + 1, 2, none⟩ = some (.int .i64 y2) := (blk_cell BM.out 2).trans rfl
            have q_BM_3 : w7.cell? ⟨w.heap.size + 1, 3, none⟩ = some (.slice F3 m3.length f3) := (blk_cell BM.out 3).trans rfl
            have q_BM_4 : w7.cell? ⟨w.heap.size + 1, 4, none⟩ = some (.slice F4 m4.length f4) := (blk_cell BM.out 4).trans rfl
            have l_BX : w5.heap.size < w7.heap.size := blk_lt BX.out
            have q_BX_0 : w7.cell? ⟨w5.heap.size, 0, none⟩ = some (.int .i64 1) := (blk_cell BX.out 0).trans rfl
            have q_BX_1 : w7.cell? ⟨w5.heap.size, 1, none⟩ = some (.int .i64 x1) := (blk_cell BX.out 1).trans rfl
            have q_BX_2 : w7.cell? ⟨w5.heap.size, 2, none⟩ = some (.int .i64 x2) := (blk_cell BX.out 2).trans rfl
            have q_BX_3 : w7.cell? ⟨w5.heap.size, 3, none⟩ = some (.slice A54 X3.length c54) := (blk_cell BX.out 3).trans rfl
            have q_BX_4 : w7.cell? ⟨w5.heap.size, 4, none⟩ = some (.slice A63 X4.length c63) := (blk_cell BX.out 4).trans rfl
            have l_BT : w6.heap.size < w7.heap.size := blk_lt BT.out
            have q_BT_0 : w7.cell? ⟨w6.heap.size, 0, none⟩ = some (.int .i64 T.f0) := (blk_cell BT.out 0).trans rfl
            have q_BT_1 : w7.cell? ⟨w6.heap.size, 1, none⟩ = some (.int .i64 T.f1) := (blk_cell BT.out 1).trans rfl
            have q_BT_2 : w7.cell? ⟨w6.heap.size, 2, none⟩ = some (.int .i64 T.f2) := (blk_cell BT.out 2).trans rfl
            have q_BT_3 : w7.cell? ⟨w6.heap.size, 3, none⟩ = some (.slice T3 T.f3.length t3) := (blk_cell BT.out 3).trans rfl
            have q_BT_4 : w7.cell? ⟨w6.heap.size, 4, none⟩ = some (.slice T4 T.f4.length t4) := (blk_cell BT.out 4).trans rfl
            have l_BL : w6.heap.size + 1 + 1 < w7.heap.size := blk_lt BL.out
            have q_BL_0 : w7.cell? ⟨w6.heap.size + 1 + 1, 0, none⟩ = some (.int .i64 2) := (blk_cell BL.out 0).trans rfl
            have q_BL_1 : w7.cell? ⟨w6.heap.size + 1 + 1, 1, none⟩ = some (.int .i64 7) := (blk_cell BL.out 1).trans rfl
            have q_BL_2 : w7.cell? ⟨w6.heap.size + 1 + 1, 2, none⟩ = some (.int .i64 1) := (blk_cell BL.out 2).trans rfl
            have q_BL_3 : w7.cell? ⟨w6.heap.size + 1 + 1, 3, none⟩ = some (.slice none 0 0) := (blk_cell BL.out 3).trans rfl
            have q_BL_4 : w7.cell? ⟨w6.heap.size + 1 + 1, 4, none⟩ = some (.slice (some ⟨w6.heap.size + 1, 0, none⟩) 1 1) := (blk_cell BL.out 4).trans rfl
            go_upto_region 9 with fail
            clear l_BN q_BN_0 q_BN_1 q_BN_2 q_BN_3 q_BN_4 l_BM q_BM_0 q_BM_1 q_BM_2 q_BM_3 q_BM_4 l_BX q_BX_0 q_BX_1 q_BX_2 q_BX_3 q_BX_4 l_BT q_BT_0 q_BT_1 q_BT_2 q_BT_3 q_BT_4 l_BL q_BL_0 q_BL_1 q_BL_2 q_BL_3 q_BL_4
            refine wp_at (fun Wj hW => ?_)
            have hb : Below w7.heap.size w7 Wj := by rw [hW]; repeat (first | exact Below.refl _ _ | refine Below.alloc ?_ (by first | exact Nat.le_refl _ | (simp <;> omega)) _)
            have nBJ : Wj.heap[w7.heap.size]? = some (.cells #[.int .i64 2, .int .i64 7, .int .i64 1, .slice J3 0 j3, .slice J4 1 j4] 25 (0, 0)) := by rw [hW]; repeat (first | exact heap_alloc_new _ _ | exact blk_new _ _ _ (by simp) | refine blk_alloc ?_ _)
            clear hW
            replace HR3 := Lib.hid (Kd.C_below HR3.out hb)
            replace HR4 := Lib.hid (Kd.C_below HR4.out hb)
            replace HQ3 := Lib.hid (Kd.C_below HQ3.out hb)
            replace HQ4 := Lib.hid (Kd.C_below HQ4.out hb)
            replace HB := Lib.hid (below_step HB.out hb)
            replace HX3 := Lib.hid (Kd.C_below HX3.out hb)
            replace HX4 := Lib.hid (Kd.C_below HX4.out hb)
            replace HT3 := Lib.hid (Kd.C_below HT3.out hb)
            replace HT4 := Lib.hid (Kd.C_below HT4.out hb)
            replace HJ4 := Lib.hid (Kd.C_below HJ4.out hb)
            replace BN := Lib.hid (blk_below BN.out hb)
            replace BM := Lib.hid (blk_below BM.out hb)
            replace BX := Lib.hid (blk_below BX.out hb)
            replace BT := Lib.hid (blk_below BT.out hb)
            replace BL := Lib.hid (blk_below BL.out hb)
            clear hb
            have BJ := Lib.hid nBJ
            clear nBJ
            have l_BN : w.heap.size < Wj.heap.size := blk_lt BN.out
            have q_BN_0 : Wj.cell? ⟨w.heap.size, 0, none⟩ = some (.int .i64 1) := (blk_cell BN.out 0).trans rfl
            have q_BN_1 : Wj.cell? ⟨w.heap.size, 1, none⟩ = some (.int .i64 x1) := (blk_cell BN.out 1).trans rfl
            have q_BN_2 : Wj.cell? ⟨w.heap.size, 2, none⟩ = some (.int .i64 x2) := (blk_cell BN.out 2).trans rfl
            have q_BN_3 : Wj.cell? ⟨w.heap.size, 3, none⟩ = some (.slice A3 l3.length c3) := (blk_cell BN.out 3).trans rfl
            have q_BN_4 : Wj.cell? ⟨w.heap.size, 4, none⟩ = some (.slice A4 l4.length c4) := (blk_cell BN.out 4).trans rfl
            have l_BM : w.heap.size + 1 < Wj.heap.size := blk_lt BM.out
            have q_BM_0 : Wj.cell? ⟨w.heap.size + 1, 0, none⟩ = some (.int .i64 y0) := (blk_cell BM.out 0).trans rfl
            have q_BM_1 : Wj.cell? ⟨w.heap.size + 1, 1, none⟩ = some (.int .i64 y1) := (blk_cell BM.out 1).trans rfl
            have q_BM_2 : Wj.cell? ⟨w.heap.size + 1, 2, none⟩ = some (.int .i64 y2) := (blk_cell BM.out 2).trans rfl
            have q_BM_3 : Wj.cell? ⟨w.heap.size + 1, 3, none⟩ = some (.slice F3 m3.length f3) := (blk_cell BM.out 3).trans rfl
            have q_BM_4 : Wj.cell? ⟨w.heap.size + 1, 4, none⟩ = some (.slice F4 m4.length f4) := (blk_cell BM.out 4).trans rfl
            have l_BX : w5.heap.size < Wj.heap.size := blk_lt BX.out
            have q_BX_0 : Wj.cell? ⟨w5.heap.size, 0, none⟩ = some (.int .i64 1) := (blk_cell BX.out 0).trans rfl
            have q_BX_1 : Wj.cell? ⟨w5.heap.size, 1, none⟩ = some (.int .i64 x1) := (blk_cell BX.out 1).trans rfl
            have q_BX_2 : Wj.cell? ⟨w5.heap.size, 2, none⟩ = some (.int .i64 x2) := (blk_cell BX.out 2).trans rfl
            have q_BX_3 : Wj.cell? ⟨w5.heap.size, 3, none⟩ = some (.slice A54 X3.length c54) := (blk_cell BX.out 3).trans rfl
            have q_BX_4 : Wj.cell? ⟨w5.heap.size, 4, none⟩ = some (.slice A63 X4.length c63) := (blk_cell BX.out 4).trans rfl
            have l_BT : w6.heap.size < Wj.heap.size := blk_lt BT.out
            have q_BT_0 : Wj.cell? ⟨w6.heap.size, 0, none⟩ = some (.int .i64 T.f0) := (blk_cell BT.out 0).trans rfl
            have q_BT_1 : Wj.cell? ⟨w6.heap.size, 1, none⟩ = some (.int .i64 T.f1) := (blk_cell BT.out 1).trans rfl
            have q_BT_2 : Wj.cell? ⟨w6.heap.size, 2, none⟩ = some (.int .i64 T.f2) := (blk_cell BT.out 2).trans rfl
            have q_BT_3 : Wj.cell? ⟨w6.heap.size, 3, none⟩ = some (.slice T3 T.f3.length t3) := (blk_cell BT.out 3).trans rfl
            have q_BT_4 : Wj.cell? ⟨w6.heap.size, 4, none⟩ = some (.slice T4 T.f4.length t4) := (blk_cell BT.out 4).trans rfl
            have l_BL : w6.heap.size + 1 + 1 < Wj.heap.size := blk_lt BL.out
            have q_BL_0 : Wj.cell? ⟨w6.heap.size + 1 + 1, 0, none⟩ = some (.int .i64 2) := (blk_cell BL.out 0).trans rfl
            have q_BL_1 : Wj.cell? ⟨w6.heap.size + 1 + 1, 1, none⟩ = some (.int .i64 7) := (blk_cell BL.out 1).trans rfl
            have q_BL_2 : Wj.cell? ⟨w6.heap.size + 1 + 1, 2, none⟩ = some (.int .i64 1) := (blk_cell BL.out 2).trans rfl
            have q_BL_3 : Wj.cell? ⟨w6.heap.size + 1 + 1, 3, none⟩ = some (.slice none 0 0) := (blk_cell BL.out 3).trans rfl
            have q_BL_4 : Wj.cell? ⟨w6.heap.size + 1 + 1, 4, none⟩ = some (.slice (some ⟨w6.heap.size + 1, 0, none⟩) 1 1) := (blk_cell BL.out 4).trans rfl
            have l_BJ : w7.heap.size < Wj.heap.size := blk_lt BJ.out
            have q_BJ_0 : Wj.cell? ⟨w7.heap.size, 0, none⟩ = some (.int .i64 2) := (blk_cell BJ.out 0).trans rfl
            have q_BJ_1 : Wj.cell? ⟨w7.heap.size, 1, none⟩ = some (.int .i64 7) := (blk_cell BJ.out 1).trans rfl
            have q_BJ_2 : Wj.cell? ⟨w7.heap.size, 2, none⟩ = some (.int .i64 1) := (blk_cell BJ.out 2).trans rfl
            have q_BJ_3 : Wj.cell? ⟨w7.heap.size, 3, none⟩ = some (.slice J3 0 j3) := (blk_cell BJ.out 3).trans rfl
            have q_BJ_4 : Wj.cell? ⟨w7.heap.size, 4, none⟩ = some (.slice J4 1 j4) := (blk_cell BJ.out 4).trans rfl
            go_wp2_with fail
            clear l_BN q_BN_0 q_BN_1 q_BN_2 q_BN_3 q_BN_4 l_BM q_BM_0 q_BM_1 q_BM_2 q_BM_3 q_BM_4 l_BX q_BX_0 q_BX_1 q_BX_2 q_BX_3 q_BX_4 l_BT q_BT_0 q_BT_1 q_BT_2 q_BT_3 q_BT_4 l_BL q_BL_0 q_BL_1 q_BL_2 q_BL_3 q_BL_4 l_BJ q_BJ_0 q_BJ_1 q_BJ_2 q_BJ_3 q_BJ_4
            have HL4 := Lib.hid HXL.out.2
            refine wp_at (fun W1 hW => ?_)
            have BT0 : Hid (W1.heap[Wj.heap.size]? = some (.cells #[.int .i64 1, .int .i64 x1, .int .i64 x2, .slice A54 X3.length c54, .slice A63 X4.length c63] 25 (0, 0))) := Lib.hid (by rw [hW]; exact heap_alloc_new _ _)
            have hb81 : Below Wj.heap.size Wj W1 := by rw [hW]; exact (Below.refl _ _).alloc (Nat.le_refl _) _
            clear hW
            have q_s4 : W1.cell? ⟨w5.heap.size, 4, none⟩ = some (.slice A63 X4.length c63) := (blk_cell (blk_below BX.out hb81) 4).trans rfl
            have q_m0 : W1.cell? ⟨w.heap.size + 1, 0, none⟩ = some (.int .i64 y0) := (blk_cell (blk_below BM.out hb81) 0).trans rfl
            have q_m1 : W1.cell? ⟨w.heap.size + 1, 1, none⟩ = some (.int .i64 y1) := (blk_cell (blk_below BM.out hb81) 1).trans rfl
            have q_m2 : W1.cell? ⟨w.heap.size + 1, 2, none⟩ = some (.int .i64 y2) := (blk_cell (blk_below BM.out hb81) 2).trans rfl
            have q_m3 : W1.cell? ⟨w.heap.size + 1, 3, none⟩ = some (.slice F3 m3.length f3) := (blk_cell (blk_below BM.out hb81) 3).trans rfl
            have q_m4 : W1.cell? ⟨w.heap.size + 1, 4, none⟩ = some (.slice F4 m4.length f4) := (blk_cell (blk_below BM.out hb81) 4).trans rfl
            obtain ⟨rowsN, hRK, hRC⟩ := rows_of_C HX4.out
            have hrl : rowsN.length = X4.length := hRK.1
            refine start_ (n := 9) (S := fun w' => w'.cell? ⟨w5.heap.size, 4, none⟩ = some (.slice A63 X4.length c63) ∧ w'.cell? ⟨w.heap.size + 1, 0, none⟩ = some (.int .i64 y0) ∧ w'.cell? ⟨w.heap.size + 1, 1, none⟩ = some (.int .i64 y1) ∧ w'.cell? ⟨w.heap.size + 1, 2, none⟩ = some (.int .i64 y2) ∧ w'.cell? ⟨w.heap.size + 1, 3, none⟩ = some (.slice F3 m3.length f3) ∧ w'.cell? ⟨w.heap.size + 1, 4, none⟩ = some (.slice F4 m4.length f4)) (ds := [8]) #[false, false, false, false, false, false, false, false, false] (by kernel_rfl) rfl rfl ⟨q_s4, q_m0, q_m1, q_m2, q_m3, q_m4⟩ (fun hHeld => ?_)
            obtain ⟨wd, hwd⟩ : ∃ W, W = W1.drew := ⟨_, rfl⟩
            rw [← hwd] at hHeld ⊢
            have hb1d : Below W1.heap.size W1 wd := by rw [hwd]; exact (Below.refl _ _).drew
            clear hwd q_s4 q_m0 q_m1 q_m2 q_m3 q_m4
            have hb8d : Below Wj.heap.size Wj wd := hb81.trans (hb1d.mono hb81.size)
            have BT_ := Lib.hid (blk_below BT0.out hb1d)
            have HC4 := Lib.hid (Kd.C_below hRC hb8d)
            have HRK := Lib.hid hRK
            clear hRC hRK BT0
            have hHd := hHeld
            obtain ⟨qd_s4, qd_m0, qd_m1, qd_m2, qd_m3, qd_m4⟩ := hHd
            have l_src : w5.heap.size < wd.heap.size := blk_lt (blk_below BX.out hb8d)
            have l_more : w.heap.size + 1 < wd.heap.size := blk_lt (blk_below BM.out hb8d)
            refine pure_ (i := 1) (N := some 74) (v := ?_) (a' := ?_) #[false, true, false, false, false, false, false, false, false] rfl rfl (by kernel_rfl) (fun _ _ _ h => h) (Or.inl ⟨by rfl, ?_⟩) ?_ ?_
            rotate_left
            · intro w'
              go_simp
              with_reducible rfl
            rotate_left
            · simp only [Act.put, List.setIfInBounds_toArray, List.set_cons_zero, List.set_cons_succ, i64_w, i32_w]
              rfl
            refine take_ (i := 2) (N := some 75) (v := ?_) (a' := ?_) #[false, true, true, false, false, false, false, false, false] rfl rfl (by kernel_rfl) (fun _ _ _ h => h) (Or.inl ⟨by rfl, ?_⟩) hHeld ?_ ?_
            rotate_left
            · rintro w' ⟨s0, s1, s2, s3, s4, s5⟩
              go_simp
              with_reducible rfl
            rotate_left
            · simp only [Act.put, List.setIfInBounds_toArray, List.set_cons_zero, List.set_cons_succ, i64_w, i32_w]
              rfl
            refine take_ (i := 4) (N := some 77) (v := ?_) (a' := ?_) #[false, true, true, false, true, false, false, false, false] rfl rfl (by kernel_rfl) (fun _ _ _ h => h) (Or.inl ⟨by rfl, ?_⟩) hHeld ?_ ?_
            rotate_left
            · rintro w' ⟨s0, s1, s2, s3, s4, s5⟩
              go_simp
              with_reducible rfl
            rotate_left
            · simp only [Act.put, List.setIfInBounds_toArray, List.set_cons_zero, List.set_cons_succ, i64_w, i32_w]
              rfl
            refine join_ (σ := Value × Value × Value) 3 #[true, true, true, true, true, true, false, false, false] (fun s_ => [(73, s_.1), (76, s_.2.1), (78, s_.2.2)]) (fun s_ w' => (w'.cell? ⟨w5.heap.size, 4, none⟩ = some (.slice A63 X4.length c63) ∧ w'.cell? ⟨w.heap.size + 1, 0, none⟩ = some (.int .i64 y0) ∧ w'.cell? ⟨w.heap.size + 1, 1, none⟩ = some (.int .i64 y1) ∧ w'.cell? ⟨w.heap.size + 1, 2, none⟩ = some (.int .i64 y2) ∧ w'.cell? ⟨w.heap.size + 1, 3, none⟩ = some (.slice F3 m3.length f3) ∧ w'.cell? ⟨w.heap.size + 1, 4, none⟩ = some (.slice F4 m4.length f4)) ∧ Below wd.heap.size wd w' ∧ Hid ((Kd.raw 5).R 25 w' wd.heap.size (fun _ => True) s_.2.1 ([] ++ rowsN)) ∧ Hid ((Kd.raw 5).R 25 w' wd.heap.size (fun _ => True) s_.2.2 [[.int .i64 y0, .int .i64 y1, .int .i64 y2, .slice F3 m3.length f3, .slice F4 m4.length f4]])) ?_ ?_
            rotate_left
            · intro hCont
              refine two_ (i := 0) (j := 5) (Ni := some 73) (Nj := some 78) #[true, true, true, false, true, false, false, false, false] #[false, true, true, false, true, true, false, false, false] rfl rfl rfl rfl (by kernel_rfl) (by decide) (by decide) (fun K hK => ?_) (fun K hK => ?_)
              · skip
                refine Kd.R_lit_step (Kd.raw 5) (w0 := wd) wd.heap.size 25 ?hg (N := 73) ?hd (xs := []) (inner := []) (ok := fun _ => True) (okp := fun _ => False) ?hr ?hp (fun _ hk => hk.elim) trivial (Below.refl _ _) (Nat.le_refl _) (by simp) ?_; (case hd => rfl); (case hg => rfl); (case hr => first | (go_simp; done) | (go_simp; rfl)); (case hp => exact (Reps.none _ _))
                intro v0 we0 ho hb hg hnew
                have H0 := Lib.hid ho
                have n_hb := hb
                have hbd := n_hb
                clear n_hb hb ho hg
                refine hK.out _ _ ⟨(hbd.cell (p := ⟨w5.heap.size, 4, none⟩) l_src).trans qd_s4, (hbd.cell (p := ⟨w.heap.size + 1, 0, none⟩) l_more).trans qd_m0, (hbd.cell (p := ⟨w.heap.size + 1, 1, none⟩) l_more).trans qd_m1, (hbd.cell (p := ⟨w.heap.size + 1, 2, none⟩) l_more).trans qd_m2, (hbd.cell (p := ⟨w.heap.size + 1, 3, none⟩) l_more).trans qd_m3, (hbd.cell (p := ⟨w.heap.size + 1, 4, none⟩) l_more).trans qd_m4⟩ (fun hHeld => ?_)
                clear hK K
                refine norm_ (a' := ?_) ?_ ?_
                rotate_left
                · show Act.put _ (some 73) _ = _
                  simp only [Act.put, List.setIfInBounds_toArray, List.set_cons_zero, List.set_cons_succ, i64_w, i32_w]
                  rfl
                refine two_ (i := 3) (j := 5) (Ni := some 76) (Nj := some 78) #[true, true, true, true, true, false, false, false, false] #[true, true, true, false, true, true, false, false, false] rfl rfl rfl rfl (by kernel_rfl) (by decide) (by decide) (fun K hK => ?_) (fun K hK => ?_)
                · skip
                  refine Kd.R_append_rows_step (Kd.raw 5) (Rr := Kd.K (Kd.raw 5) wd) (w0 := wd) wd.heap.size (by rfl) (.tmp 73) (.tmp 75) 23 25 (.agg #[(.int .i64 0), (.int .i64 0), (.int .i64 0), (.slice none 0 0), (.slice none 0 0)]) 72 rfl Try.underlying23 info25 rfl (by decide) (by omega) v0 [] rowsN _ _ _ (fun _ => True) (fun _ => False) rfl rfl ?aO ?aR (fun _ _ h => h) (fun _ h => h.elim) (fun _ _ => trivial) ?aB ?aS ?aL ?_
                  (case aO => exact H0.out)
                  (case aR => exact Kd.C_below HC4.out hbd)
                  (case aB => exact hbd)
                  (case aS => exact hbd.size)
                  (case aL => have := HL4.out; simp only [List.length_nil]; omega)
                  intro v3 we1 ho hb hg hat
                  have H3 := Lib.hid ho
                  have n_hb := hb
                  clear hbd
                  have hbd := n_hb
                  clear n_hb hb ho hg
                  refine hK.out _ _ ⟨(hbd.cell (p := ⟨w5.heap.size, 4, none⟩) l_src).trans qd_s4, (hbd.cell (p := ⟨w.heap.size + 1, 0, none⟩) l_more).trans qd_m0, (hbd.cell (p := ⟨w.heap.size + 1, 1, none⟩) l_more).trans qd_m1, (hbd.cell (p := ⟨w.heap.size + 1, 2, none⟩) l_more).trans qd_m2, (hbd.cell (p := ⟨w.heap.size + 1, 3, none⟩) l_more).trans qd_m3, (hbd.cell (p := ⟨w.heap.size + 1, 4, none⟩) l_more).trans qd_m4⟩ (fun hHeld => ?_)
                  clear hK K
                  refine norm_ (a' := ?_) ?_ ?_
                  rotate_left
                  · show Act.put _ (some 76) _ = _
                    simp only [Act.put, List.setIfInBounds_toArray, List.set_cons_zero, List.set_cons_succ, i64_w, i32_w]
                    rfl
                  refine one_ (i := 5) (N := some 78) #[true, true, true, true, true, true, false, false, false] rfl rfl (by kernel_rfl) (by decide) (fun K hK => ?_)
                  refine Kd.R_lit_step (Kd.raw 5) (w0 := wd) wd.heap.size 25 ?hg (N := 78) ?hd (xs := [[.int .i64 y0, .int .i64 y1, .int .i64 y2, .slice F3 m3.length f3, .slice F4 m4.length f4]]) (inner := [.int .i64 y0, .int .i64 y1, .int .i64 y2, .slice F3 m3.length f3, .slice F4 m4.length f4]) (ok := fun _ => True) (okp := fun _ => False) ?hr ?hp (fun _ hk => hk.elim) trivial hbd hbd.size (by simp) ?_; (case hd => rfl); (case hg => rfl); (case hr => first | (go_simp; done) | (go_simp; rfl)); (case hp => exact (Reps.c5 (show Kd.M (Kd.raw 5) _ _ _ [.int .i64 y0, .int .i64 y1, .int .i64 y2, .slice F3 m3.length f3, .slice F4 m4.length f4] [.int .i64 y0, .int .i64 y1, .int .i64 y2, .slice F3 m3.length f3, .slice F4 m4.length f4] from raw_M rfl (by simp [Value.oneCell'])) (Reps.none _ _)))
                  intro v5 we2 ho hb hg hnew
                  replace H3 := Lib.hid (raw_kept H3.out hg (fun k _ h => by cases h))
                  have H5 := Lib.hid ho
                  have n_hb := hb
                  clear hbd
                  have hbd := n_hb
                  clear n_hb hb ho hg
                  refine hK.out _ _ ⟨(hbd.cell (p := ⟨w5.heap.size, 4, none⟩) l_src).trans qd_s4, (hbd.cell (p := ⟨w.heap.size + 1, 0, none⟩) l_more).trans qd_m0, (hbd.cell (p := ⟨w.heap.size + 1, 1, none⟩) l_more).trans qd_m1, (hbd.cell (p := ⟨w.heap.size + 1, 2, none⟩) l_more).trans qd_m2, (hbd.cell (p := ⟨w.heap.size + 1, 3, none⟩) l_more).trans qd_m3, (hbd.cell (p := ⟨w.heap.size + 1, 4, none⟩) l_more).trans qd_m4⟩ (fun hHeld => ?_)
                  clear hK K
                  refine norm_ (a' := ?_) ?_ ?_
                  rotate_left
                  · show Act.put _ (some 78) _ = _
                    simp only [Act.put, List.setIfInBounds_toArray, List.set_cons_zero, List.set_cons_succ, i64_w, i32_w]
                    rfl
                  exact norm_ (by simp only [putAll, Act.put, List.setIfInBounds_toArray, List.set_cons_zero, List.set_cons_succ]) (hCont (v0, v3, v5) _ ⟨⟨(hbd.cell (p := ⟨w5.heap.size, 4, none⟩) l_src).trans qd_s4, (hbd.cell (p := ⟨w.heap.size + 1, 0, none⟩) l_more).trans qd_m0, (hbd.cell (p := ⟨w.heap.size + 1, 1, none⟩) l_more).trans qd_m1, (hbd.cell (p := ⟨w.heap.size + 1, 2, none⟩) l_more).trans qd_m2, (hbd.cell (p := ⟨w.heap.size + 1, 3, none⟩) l_more).trans qd_m3, (hbd.cell (p := ⟨w.heap.size + 1, 4, none⟩) l_more).trans qd_m4⟩, hbd, H3, H5⟩)
                · skip
                  refine Kd.R_lit_step (Kd.raw 5) (w0 := wd) wd.heap.size 25 ?hg (N := 78) ?hd (xs := [[.int .i64 y0, .int .i64 y1, .int .i64 y2, .slice F3 m3.length f3, .slice F4 m4.length f4]]) (inner := [.int .i64 y0, .int .i64 y1, .int .i64 y2, .slice F3 m3.length f3, .slice F4 m4.length f4]) (ok := fun _ => True) (okp := fun _ => False) ?hr ?hp (fun _ hk => hk.elim) trivial hbd hbd.size (by simp) ?_; (case hd => rfl); (case hg => rfl); (case hr => first | (go_simp; done) | (go_simp; rfl)); (case hp => exact (Reps.c5 (show Kd.M (Kd.raw 5) _ _ _ [.int .i64 y0, .int .i64 y1, .int .i64 y2, .slice F3 m3.length f3, .slice F4 m4.length f4] [.int .i64 y0, .int .i64 y1, .int .i64 y2, .slice F3 m3.length f3, .slice F4 m4.length f4] from raw_M rfl (by simp [Value.oneCell'])) (Reps.none _ _)))
                  intro v5 we1 ho hb hg hnew
                  have D05 : Hid (∀ k, v5.ownBlock = some k → v0.ownBlock ≠ some k) := fun k hk he => by obtain ⟨b, e_, hle⟩ := hnew; rw [e_] at hk; have := (raw_block H0.out he).2; injection hk with hk; omega
                  replace H0 := Lib.hid (raw_kept H0.out hg (fun k _ h => by cases h))
                  have H5 := Lib.hid ho
                  have n_hb := hb
                  clear hbd
                  have hbd := n_hb
                  clear n_hb hb ho hg
                  refine hK.out _ _ ⟨(hbd.cell (p := ⟨w5.heap.size, 4, none⟩) l_src).trans qd_s4, (hbd.cell (p := ⟨w.heap.size + 1, 0, none⟩) l_more).trans qd_m0, (hbd.cell (p := ⟨w.heap.size + 1, 1, none⟩) l_more).trans qd_m1, (hbd.cell (p := ⟨w.heap.size + 1, 2, none⟩) l_more).trans qd_m2, (hbd.cell (p := ⟨w.heap.size + 1, 3, none⟩) l_more).trans qd_m3, (hbd.cell (p := ⟨w.heap.size + 1, 4, none⟩) l_more).trans qd_m4⟩ (fun hHeld => ?_)
                  clear hK K
                  refine norm_ (a' := ?_) ?_ ?_
                  rotate_left
                  · show Act.put _ (some 78) _ = _
                    simp only [Act.put, List.setIfInBounds_toArray, List.set_cons_zero, List.set_cons_succ, i64_w, i32_w]
                    rfl
                  refine one_ (i := 3) (N := some 76) #[true, true, true, true, true, true, false, false, false] rfl rfl (by kernel_rfl) (by decide) (fun K hK => ?_)
                  refine Kd.R_append_rows_step (Kd.raw 5) (Rr := Kd.K (Kd.raw 5) wd) (w0 := wd) wd.heap.size (by rfl) (.tmp 73) (.tmp 75) 23 25 (.agg #[(.int .i64 0), (.int .i64 0), (.int .i64 0), (.slice none 0 0), (.slice none 0 0)]) 72 rfl Try.underlying23 info25 rfl (by decide) (by omega) v0 [] rowsN _ _ _ (fun _ => True) (fun _ => False) rfl rfl ?aO ?aR (fun _ _ h => h) (fun _ h => h.elim) (fun _ _ => trivial) ?aB ?aS ?aL ?_
                  (case aO => exact H0.out)
                  (case aR => exact Kd.C_below HC4.out hbd)
                  (case aB => exact hbd)
                  (case aS => exact hbd.size)
                  (case aL => have := HL4.out; simp only [List.length_nil]; omega)
                  intro v3 we2 ho hb hg hat
                  replace H5 := Lib.hid (raw_kept H5.out hg (fun k hk => D05.out k hk))
                  have H3 := Lib.hid ho
                  have n_hb := hb
                  clear hbd
                  have hbd := n_hb
                  clear n_hb hb ho hg
                  refine hK.out _ _ ⟨(hbd.cell (p := ⟨w5.heap.size, 4, none⟩) l_src).trans qd_s4, (hbd.cell (p := ⟨w.heap.size + 1, 0, none⟩) l_more).trans qd_m0, (hbd.cell (p := ⟨w.heap.size + 1, 1, none⟩) l_more).trans qd_m1, (hbd.cell (p := ⟨w.heap.size + 1, 2, none⟩) l_more).trans qd_m2, (hbd.cell (p := ⟨w.heap.size + 1, 3, none⟩) l_more).trans qd_m3, (hbd.cell (p := ⟨w.heap.size + 1, 4, none⟩) l_more).trans qd_m4⟩ (fun hHeld => ?_)
                  clear hK K
                  refine norm_ (a' := ?_) ?_ ?_
                  rotate_left
                  · show Act.put _ (some 76) _ = _
                    simp only [Act.put, List.setIfInBounds_toArray, List.set_cons_zero, List.set_cons_succ, i64_w, i32_w]
                    rfl
                  exact norm_ (by simp only [putAll, Act.put, List.setIfInBounds_toArray, List.set_cons_zero, List.set_cons_succ]) (hCont (v0, v3, v5) _ ⟨⟨(hbd.cell (p := ⟨w5.heap.size, 4, none⟩) l_src).trans qd_s4, (hbd.cell (p := ⟨w.heap.size + 1, 0, none⟩) l_more).trans qd_m0, (hbd.cell (p := ⟨w.heap.size + 1, 1, none⟩) l_more).trans qd_m1, (hbd.cell (p := ⟨w.heap.size + 1, 2, none⟩) l_more).trans qd_m2, (hbd.cell (p := ⟨w.heap.size + 1, 3, none⟩) l_more).trans qd_m3, (hbd.cell (p := ⟨w.heap.size + 1, 4, none⟩) l_more).trans qd_m4⟩, hbd, H3, H5⟩)
              · skip
                refine Kd.R_lit_step (Kd.raw 5) (w0 := wd) wd.heap.size 25 ?hg (N := 78) ?hd (xs := [[.int .i64 y0, .int .i64 y1, .int .i64 y2, .slice F3 m3.length f3, .slice F4 m4.length f4]]) (inner := [.int .i64 y0, .int .i64 y1, .int .i64 y2, .slice F3 m3.length f3, .slice F4 m4.length f4]) (ok := fun _ => True) (okp := fun _ => False) ?hr ?hp (fun _ hk => hk.elim) trivial (Below.refl _ _) (Nat.le_refl _) (by simp) ?_; (case hd => rfl); (case hg => rfl); (case hr => first | (go_simp; done) | (go_simp; rfl)); (case hp => exact (Reps.c5 (show Kd.M (Kd.raw 5) _ _ _ [.int .i64 y0, .int .i64 y1, .int .i64 y2, .slice F3 m3.length f3, .slice F4 m4.length f4] [.int .i64 y0, .int .i64 y1, .int .i64 y2, .slice F3 m3.length f3, .slice F4 m4.length f4] from raw_M rfl (by simp [Value.oneCell'])) (Reps.none _ _)))
                intro v5 we0 ho hb hg hnew
                have H5 := Lib.hid ho
                have n_hb := hb
                have hbd := n_hb
                clear n_hb hb ho hg
                refine hK.out _ _ ⟨(hbd.cell (p := ⟨w5.heap.size, 4, none⟩) l_src).trans qd_s4, (hbd.cell (p := ⟨w.heap.size + 1, 0, none⟩) l_more).trans qd_m0, (hbd.cell (p := ⟨w.heap.size + 1, 1, none⟩) l_more).trans qd_m1, (hbd.cell (p := ⟨w.heap.size + 1, 2, none⟩) l_more).trans qd_m2, (hbd.cell (p := ⟨w.heap.size + 1, 3, none⟩) l_more).trans qd_m3, (hbd.cell (p := ⟨w.heap.size + 1, 4, none⟩) l_more).trans qd_m4⟩ (fun hHeld => ?_)
                clear hK K
                refine norm_ (a' := ?_) ?_ ?_
                rotate_left
                · show Act.put _ (some 78) _ = _
                  simp only [Act.put, List.setIfInBounds_toArray, List.set_cons_zero, List.set_cons_succ, i64_w, i32_w]
                  rfl
                refine one_ (i := 0) (N := some 73) #[true, true, true, false, true, true, false, false, false] rfl rfl (by kernel_rfl) (by decide) (fun K hK => ?_)
                refine Kd.R_lit_step (Kd.raw 5) (w0 := wd) wd.heap.size 25 ?hg (N := 73) ?hd (xs := []) (inner := []) (ok := fun _ => True) (okp := fun _ => False) ?hr ?hp (fun _ hk => hk.elim) trivial hbd hbd.size (by simp) ?_; (case hd => rfl); (case hg => rfl); (case hr => first | (go_simp; done) | (go_simp; rfl)); (case hp => exact (Reps.none _ _))
                intro v0 we1 ho hb hg hnew
                have D05 : Hid (∀ k, v5.ownBlock = some k → v0.ownBlock ≠ some k) := fun k hk he => by obtain ⟨b, e_, hle⟩ := hnew; rw [e_] at he; have := (raw_block H5.out hk).2; injection he with he; omega
                replace H5 := Lib.hid (raw_kept H5.out hg (fun k _ h => by cases h))
                have H0 := Lib.hid ho
                have n_hb := hb
                clear hbd
                have hbd := n_hb
                clear n_hb hb ho hg
                refine hK.out _ _ ⟨(hbd.cell (p := ⟨w5.heap.size, 4, none⟩) l_src).trans qd_s4, (hbd.cell (p := ⟨w.heap.size + 1, 0, none⟩) l_more).trans qd_m0, (hbd.cell (p := ⟨w.heap.size + 1, 1, none⟩) l_more).trans qd_m1, (hbd.cell (p := ⟨w.heap.size + 1, 2, none⟩) l_more).trans qd_m2, (hbd.cell (p := ⟨w.heap.size + 1, 3, none⟩) l_more).trans qd_m3, (hbd.cell (p := ⟨w.heap.size + 1, 4, none⟩) l_more).trans qd_m4⟩ (fun hHeld => ?_)
                clear hK K
                refine norm_ (a' := ?_) ?_ ?_
                rotate_left
                · show Act.put _ (some 73) _ = _
                  simp only [Act.put, List.setIfInBounds_toArray, List.set_cons_zero, List.set_cons_succ, i64_w, i32_w]
                  rfl
                refine one_ (i := 3) (N := some 76) #[true, true, true, true, true, true, false, false, false] rfl rfl (by kernel_rfl) (by decide) (fun K hK => ?_)
                refine Kd.R_append_rows_step (Kd.raw 5) (Rr := Kd.K (Kd.raw 5) wd) (w0 := wd) wd.heap.size (by rfl) (.tmp 73) (.tmp 75) 23 25 (.agg #[(.int .i64 0), (.int .i64 0), (.int .i64 0), (.slice none 0 0), (.slice none 0 0)]) 72 rfl Try.underlying23 info25 rfl (by decide) (by omega) v0 [] rowsN _ _ _ (fun _ => True) (fun _ => False) rfl rfl ?aO ?aR (fun _ _ h => h) (fun _ h => h.elim) (fun _ _ => trivial) ?aB ?aS ?aL ?_
                (case aO => exact H0.out)
                (case aR => exact Kd.C_below HC4.out hbd)
                (case aB => exact hbd)
                (case aS => exact hbd.size)
                (case aL => have := HL4.out; simp only [List.length_nil]; omega)
                intro v3 we2 ho hb hg hat
                replace H5 := Lib.hid (raw_kept H5.out hg (fun k hk => D05.out k hk))
                have H3 := Lib.hid ho
                have n_hb := hb
                clear hbd
                have hbd := n_hb
                clear n_hb hb ho hg
                refine hK.out _ _ ⟨(hbd.cell (p := ⟨w5.heap.size, 4, none⟩) l_src).trans qd_s4, (hbd.cell (p := ⟨w.heap.size + 1, 0, none⟩) l_more).trans qd_m0, (hbd.cell (p := ⟨w.heap.size + 1, 1, none⟩) l_more).trans qd_m1, (hbd.cell (p := ⟨w.heap.size + 1, 2, none⟩) l_more).trans qd_m2, (hbd.cell (p := ⟨w.heap.size + 1, 3, none⟩) l_more).trans qd_m3, (hbd.cell (p := ⟨w.heap.size + 1, 4, none⟩) l_more).trans qd_m4⟩ (fun hHeld => ?_)
                clear hK K
                refine norm_ (a' := ?_) ?_ ?_
                rotate_left
                · show Act.put _ (some 76) _ = _
                  simp only [Act.put, List.setIfInBounds_toArray, List.set_cons_zero, List.set_cons_succ, i64_w, i32_w]
                  rfl
                exact norm_ (by simp only [putAll, Act.put, List.setIfInBounds_toArray, List.set_cons_zero, List.set_cons_succ]) (hCont (v0, v3, v5) _ ⟨⟨(hbd.cell (p := ⟨w5.heap.size, 4, none⟩) l_src).trans qd_s4, (hbd.cell (p := ⟨w.heap.size + 1, 0, none⟩) l_more).trans qd_m0, (hbd.cell (p := ⟨w.heap.size + 1, 1, none⟩) l_more).trans qd_m1, (hbd.cell (p := ⟨w.heap.size + 1, 2, none⟩) l_more).trans qd_m2, (hbd.cell (p := ⟨w.heap.size + 1, 3, none⟩) l_more).trans qd_m3, (hbd.cell (p := ⟨w.heap.size + 1, 4, none⟩) l_more).trans qd_m4⟩, hbd, H3, H5⟩)
            rintro ⟨v0, v3, v5⟩ wj ⟨hS_, hbj, H3, H5⟩
            have hHeld : wj.cell? ⟨w5.heap.size, 4, none⟩ = some (.slice A63 X4.length c63) ∧ wj.cell? ⟨w.heap.size + 1, 0, none⟩ = some (.int .i64 y0) ∧ wj.cell? ⟨w.heap.size + 1, 1, none⟩ = some (.int .i64 y1) ∧ wj.cell? ⟨w.heap.size + 1, 2, none⟩ = some (.int .i64 y2) ∧ wj.cell? ⟨w.heap.size + 1, 3, none⟩ = some (.slice F3 m3.length f3) ∧ wj.cell? ⟨w.heap.size + 1, 4, none⟩ = some (.slice F4 m4.length f4) := hS_
            clear hS_
            obtain ⟨A5, c5, rfl, _, hC5⟩ := Kd.R_reads H5.out
            have HC5 := Lib.hid hC5
            clear hC5 H5
            refine norm_ (a' := ?_) ?_ ?_
            rotate_left
            · simp only [putAll, Act.put, List.setIfInBounds_toArray, List.set_cons_zero, List.set_cons_succ]
              rfl
            refine one_ (i := 6) (N := some 79) #[true, true, true, true, true, true, true, false, false] rfl rfl (by kernel_rfl) (by decide) (fun K hK => ?_)
            refine Kd.R_append_rows_step (Kd.raw 5) (Rr := Kd.K (Kd.raw 5) wj) (w0 := wd) wd.heap.size (by rfl) (.tmp 76) (.tmp 78) 23 25 (.agg #[(.int .i64 0), (.int .i64 0), (.int .i64 0), (.slice none 0 0), (.slice none 0 0)]) 72 rfl Try.underlying23 info25 rfl (by decide) (by omega) v3 ([] ++ rowsN) [[.int .i64 y0, .int .i64 y1, .int .i64 y2, .slice F3 m3.length f3, .slice F4 m4.length f4]] _ _ _ (fun _ => True) (fun _ => False) rfl rfl ?aO ?aR (fun _ _ h => h) (fun _ h => h.elim) (fun _ _ => trivial) ?aB ?aS ?aL ?_
            (case aO => exact H3.out)
            (case aR => exact HC5.out)
            (case aB => exact hbj)
            (case aS => exact hbj.size)
            (case aL => have := HL4.out; simp only [List.nil_append, List.length_singleton]; omega)
            intro v6 wk ho hb hg hat
            have H6 := Lib.hid ho
            have hbk := hb
            clear ho hb hg hat H3 HC5
            refine hK.out _ _ ⟨(hbk.cell (p := ⟨w5.heap.size, 4, none⟩) l_src).trans qd_s4, (hbk.cell (p := ⟨w.heap.size + 1, 0, none⟩) l_more).trans qd_m0, (hbk.cell (p := ⟨w.heap.size + 1, 1, none⟩) l_more).trans qd_m1, (hbk.cell (p := ⟨w.heap.size + 1, 2, none⟩) l_more).trans qd_m2, (hbk.cell (p := ⟨w.heap.size + 1, 3, none⟩) l_more).trans qd_m3, (hbk.cell (p := ⟨w.heap.size + 1, 4, none⟩) l_more).trans qd_m4⟩ (fun hHeld => ?_)
            clear hK K
            refine norm_ (a' := ?_) ?_ ?_
            rotate_left
            · show Act.put _ (some 79) _ = _
              simp only [Act.put, List.setIfInBounds_toArray, List.set_cons_zero, List.set_cons_succ, i64_w, i32_w]
              rfl
            refine pure_ (i := 7) (N := some 80) (v := ?_) (a' := ?_) #[true, true, true, true, true, true, true, true, false] rfl rfl (by kernel_rfl) (fun _ _ _ h => h) (Or.inl ⟨by rfl, ?_⟩) ?_ ?_
            rotate_left
            · intro w'
              go_simp
              with_reducible rfl
            rotate_left
            · simp only [Act.put, List.setIfInBounds_toArray, List.set_cons_zero, List.set_cons_succ, i64_w, i32_w]
              rfl
            refine last_ (i := 8) (N := none) #[true, true, true, true, true, true, true, true, true] rfl rfl (by kernel_rfl) (by decide) (fun K hK => ?_)
            have BT6 := blk_below BT_.out hbk
            have lt6 := blk_lt BT6
            have qt6 : wk.cell? ⟨Wj.heap.size, 4, none⟩ = some (.slice A63 X4.length c63) := (blk_cell BT6 4).trans rfl
            have ft6 := blk_frozen BT6 4
            clear BT6
            obtain ⟨A6, c6, rfl, hl6, hC6⟩ := Kd.R_reads H6.out
            clear hC6
            refine skip_ (w1 := ?_) (by rfl) rfl ?_ ?_
            rotate_left
            · go_simp
              rfl
            refine hK.out _ _ ?_
            clear hK K
            refine done_ (by kernel_rfl) ?_
            obtain ⟨Y4, hL⟩ : ∃ L, X4 ++ [⟨y0, y1, y2, m3, m4⟩] = L := ⟨_, rfl⟩
            have hLL : X4.length + 1 = Y4.length := by rw [← hL]; simp
            rw [hLL]
            obtain ⟨wf, hwf⟩ : ∃ W, W = wk.setCell ⟨Wj.heap.size, 4, none⟩ (.slice A6 Y4.length c6) := ⟨_, rfl⟩
            rw [← hwf]
            have hb8f : Below Wj.heap.size Wj wf := by rw [hwf]; exact (hb8d.trans (hbk.mono hb8d.size)).setCell (p := ⟨Wj.heap.size, 4, none⟩) (Nat.le_refl _) _
            have hBX : wf.heap[Wj.heap.size]? = some (.cells #[.int .i64 1, .int .i64 x1, .int .i64 x2, .slice A54 X3.length c54, .slice A6 Y4.length c6] 25 (0, 0)) := by rw [hwf]; exact blk_put (blk_below BT_.out hbk) 4 _ rfl
            have hR6 := raw_far (u := .slice A6 Y4.length c6) H6.out (p := ⟨Wj.heap.size, 4, none⟩) (Nat.lt_of_lt_of_le (blk_lt BT_.out) (Nat.le_refl _))
            rw [← hwf] at hR6
            have hC6 := (Kd.R_reads' hR6).2.2
            have hrk := ((RowsK.nil k25 Wj).append HRK.out).append (RowsK.one (k25_mk Wj ⟨y0, y1, y2, m3, m4⟩ hd3 HQ3.out hd4 HQ4.out))
            rw [List.nil_append, hL] at hrk
            have hCx := C_of_rows hC6 (hrk.below hb8f)
            rw [show List.length (([] : List (List Value)) ++ rowsN ++ [([.int .i64 y0, .int .i64 y1, .int .i64 y2, .slice F3 m3.length f3, .slice F4 m4.length f4] : List Value)]) = Y4.length by rw [← hLL]; simp [hrl]] at hCx
            have hcL : Y4.length ≤ c6 := by have := hl6; rw [← hLL]; simpa [hrl] using this
            have HLd := Lib.hid hL
            have HY4 := Lib.hid hCx
            clear hCx hC6 hrk hR6 hwf H6 BT_ HRK HC4 hHeld qt6 ft6 lt6 qd_s4 qd_m0 qd_m1 qd_m2 qd_m3 qd_m4 l_src l_more hl6 hL
            replace HR3 := Lib.hid (Kd.C_below HR3.out hb8f)
            replace HR4 := Lib.hid (Kd.C_below HR4.out hb8f)
            replace HQ3 := Lib.hid (Kd.C_below HQ3.out hb8f)
            replace HQ4 := Lib.hid (Kd.C_below HQ4.out hb8f)
            replace HB := Lib.hid (below_step HB.out hb8f)
            replace HX3 := Lib.hid (Kd.C_below HX3.out hb8f)
            replace HX4 := Lib.hid (Kd.C_below HX4.out hb8f)
            replace HT3 := Lib.hid (Kd.C_below HT3.out hb8f)
            replace HT4 := Lib.hid (Kd.C_below HT4.out hb8f)
            replace HJ4 := Lib.hid (Kd.C_below HJ4.out hb8f)
            replace BN := Lib.hid (blk_below BN.out hb8f)
            replace BM := Lib.hid (blk_below BM.out hb8f)
            replace BX := Lib.hid (blk_below BX.out hb8f)
            replace BT := Lib.hid (blk_below BT.out hb8f)
            replace BL := Lib.hid (blk_below BL.out hb8f)
            replace BJ := Lib.hid (blk_below BJ.out hb8f)
            have BY := Lib.hid hBX
            clear hBX hb8f hbk hbj hb8d hb1d hb81
            have hk3 := HKY.out
            rw [HLd.out] at hk3
            replace HKY := Lib.hid hk3
            clear hk3
            have l_BN : w.heap.size < wf.heap.size := blk_lt BN.out
            have q_BN_0 : wf.cell? ⟨w.heap.size, 0, none⟩ = some (.int .i64 1) := (blk_cell BN.out 0).trans rfl
            have q_BN_1 : wf.cell? ⟨w.heap.size, 1, none⟩ = some (.int .i64 x1) := (blk_cell BN.out 1).trans rfl
            have q_BN_2 : wf.cell? ⟨w.heap.size, 2, none⟩ = some (.int .i64 x2) := (blk_cell BN.out 2).trans rfl
            have q_BN_3 : wf.cell? ⟨w.heap.size, 3, none⟩ = some (.slice A3 l3.length c3) := (blk_cell BN.out 3).trans rfl
            have q_BN_4 : wf.cell? ⟨w.heap.size, 4, none⟩ = some (.slice A4 l4.length c4) := (blk_cell BN.out 4).trans rfl
            have l_BM : w.heap.size + 1 < wf.heap.size := blk_lt BM.out
            have q_BM_0 : wf.cell? ⟨w.heap.size + 1, 0, none⟩ = some (.int .i64 y0) := (blk_cell BM.out 0).trans rfl
            have q_BM_1 : wf.cell? ⟨w.heap.size + 1, 1, none⟩ = some (.int .i64 y1) := (blk_cell BM.out 1).trans rfl
            have q_BM_2 : wf.cell? ⟨w.heap.size + 1, 2, none⟩ = some (.int .i64 y2) := (blk_cell BM.out 2).trans rfl
            have q_BM_3 : wf.cell? ⟨w.heap.size + 1, 3, none⟩ = some (.slice F3 m3.length f3) := (blk_cell BM.out 3).trans rfl
            have q_BM_4 : wf.cell? ⟨w.heap.size + 1, 4, none⟩ = some (.slice F4 m4.length f4) := (blk_cell BM.out 4).trans rfl
            have l_BX : w5.heap.size < wf.heap.size := blk_lt BX.out
            have q_BX_0 : wf.cell? ⟨w5.heap.size, 0, none⟩ = some (.int .i64 1) := (blk_cell BX.out 0).trans rfl
            have q_BX_1 : wf.cell? ⟨w5.heap.size, 1, none⟩ = some (.int .i64 x1) := (blk_cell BX.out 1).trans rfl
            have q_BX_2 : wf.cell? ⟨w5.heap.size, 2, none⟩ = some (.int .i64 x2) := (blk_cell BX.out 2).trans rfl
            have q_BX_3 : wf.cell? ⟨w5.heap.size, 3, none⟩ = some (.slice A54 X3.length c54) := (blk_cell BX.out 3).trans rfl
            have q_BX_4 : wf.cell? ⟨w5.heap.size, 4, none⟩ = some (.slice A63 X4.length c63) := (blk_cell BX.out 4).trans rfl
            have l_BT : w6.heap.size < wf.heap.size := blk_lt BT.out
            have q_BT_0 : wf.cell? ⟨w6.heap.size, 0, none⟩ = some (.int .i64 T.f0) := (blk_cell BT.out 0).trans rfl
            have q_BT_1 : wf.cell? ⟨w6.heap.size, 1, none⟩ = some (.int .i64 T.f1) := (blk_cell BT.out 1).trans rfl
            have q_BT_2 : wf.cell? ⟨w6.heap.size, 2, none⟩ = some (.int .i64 T.f2) := (blk_cell BT.out 2).trans rfl
            have q_BT_3 : wf.cell? ⟨w6.heap.size, 3, none⟩ = some (.slice T3 T.f3.length t3) := (blk_cell BT.out 3).trans rfl
            have q_BT_4 : wf.cell? ⟨w6.heap.size, 4, none⟩ = some (.slice T4 T.f4.length t4) := (blk_cell BT.out 4).trans rfl
            have l_BL : w6.heap.size + 1 + 1 < wf.heap.size := blk_lt BL.out
            have q_BL_0 : wf.cell? ⟨w6.heap.size + 1 + 1, 0, none⟩ = some (.int .i64 2) := (blk_cell BL.out 0).trans rfl
            have q_BL_1 : wf.cell? ⟨w6.heap.size + 1 + 1, 1, none⟩ = some (.int .i64 7) := (blk_cell BL.out 1).trans rfl
            have q_BL_2 : wf.cell? ⟨w6.heap.size + 1 + 1, 2, none⟩ = some (.int .i64 1) := (blk_cell BL.out 2).trans rfl
            have q_BL_3 : wf.cell? ⟨w6.heap.size + 1 + 1, 3, none⟩ = some (.slice none 0 0) := (blk_cell BL.out 3).trans rfl
            have q_BL_4 : wf.cell? ⟨w6.heap.size + 1 + 1, 4, none⟩ = some (.slice (some ⟨w6.heap.size + 1, 0, none⟩) 1 1) := (blk_cell BL.out 4).trans rfl
            have l_BJ : w7.heap.size < wf.heap.size := blk_lt BJ.out
            have q_BJ_0 : wf.cell? ⟨w7.heap.size, 0, none⟩ = some (.int .i64 2) := (blk_cell BJ.out 0).trans rfl
            have q_BJ_1 : wf.cell? ⟨w7.heap.size, 1, none⟩ = some (.int .i64 7) := (blk_cell BJ.out 1).trans rfl
            have q_BJ_2 : wf.cell? ⟨w7.heap.size, 2, none⟩ = some (.int .i64 1) := (blk_cell BJ.out 2).trans rfl
            have q_BJ_3 : wf.cell? ⟨w7.heap.size, 3, none⟩ = some (.slice J3 0 j3) := (blk_cell BJ.out 3).trans rfl
            have q_BJ_4 : wf.cell? ⟨w7.heap.size, 4, none⟩ = some (.slice J4 1 j4) := (blk_cell BJ.out 4).trans rfl
            have l_BY : Wj.heap.size < wf.heap.size := blk_lt BY.out
            have q_BY_0 : wf.cell? ⟨Wj.heap.size, 0, none⟩ = some (.int .i64 1) := (blk_cell BY.out 0).trans rfl
            have q_BY_1 : wf.cell? ⟨Wj.heap.size, 1, none⟩ = some (.int .i64 x1) := (blk_cell BY.out 1).trans rfl
            have q_BY_2 : wf.cell? ⟨Wj.heap.size, 2, none⟩ = some (.int .i64 x2) := (blk_cell BY.out 2).trans rfl
            have q_BY_3 : wf.cell? ⟨Wj.heap.size, 3, none⟩ = some (.slice A54 X3.length c54) := (blk_cell BY.out 3).trans rfl
            have q_BY_4 : wf.cell? ⟨Wj.heap.size, 4, none⟩ = some (.slice A6 Y4.length c6) := (blk_cell BY.out 4).trans rfl
            go_upto_region 12 with fail
            clear l_BN q_BN_0 q_BN_1 q_BN_2 q_BN_3 q_BN_4 l_BM q_BM_0 q_BM_1 q_BM_2 q_BM_3 q_BM_4 l_BX q_BX_0 q_BX_1 q_BX_2 q_BX_3 q_BX_4 l_BT q_BT_0 q_BT_1 q_BT_2 q_BT_3 q_BT_4 l_BL q_BL_0 q_BL_1 q_BL_2 q_BL_3 q_BL_4 l_BJ q_BJ_0 q_BJ_1 q_BJ_2 q_BJ_3 q_BJ_4 l_BY q_BY_0 q_BY_1 q_BY_2 q_BY_3 q_BY_4
            refine wp_at (fun W3 hW => ?_)
            have hBZ : W3.heap[wf.heap.size]? = some (.cells #[.int .i64 1, .int .i64 x1, .int .i64 x2, .slice A54 X3.length c54, .slice A63 X4.length c63] 25 (0, 0)) := by rw [hW]; exact heap_alloc_new _ _
            have hb : Below wf.heap.size wf W3 := by rw [hW]; exact (Below.refl _ _).alloc (Nat.le_refl _) _
            clear hW
            have BZ1 := Lib.hid hBZ; have HU := Lib.hid hb
            clear hb hBZ
            go_upto_region 13 with (first | ((with_reducible refine gate_dst (N := 82) rfl ?_); refine Kd.R_lit (Kd.int .u8) (w0 := W3) W3.heap.size 5 ?hg82 (N := 82) ?hd82 (xs := []) (inner := []) (ok := fun _ => True) (okp := fun _ => False) ?hr82 ?hp82 (fun _ h => h.elim) trivial (Below.refl _ _) (Nat.le_refl _) (by simp) ?_; (case hd82 => rfl); (case hg82 => rfl); (case hr82 => first | (go_simp; done) | (go_simp; rfl)); (case hp82 => exact (Reps.none _ _)); intro v82 e9 ho hb hg hnew; have H82 := Lib.hid ho; have hE9 := hb; have hF9 := HU.out.trans (hb.mono HU.out.size); have qx3 : e9.cell? ⟨w5.heap.size, 3, none⟩ = some (.slice A54 X3.length c54) := (blk_cell (blk_below BX.out (HU.out.trans (hb.mono HU.out.size))) 3).trans rfl; have lx : w5.heap.size < e9.heap.size := blk_lt (blk_below BX.out (HU.out.trans (hb.mono HU.out.size))); clear ho hb hg hnew) | ((with_reducible refine gate_builtin (b := .append) (xs := #[.tmp 82, .tmp 84]) rfl ?_); at_builtin; refine Kd.R_append_rows (Kd.int .u8) (Rr := Kd.K (Kd.int .u8) wf) (w0 := W3) W3.heap.size rfl (.tmp 82) (.tmp 84) 22 5 (.int .u8 0) 1 rfl Try.underlying22 info5 rfl (by decide) (by omega) v82 [] X3 _ _ _ (fun _ => True) (fun _ => False) rfl rfl ?aO85 ?aR85 (fun _ _ h => h) (fun _ h => h.elim) (fun _ _ => trivial) ?aB85 ?aS85 ?aL85 ?_; (case aO85 => exact H82.out); (case aR85 => exact Kd.C_below HX3.out hF9); (case aB85 => exact hE9); (case aS85 => exact hE9.size); (case aL85 => have := HXL.out; simp only [List.length_nil]; omega); intro v85 e10 ho hb hg hat; have H85 := Lib.hid ho; have hE10 := hb; clear ho hb hg hat) | ((with_reducible refine gate_dst (N := 87) rfl ?_); refine Kd.R_lit (Kd.int .u8) (w0 := W3) W3.heap.size 5 ?hg87 (N := 87) ?hd87 (xs := [0, 0, 0, 0, 0, 0, 0, bb]) (inner := [.int .u8 0, .int .u8 0, .int .u8 0, .int .u8 0, .int .u8 0, .int .u8 0, .int .u8 0, .int .u8 bb]) (ok := fun _ => True) (okp := fun _ => False) ?hr87 ?hp87 (fun _ h => h.elim) trivial hE10 hE10.size (by simp) ?_; (case hd87 => rfl); (case hg87 => rfl); (case hr87 => first | (go_simp; done) | (go_simp; rfl)); (case hp87 => exact (Reps.one (show Kd.M (Kd.int .u8) _ _ _ 0 [.int .u8 0] from rfl) (Reps.one (show Kd.M (Kd.int .u8) _ _ _ 0 [.int .u8 0] from rfl) (Reps.one (show Kd.M (Kd.int .u8) _ _ _ 0 [.int .u8 0] from rfl) (Reps.one (show Kd.M (Kd.int .u8) _ _ _ 0 [.int .u8 0] from rfl) (Reps.one (show Kd.M (Kd.int .u8) _ _ _ 0 [.int .u8 0] from rfl) (Reps.one (show Kd.M (Kd.int .u8) _ _ _ 0 [.int .u8 0] from rfl) (Reps.one (show Kd.M (Kd.int .u8) _ _ _ 0 [.int .u8 0] from rfl) (Reps.one (show Kd.M (Kd.int .u8) _ _ _ bb [.int .u8 bb] from rfl) (Reps.none _ _)))))))))); intro v87 e11 ho hb hg hnew; replace H85 := Lib.hid (ints_kept H85.out hg (fun k _ h => by cases h)); obtain ⟨A87, c87, rfl, _, hC87⟩ := Kd.R_reads ho; have H87 := Lib.hid hC87; have hE11 := hb; clear hC87; clear ho hb hg hnew) | ((with_reducible refine gate_builtin (b := .append) (xs := #[.tmp 85, .tmp 87]) rfl ?_); at_builtin; refine Kd.R_append_rows (Kd.int .u8) (Rr := Kd.K (Kd.int .u8) e11) (w0 := W3) W3.heap.size rfl (.tmp 85) (.tmp 87) 22 5 (.int .u8 0) 1 rfl Try.underlying22 info5 rfl (by decide) (by omega) v85 ([] ++ X3) [0, 0, 0, 0, 0, 0, 0, bb] _ _ _ (fun _ => True) (fun _ => False) rfl rfl ?aO88 ?aR88 (fun _ _ h => h) (fun _ h => h.elim) (fun _ _ => trivial) ?aB88 ?aS88 ?aL88 ?_; (case aO88 => exact H85.out); (case aR88 => exact H87.out); (case aB88 => exact hE11); (case aS88 => exact hE11.size); (case aL88 => have := HXL.out; simp only [List.nil_append, List.length_cons, List.length_nil]; omega); intro v88 e12 ho hb hg hat; rw [List.nil_append, show X3 ++ [0, 0, 0, 0, 0, 0, 0, bb] = Z3 from HZ3d.out] at ho; obtain ⟨A88, c88, rfl, hl88, _⟩ := Kd.R_reads ho; have H88 := Lib.hid ho; have hE12 := hb; have HZ := Lib.hid (blk_below BZ1.out hb); have qz : e12.cell? ⟨wf.heap.size, 3, none⟩ = some (.slice A54 X3.length c54) := (blk_cell HZ.out 3).trans rfl; have fz := blk_frozen HZ.out 3; have lz := blk_lt HZ.out; clear ho hb hg hat))
            obtain ⟨e13, h13⟩ : ∃ W, W = e12.setCell ⟨wf.heap.size, 3, none⟩ (.slice A88 Z3.length c88) := ⟨_, rfl⟩
            rw [← h13]
            have hU13 : Below wf.heap.size wf e13 := by rw [h13]; exact (HU.out.trans (hE12.mono HU.out.size)).setCell (p := ⟨wf.heap.size, 3, none⟩) (Nat.le_refl _) _
            have hBZ : e13.heap[wf.heap.size]? = some (.cells #[.int .i64 1, .int .i64 x1, .int .i64 x2, .slice A88 Z3.length c88, .slice A63 X4.length c63] 25 (0, 0)) := by rw [h13]; exact blk_put HZ.out 3 _ rfl
            have hR13 := ints_far (u := .slice A88 Z3.length c88) H88.out (p := ⟨wf.heap.size, 3, none⟩) (blk_lt BZ1.out)
            rw [← h13] at hR13
            have hZ3C := (Kd.R_reads' hR13).2.2
            have BZ := Lib.hid hBZ
            clear hBZ hR13 h13 H82 hE9 hF9 qx3 lx H85 hE10 H87 hE11 H88 hE12 HZ qz fz lz BZ1 HU
            replace HR3 := Lib.hid (Kd.C_below HR3.out hU13)
            replace HR4 := Lib.hid (Kd.C_below HR4.out hU13)
            replace HQ3 := Lib.hid (Kd.C_below HQ3.out hU13)
            replace HQ4 := Lib.hid (Kd.C_below HQ4.out hU13)
            replace HB := Lib.hid (below_step HB.out hU13)
            replace HX3 := Lib.hid (Kd.C_below HX3.out hU13)
            replace HX4 := Lib.hid (Kd.C_below HX4.out hU13)
            replace HT3 := Lib.hid (Kd.C_below HT3.out hU13)
            replace HT4 := Lib.hid (Kd.C_below HT4.out hU13)
            replace HJ4 := Lib.hid (Kd.C_below HJ4.out hU13)
            replace HY4 := Lib.hid (Kd.C_below HY4.out hU13)
            replace BN := Lib.hid (blk_below BN.out hU13)
            replace BM := Lib.hid (blk_below BM.out hU13)
            replace BX := Lib.hid (blk_below BX.out hU13)
            replace BT := Lib.hid (blk_below BT.out hU13)
            replace BL := Lib.hid (blk_below BL.out hU13)
            replace BJ := Lib.hid (blk_below BJ.out hU13)
            replace BY := Lib.hid (blk_below BY.out hU13)
            have HZ3 := Lib.hid (hZ3C)
            clear hZ3C hU13
            obtain ⟨ad, K3, k3, K4, k4, eJ, j0, j1, j2, j3_, j4_, hk3, hK3, hk4, hK4⟩ := at_T25 HJ4.out 0 (by decide) (by decide)
            subst eJ
            rw [show rd_T25 [T] 0 = T from rfl] at j0 j1 j2 j3_ j4_ hk3 hK3 hk4 hK4
            have j0' : e13.cell? ad = some (.int .i64 T.f0) := j0
            have j1' : e13.cell? ⟨ad.block, ad.off + 1, none⟩ = some (.int .i64 T.f1) := j1
            have j2' : e13.cell? ⟨ad.block, ad.off + 2, none⟩ = some (.int .i64 T.f2) := j2
            have j3' : e13.cell? ⟨ad.block, ad.off + 3, none⟩ = some (.slice K3 T.f3.length k3) := j3_
            have j4' : e13.cell? ⟨ad.block, ad.off + 4, none⟩ = some (.slice K4 T.f4.length k4) := j4_
            clear j0 j1 j2 j3_ j4_ HJ4
            have HK3 := Lib.hid (hK3)
            have HK4 := Lib.hid (hK4)
            clear hK3 hK4
            have l_BX : w5.heap.size < e13.heap.size := blk_lt BX.out
            have q_BX_0 : e13.cell? ⟨w5.heap.size, 0, none⟩ = some (.int .i64 1) := (blk_cell BX.out 0).trans rfl
            have q_BX_1 : e13.cell? ⟨w5.heap.size, 1, none⟩ = some (.int .i64 x1) := (blk_cell BX.out 1).trans rfl
            have q_BX_2 : e13.cell? ⟨w5.heap.size, 2, none⟩ = some (.int .i64 x2) := (blk_cell BX.out 2).trans rfl
            have q_BX_3 : e13.cell? ⟨w5.heap.size, 3, none⟩ = some (.slice A54 X3.length c54) := (blk_cell BX.out 3).trans rfl
            have q_BX_4 : e13.cell? ⟨w5.heap.size, 4, none⟩ = some (.slice A63 X4.length c63) := (blk_cell BX.out 4).trans rfl
            have l_BT : w6.heap.size < e13.heap.size := blk_lt BT.out
            have q_BT_0 : e13.cell? ⟨w6.heap.size, 0, none⟩ = some (.int .i64 T.f0) := (blk_cell BT.out 0).trans rfl
            have q_BT_1 : e13.cell? ⟨w6.heap.size, 1, none⟩ = some (.int .i64 T.f1) := (blk_cell BT.out 1).trans rfl
            have q_BT_2 : e13.cell? ⟨w6.heap.size, 2, none⟩ = some (.int .i64 T.f2) := (blk_cell BT.out 2).trans rfl
            have q_BT_3 : e13.cell? ⟨w6.heap.size, 3, none⟩ = some (.slice T3 T.f3.length t3) := (blk_cell BT.out 3).trans rfl
            have q_BT_4 : e13.cell? ⟨w6.heap.size, 4, none⟩ = some (.slice T4 T.f4.length t4) := (blk_cell BT.out 4).trans rfl
            have l_BY : Wj.heap.size < e13.heap.size := blk_lt BY.out
            have q_BY_0 : e13.cell? ⟨Wj.heap.size, 0, none⟩ = some (.int .i64 1) := (blk_cell BY.out 0).trans rfl
            have q_BY_1 : e13.cell? ⟨Wj.heap.size, 1, none⟩ = some (.int .i64 x1) := (blk_cell BY.out 1).trans rfl
            have q_BY_2 : e13.cell? ⟨Wj.heap.size, 2, none⟩ = some (.int .i64 x2) := (blk_cell BY.out 2).trans rfl
            have q_BY_3 : e13.cell? ⟨Wj.heap.size, 3, none⟩ = some (.slice A54 X3.length c54) := (blk_cell BY.out 3).trans rfl
            have q_BY_4 : e13.cell? ⟨Wj.heap.size, 4, none⟩ = some (.slice A6 Y4.length c6) := (blk_cell BY.out 4).trans rfl
            have l_BZ : wf.heap.size < e13.heap.size := blk_lt BZ.out
            have q_BZ_0 : e13.cell? ⟨wf.heap.size, 0, none⟩ = some (.int .i64 1) := (blk_cell BZ.out 0).trans rfl
            have q_BZ_1 : e13.cell? ⟨wf.heap.size, 1, none⟩ = some (.int .i64 x1) := (blk_cell BZ.out 1).trans rfl
            have q_BZ_2 : e13.cell? ⟨wf.heap.size, 2, none⟩ = some (.int .i64 x2) := (blk_cell BZ.out 2).trans rfl
            have q_BZ_3 : e13.cell? ⟨wf.heap.size, 3, none⟩ = some (.slice A88 Z3.length c88) := (blk_cell BZ.out 3).trans rfl
            have q_BZ_4 : e13.cell? ⟨wf.heap.size, 4, none⟩ = some (.slice A63 X4.length c63) := (blk_cell BZ.out 4).trans rfl
            have l_BJ : w7.heap.size < e13.heap.size := blk_lt BJ.out
            have q_BJ_0 : e13.cell? ⟨w7.heap.size, 0, none⟩ = some (.int .i64 2) := (blk_cell BJ.out 0).trans rfl
            have q_BJ_1 : e13.cell? ⟨w7.heap.size, 1, none⟩ = some (.int .i64 7) := (blk_cell BJ.out 1).trans rfl
            have q_BJ_2 : e13.cell? ⟨w7.heap.size, 2, none⟩ = some (.int .i64 1) := (blk_cell BJ.out 2).trans rfl
            have q_BJ_3 : e13.cell? ⟨w7.heap.size, 3, none⟩ = some (.slice J3 0 j3) := (blk_cell BJ.out 3).trans rfl
            have q_BJ_4 : e13.cell? ⟨w7.heap.size, 4, none⟩ = some (.slice (some ad) 1 j4) := (blk_cell BJ.out 4).trans rfl
            have l_BM : w.heap.size + 1 < e13.heap.size := blk_lt BM.out
            have q_BM_0 : e13.cell? ⟨w.heap.size + 1, 0, none⟩ = some (.int .i64 y0) := (blk_cell BM.out 0).trans rfl
            have q_BM_1 : e13.cell? ⟨w.heap.size + 1, 1, none⟩ = some (.int .i64 y1) := (blk_cell BM.out 1).trans rfl
            have q_BM_2 : e13.cell? ⟨w.heap.size + 1, 2, none⟩ = some (.int .i64 y2) := (blk_cell BM.out 2).trans rfl
            have q_BM_3 : e13.cell? ⟨w.heap.size + 1, 3, none⟩ = some (.slice F3 m3.length f3) := (blk_cell BM.out 3).trans rfl
            have q_BM_4 : e13.cell? ⟨w.heap.size + 1, 4, none⟩ = some (.slice F4 m4.length f4) := (blk_cell BM.out 4).trans rfl
            have l_ad : ad.block < e13.heap.size := World.block_lt_of_cell? _ _ j0'
            have HB13 := HB.out
            refine start_ (n := 38) (S := fun w' => w'.cell? ⟨w5.heap.size, 0, none⟩ = some (.int .i64 1) ∧ w'.cell? ⟨w5.heap.size, 1, none⟩ = some (.int .i64 x1) ∧ w'.cell? ⟨w5.heap.size, 2, none⟩ = some (.int .i64 x2) ∧ w'.cell? ⟨w5.heap.size, 3, none⟩ = some (.slice A54 X3.length c54) ∧ w'.cell? ⟨w5.heap.size, 4, none⟩ = some (.slice A63 X4.length c63) ∧ w'.cell? ⟨w6.heap.size, 0, none⟩ = some (.int .i64 T.f0) ∧ w'.cell? ⟨w6.heap.size, 1, none⟩ = some (.int .i64 T.f1) ∧ w'.cell? ⟨w6.heap.size, 2, none⟩ = some (.int .i64 T.f2) ∧ w'.cell? ⟨w6.heap.size, 3, none⟩ = some (.slice T3 T.f3.length t3) ∧ w'.cell? ⟨w6.heap.size, 4, none⟩ = some (.slice T4 T.f4.length t4) ∧ w'.cell? ⟨Wj.heap.size, 0, none⟩ = some (.int .i64 1) ∧ w'.cell? ⟨Wj.heap.size, 1, none⟩ = some (.int .i64 x1) ∧ w'.cell? ⟨Wj.heap.size, 2, none⟩ = some (.int .i64 x2) ∧ w'.cell? ⟨Wj.heap.size, 3, none⟩ = some (.slice A54 X3.length c54) ∧ w'.cell? ⟨Wj.heap.size, 4, none⟩ = some (.slice A6 Y4.length c6) ∧ w'.cell? ⟨wf.heap.size, 0, none⟩ = some (.int .i64 1) ∧ w'.cell? ⟨wf.heap.size, 1, none⟩ = some (.int .i64 x1) ∧ w'.cell? ⟨wf.heap.size, 2, none⟩ = some (.int .i64 x2) ∧ w'.cell? ⟨wf.heap.size, 3, none⟩ = some (.slice A88 Z3.length c88) ∧ w'.cell? ⟨wf.heap.size, 4, none⟩ = some (.slice A63 X4.length c63) ∧ w'.cell? ⟨w7.heap.size, 4, none⟩ = some (.slice (some ad) 1 j4) ∧ w'.cell? ⟨w.heap.size + 1, 0, none⟩ = some (.int .i64 y0) ∧ w'.cell? ad = some (.int .i64 T.f0) ∧ w'.cell? ⟨ad.block, ad.off + 1, none⟩ = some (.int .i64 T.f1) ∧ w'.cell? ⟨ad.block, ad.off + 2, none⟩ = some (.int .i64 T.f2) ∧ w'.cell? ⟨ad.block, ad.off + 3, none⟩ = some (.slice K3 T.f3.length k3) ∧ w'.cell? ⟨ad.block, ad.off + 4, none⟩ = some (.slice K4 T.f4.length k4)) (ds := []) #[false, false, false, false, false, false, false, false, false, false, false, false, false, false, false, false, false, false, false, false, false, false, false, false, false, false, false, false, false, false, false, false, false, false, false, false, false, false] (by kernel_rfl) rfl rfl ⟨q_BX_0, q_BX_1, q_BX_2, q_BX_3, q_BX_4, q_BT_0, q_BT_1, q_BT_2, q_BT_3, q_BT_4, q_BY_0, q_BY_1, q_BY_2, q_BY_3, q_BY_4, q_BZ_0, q_BZ_1, q_BZ_2, q_BZ_3, q_BZ_4, q_BJ_4, q_BM_0, j0', j1', j2', j3', j4'⟩ (fun hHeld => ?_)
            obtain ⟨wd, hwd⟩ : ∃ W, W = e13.drew := ⟨_, rfl⟩
            rw [← hwd] at hHeld ⊢
            have hbR : Below e13.heap.size e13 wd := by rw [hwd]; exact (Below.refl _ _).drew
            clear hwd
            refine take_ (i := 0) (N := some 90) (v := ?_) (a' := ?_) #[true, false, false, false, false, false, false, false, false, false, false, false, false, false, false, false, false, false, false, false, false, false, false, false, false, false, false, false, false, false, false, false, false, false, false, false, false, false] rfl rfl (by kernel_rfl) (fun _ _ _ h => h) (Or.inl ⟨by rfl, ?_⟩) hHeld ?_ ?_
            rotate_left
            · rintro w' ⟨s0, s1, s2, s3, s4, s5, s6, s7, s8, s9, s10, s11, s12, s13, s14, s15, s16, s17, s18, s19, s20, s21, s22, s23, s24, s25, s26⟩
              go_simp
              with_reducible rfl
            rotate_left
            · simp only [Act.put, List.setIfInBounds_toArray, List.set_cons_zero, List.set_cons_succ, i64_w, i32_w]
              rfl
            refine take_ (i := 2) (N := some 92) (v := ?_) (a' := ?_) #[true, false, true, false, false, false, false, false, false, false, false, false, false, false, false, false, false, false, false, false, false, false, false, false, false, false, false, false, false, false, false, false, false, false, false, false, false, false] rfl rfl (by kernel_rfl) (fun _ _ _ h => h) (Or.inl ⟨by rfl, ?_⟩) hHeld ?_ ?_
            rotate_left
            · rintro w' ⟨s0, s1, s2, s3, s4, s5, s6, s7, s8, s9, s10, s11, s12, s13, s14, s15, s16, s17, s18, s19, s20, s21, s22, s23, s24, s25, s26⟩
              go_simp
              with_reducible rfl
            rotate_left
            · simp only [Act.put, List.setIfInBounds_toArray, List.set_cons_zero, List.set_cons_succ, i64_w, i32_w]
              rfl
            refine one_ (i := 1) (N := some 91) #[true, true, true, false, false, false, false, false, false, false, false, false, false, false, false, false, false, false, false, false, false, false, false, false, false, false, false, false, false, false, false, false, false, false, false, false, false, false] rfl rfl (by kernel_rfl) (by decide) (fun K hK => ?_)
            refine goes_ Try.func16 (by kernel_rfl) rfl #[.agg #[.int .i64 1, .int .i64 x1, .int .i64 x2, .slice A54 X3.length c54, .slice A63 X4.length c63]] (by rfl) rfl rfl (by simp only [List.map_toArray, List.map_cons, List.map_nil]; rfl) ?_
            with_reducible refine (trim_Trim.calls kX 1 x1 x2 (fun _ => True) _ c54 X3 (fun _ => True) _ c63 X4 _ _ _ _ _ _ (V_ints (Kd.C_below HX3.out hbR) hlen54) (V_nodes (Kd.C_below HX4.out hbR) hlen63) HKX.out).mono ?_
            rintro e r1 ⟨v3, v4, rfl, hR3, hR4, hb⟩
            obtain ⟨Pa3, Pa3c, rfl, hPa3, hCPa3⟩ := Kd.R_reads hR3
            obtain ⟨Pa4, Pa4c, rfl, hPa4, hCPa4⟩ := Kd.R_reads hR4
            have HCPa3 := Lib.hid hCPa3; have HCPa4 := Lib.hid hCPa4
            clear hR3 hR4 hCPa3 hCPa4
            replace hPa3 : T.f3.length ≤ Pa3c := hPa3
            replace hPa4 : T.f4.length ≤ Pa4c := hPa4
            replace HCPa3 : Hid ((Kd.int .u8).C r1 Pa3 T.f3.length T.f3) := HCPa3
            replace HCPa4 : Hid (k25.C r1 Pa4 T.f4.length T.f4) := HCPa4
            refine ⟨_, rfl, ?_⟩
            replace hbR := hbR.trans (hb.mono hbR.size)
            clear hb
            refine hK.out _ _ ⟨(hbR.cell (p := ⟨w5.heap.size, 0, none⟩) l_BX).trans q_BX_0, (hbR.cell (p := ⟨w5.heap.size, 1, none⟩) l_BX).trans q_BX_1, (hbR.cell (p := ⟨w5.heap.size, 2, none⟩) l_BX).trans q_BX_2, (hbR.cell (p := ⟨w5.heap.size, 3, none⟩) l_BX).trans q_BX_3, (hbR.cell (p := ⟨w5.heap.size, 4, none⟩) l_BX).trans q_BX_4, (hbR.cell (p := ⟨w6.heap.size, 0, none⟩) l_BT).trans q_BT_0, (hbR.cell (p := ⟨w6.heap.size, 1, none⟩) l_BT).trans q_BT_1, (hbR.cell (p := ⟨w6.heap.size, 2, none⟩) l_BT).trans q_BT_2, (hbR.cell (p := ⟨w6.heap.size, 3, none⟩) l_BT).trans q_BT_3, (hbR.cell (p := ⟨w6.heap.size, 4, none⟩) l_BT).trans q_BT_4, (hbR.cell (p := ⟨Wj.heap.size, 0, none⟩) l_BY).trans q_BY_0, (hbR.cell (p := ⟨Wj.heap.size, 1, none⟩) l_BY).trans q_BY_1, (hbR.cell (p := ⟨Wj.heap.size, 2, none⟩) l_BY).trans q_BY_2, (hbR.cell (p := ⟨Wj.heap.size, 3, none⟩) l_BY).trans q_BY_3, (hbR.cell (p := ⟨Wj.heap.size, 4, none⟩) l_BY).trans q_BY_4, (hbR.cell (p := ⟨wf.heap.size, 0, none⟩) l_BZ).trans q_BZ_0, (hbR.cell (p := ⟨wf.heap.size, 1, none⟩) l_BZ).trans q_BZ_1, (hbR.cell (p := ⟨wf.heap.size, 2, none⟩) l_BZ).trans q_BZ_2, (hbR.cell (p := ⟨wf.heap.size, 3, none⟩) l_BZ).trans q_BZ_3, (hbR.cell (p := ⟨wf.heap.size, 4, none⟩) l_BZ).trans q_BZ_4, (hbR.cell (p := ⟨w7.heap.size, 4, none⟩) l_BJ).trans q_BJ_4, (hbR.cell (p := ⟨w.heap.size + 1, 0, none⟩) l_BM).trans q_BM_0, (hbR.cell (p := ad) l_ad).trans j0', (hbR.cell (p := ⟨ad.block, ad.off + 1, none⟩) l_ad).trans j1', (hbR.cell (p := ⟨ad.block, ad.off + 2, none⟩) l_ad).trans j2', (hbR.cell (p := ⟨ad.block, ad.off + 3, none⟩) l_ad).trans j3', (hbR.cell (p := ⟨ad.block, ad.off + 4, none⟩) l_ad).trans j4'⟩ (fun hHeld => ?_)
            clear hK K
            refine norm_ (a' := ?_) ?_ ?_
            rotate_left
            · show Act.put _ (some 91) _ = _
              simp only [Act.put, List.setIfInBounds_toArray, List.set_cons_zero, List.set_cons_succ, i64_w, i32_w]
              rfl
            refine one_ (i := 3) (N := some 93) #[true, true, true, true, false, false, false, false, false, false, false, false, false, false, false, false, false, false, false, false, false, false, false, false, false, false, false, false, false, false, false, false, false, false, false, false, false, false] rfl rfl (by kernel_rfl) (by decide) (fun K hK => ?_)
            refine goes_ Try.func15 (by kernel_rfl) rfl #[.agg #[.int .i64 T.f0, .int .i64 T.f1, .int .i64 T.f2, .slice Pa3 T.f3.length Pa3c, .slice Pa4 T.f4.length Pa4c], .agg #[.int .i64 T.f0, .int .i64 T.f1, .int .i64 T.f2, .slice T3 T.f3.length t3, .slice T4 T.f4.length t4]] (by rfl) rfl rfl (by simp only [List.map_toArray, List.map_cons, List.map_nil]; rfl) ?_
            with_reducible refine (capnpref10_Equal.calls eq1 T.f0 T.f1 T.f2 _ Pa3c T.f3 _ Pa4c T.f4 T.f0 T.f1 T.f2 T3 t3 T.f3 T4 t4 T.f4 true _ HCPa3.out hPa3 HCPa4.out hPa4 (Kd.C_below HT3.out hbR) ht3 (Kd.C_below HT4.out hbR) ht4 HQ1.out).mono ?_
            rintro e r2 ⟨rfl, hb⟩
            refine ⟨_, rfl, ?_⟩
            replace hbR := hbR.trans (hb.mono hbR.size)
            clear hb
            clear HCPa3 HCPa4
            refine hK.out _ _ ⟨(hbR.cell (p := ⟨w5.heap.size, 0, none⟩) l_BX).trans q_BX_0, (hbR.cell (p := ⟨w5.heap.size, 1, none⟩) l_BX).trans q_BX_1, (hbR.cell (p := ⟨w5.heap.size, 2, none⟩) l_BX).trans q_BX_2, (hbR.cell (p := ⟨w5.heap.size, 3, none⟩) l_BX).trans q_BX_3, (hbR.cell (p := ⟨w5.heap.size, 4, none⟩) l_BX).trans q_BX_4, (hbR.cell (p := ⟨w6.heap.size, 0, none⟩) l_BT).trans q_BT_0, (hbR.cell (p := ⟨w6.heap.size, 1, none⟩) l_BT).trans q_BT_1, (hbR.cell (p := ⟨w6.heap.size, 2, none⟩) l_BT).trans q_BT_2, (hbR.cell (p := ⟨w6.heap.size, 3, none⟩) l_BT).trans q_BT_3, (hbR.cell (p := ⟨w6.heap.size, 4, none⟩) l_BT).trans q_BT_4, (hbR.cell (p := ⟨Wj.heap.size, 0, none⟩) l_BY).trans q_BY_0, (hbR.cell (p := ⟨Wj.heap.size, 1, none⟩) l_BY).trans q_BY_1, (hbR.cell (p := ⟨Wj.heap.size, 2, none⟩) l_BY).trans q_BY_2, (hbR.cell (p := ⟨Wj.heap.size, 3, none⟩) l_BY).trans q_BY_3, (hbR.cell (p := ⟨Wj.heap.size, 4, none⟩) l_BY).trans q_BY_4, (hbR.cell (p := ⟨wf.heap.size, 0, none⟩) l_BZ).trans q_BZ_0, (hbR.cell (p := ⟨wf.heap.size, 1, none⟩) l_BZ).trans q_BZ_1, (hbR.cell (p := ⟨wf.heap.size, 2, none⟩) l_BZ).trans q_BZ_2, (hbR.cell (p := ⟨wf.heap.size, 3, none⟩) l_BZ).trans q_BZ_3, (hbR.cell (p := ⟨wf.heap.size, 4, none⟩) l_BZ).trans q_BZ_4, (hbR.cell (p := ⟨w7.heap.size, 4, none⟩) l_BJ).trans q_BJ_4, (hbR.cell (p := ⟨w.heap.size + 1, 0, none⟩) l_BM).trans q_BM_0, (hbR.cell (p := ad) l_ad).trans j0', (hbR.cell (p := ⟨ad.block, ad.off + 1, none⟩) l_ad).trans j1', (hbR.cell (p := ⟨ad.block, ad.off + 2, none⟩) l_ad).trans j2', (hbR.cell (p := ⟨ad.block, ad.off + 3, none⟩) l_ad).trans j3', (hbR.cell (p := ⟨ad.block, ad.off + 4, none⟩) l_ad).trans j4'⟩ (fun hHeld => ?_)
            clear hK K
            refine norm_ (a' := ?_) ?_ ?_
            rotate_left
            · show Act.put _ (some 93) _ = _
              simp only [Act.put, List.setIfInBounds_toArray, List.set_cons_zero, List.set_cons_succ, i64_w, i32_w]
              rfl
            refine pure_ (i := 4) (N := some 94) (v := ?_) (a' := ?_) #[true, true, true, true, true, false, false, false, false, false, false, false, false, false, false, false, false, false, false, false, false, false, false, false, false, false, false, false, false, false, false, false, false, false, false, false, false, false] rfl rfl (by kernel_rfl) (fun _ _ _ h => h) (Or.inl ⟨by rfl, ?_⟩) ?_ ?_
            rotate_left
            · intro w'
              go_simp
              with_reducible rfl
            rotate_left
            · simp only [Act.put, List.setIfInBounds_toArray, List.set_cons_zero, List.set_cons_succ, i64_w, i32_w]
              rfl
            refine pure_ (i := 5) (N := some 95) (v := ?_) (a' := ?_) #[true, true, true, true, true, true, false, false, false, false, false, false, false, false, false, false, false, false, false, false, false, false, false, false, false, false, false, false, false, false, false, false, false, false, false, false, false, false] rfl rfl (by kernel_rfl) (fun _ _ _ h => h) (Or.inl ⟨by rfl, ?_⟩) ?_ ?_
            rotate_left
            · intro w'
              go_simp
              with_reducible rfl
            rotate_left
            · simp only [Act.put, List.setIfInBounds_toArray, List.set_cons_zero, List.set_cons_succ, i64_w, i32_w]
              rfl
            refine take_ (i := 6) (N := some 96) (v := ?_) (a' := ?_) #[true, true, true, true, true, true, true, false, false, false, false, false, false, false, false, false, false, false, false, false, false, false, false, false, false, false, false, false, false, false, false, false, false, false, false, false, false, false] rfl rfl (by kernel_rfl) (fun _ _ _ h => h) (Or.inl ⟨by rfl, ?_⟩) hHeld ?_ ?_
            rotate_left
            · rintro w' ⟨s0, s1, s2, s3, s4, s5, s6, s7, s8, s9, s10, s11, s12, s13, s14, s15, s16, s17, s18, s19, s20, s21, s22, s23, s24, s25, s26⟩
              go_simp
              with_reducible rfl
            rotate_left
            · simp only [Act.put, List.setIfInBounds_toArray, List.set_cons_zero, List.set_cons_succ, i64_w, i32_w]
              rfl
            refine pure_ (i := 7) (N := some 97) (v := ?_) (a' := ?_) #[true, true, true, true, true, true, true, true, false, false, false, false, false, false, false, false, false, false, false, false, false, false, false, false, false, false, false, false, false, false, false, false, false, false, false, false, false, false] rfl rfl (by kernel_rfl) (fun _ _ _ h => h) (Or.inl ⟨by rfl, ?_⟩) ?_ ?_
            rotate_left
            · intro w'
              go_simp
              with_reducible rfl
            rotate_left
            · simp only [Act.put, List.setIfInBounds_toArray, List.set_cons_zero, List.set_cons_succ, i64_w, i32_w]
              rfl
            refine pure_ (i := 8) (N := some 98) (v := ?_) (a' := ?_) #[true, true, true, true, true, true, true, true, true, false, false, false, false, false, false, false, false, false, false, false, false, false, false, false, false, false, false, false, false, false, false, false, false, false, false, false, false, false] rfl rfl (by kernel_rfl) (fun _ _ _ h => h) (Or.inl ⟨by rfl, ?_⟩) ?_ ?_
            rotate_left
            · intro w'
              go_simp
              with_reducible rfl
            rotate_left
            · simp only [Act.put, List.setIfInBounds_toArray, List.set_cons_zero, List.set_cons_succ, i64_w, i32_w]
              rfl
            refine pure_ (i := 9) (N := some 99) (v := ?_) (a' := ?_) #[true, true, true, true, true, true, true, true, true, true, false, false, false, false, false, false, false, false, false, false, false, false, false, false, false, false, false, false, false, false, false, false, false, false, false, false, false, false] rfl rfl (by kernel_rfl) (fun _ _ _ h => h) (Or.inl ⟨by rfl, ?_⟩) ?_ ?_
            rotate_left
            · intro w'
              go_simp
              with_reducible rfl
            rotate_left
            · simp only [Act.put, List.setIfInBounds_toArray, List.set_cons_zero, List.set_cons_succ, i64_w, i32_w]
              rfl
            refine pure_ (i := 10) (N := some 100) (v := ?_) (a' := ?_) #[true, true, true, true, true, true, true, true, true, true, true, false, false, false, false, false, false, false, false, false, false, false, false, false, false, false, false, false, false, false, false, false, false, false, false, false, false, false] rfl rfl (by kernel_rfl) (fun _ _ _ h => h) (Or.inl ⟨by rfl, ?_⟩) ?_ ?_
            rotate_left
            · intro w'
              go_simp
              with_reducible rfl
            rotate_left
            · simp only [Act.put, List.setIfInBounds_toArray, List.set_cons_zero, List.set_cons_succ, i64_w, i32_w]
              rfl
            refine pure_ (i := 11) (N := some 101) (v := ?_) (a' := ?_) #[true, true, true, true, true, true, true, true, true, true, true, true, false, false, false, false, false, false, false, false, false, false, false, false, false, false, false, false, false, false, false, false, false, false, false, false, false, false] rfl rfl (by kernel_rfl) (fun _ _ _ h => h) (Or.inl ⟨by rfl, ?_⟩) ?_ ?_
            rotate_left
            · intro w'
              go_simp
              with_reducible rfl
            rotate_left
            · simp only [Act.put, List.setIfInBounds_toArray, List.set_cons_zero, List.set_cons_succ, i64_w, i32_w]
              rfl
            refine take_ (i := 12) (N := some 102) (v := ?_) (a' := ?_) #[true, true, true, true, true, true, true, true, true, true, true, true, true, false, false, false, false, false, false, false, false, false, false, false, false, false, false, false, false, false, false, false, false, false, false, false, false, false] rfl rfl (by kernel_rfl) (fun _ _ _ h => h) (Or.inl ⟨by rfl, ?_⟩) hHeld ?_ ?_
            rotate_left
            · rintro w' ⟨s0, s1, s2, s3, s4, s5, s6, s7, s8, s9, s10, s11, s12, s13, s14, s15, s16, s17, s18, s19, s20, s21, s22, s23, s24, s25, s26⟩
              go_simp
              with_reducible rfl
            rotate_left
            · simp only [Act.put, List.setIfInBounds_toArray, List.set_cons_zero, List.set_cons_succ, i64_w, i32_w]
              rfl
            refine pure_ (i := 13) (N := some 103) (v := ?_) (a' := ?_) #[true, true, true, true, true, true, true, true, true, true, true, true, true, true, false, false, false, false, false, false, false, false, false, false, false, false, false, false, false, false, false, false, false, false, false, false, false, false] rfl rfl (by kernel_rfl) (fun _ _ _ h => h) (Or.inl ⟨by rfl, ?_⟩) ?_ ?_
            rotate_left
            · intro w'
              go_simp
              with_reducible rfl
            rotate_left
            · simp only [Act.put, List.setIfInBounds_toArray, List.set_cons_zero, List.set_cons_succ, i64_w, i32_w]
              rfl
            refine take_ (i := 14) (N := some 104) (v := ?_) (a' := ?_) #[true, true, true, true, true, true, true, true, true, true, true, true, true, true, true, false, false, false, false, false, false, false, false, false, false, false, false, false, false, false, false, false, false, false, false, false, false, false] rfl rfl (by kernel_rfl) (fun _ _ _ h => h) (Or.inl ⟨by rfl, ?_⟩) hHeld ?_ ?_
            rotate_left
            · rintro w' ⟨s0, s1, s2, s3, s4, s5, s6, s7, s8, s9, s10, s11, s12, s13, s14, s15, s16, s17, s18, s19, s20, s21, s22, s23, s24, s25, s26⟩
              go_simp
              with_reducible rfl
            rotate_left
            · simp only [Act.put, List.setIfInBounds_toArray, List.set_cons_zero, List.set_cons_succ, i64_w, i32_w]
              rfl
            refine take_ (i := 15) (N := some 105) (v := ?_) (a' := ?_) #[true, true, true, true, true, true, true, true, true, true, true, true, true, true, true, true, false, false, false, false, false, false, false, false, false, false, false, false, false, false, false, false, false, false, false, false, false, false] rfl rfl (by kernel_rfl) (fun _ _ _ h => h) (Or.inl ⟨by rfl, ?_⟩) hHeld ?_ ?_
            rotate_left
            · rintro w' ⟨s0, s1, s2, s3, s4, s5, s6, s7, s8, s9, s10, s11, s12, s13, s14, s15, s16, s17, s18, s19, s20, s21, s22, s23, s24, s25, s26⟩
              go_simp
              with_reducible rfl
            rotate_left
            · simp only [Act.put, List.setIfInBounds_toArray, List.set_cons_zero, List.set_cons_succ, i64_w, i32_w]
              rfl
            refine one_ (i := 16) (N := some 106) #[true, true, true, true, true, true, true, true, true, true, true, true, true, true, true, true, true, false, false, false, false, false, false, false, false, false, false, false, false, false, false, false, false, false, false, false, false, false] rfl rfl (by kernel_rfl) (by decide) (fun K hK => ?_)
            refine goes_ Try.func15 (by kernel_rfl) rfl #[.agg #[.int .i64 T.f0, .int .i64 T.f1, .int .i64 T.f2, .slice K3 T.f3.length k3, .slice K4 T.f4.length k4], .agg #[.int .i64 T.f0, .int .i64 T.f1, .int .i64 T.f2, .slice T3 T.f3.length t3, .slice T4 T.f4.length t4]] (by rfl) rfl rfl (by simp only [List.map_toArray, List.map_cons, List.map_nil]; rfl) ?_
            with_reducible refine (capnpref10_Equal.calls eq1 T.f0 T.f1 T.f2 _ k3 T.f3 _ k4 T.f4 T.f0 T.f1 T.f2 T3 t3 T.f3 T4 t4 T.f4 true _ (Kd.C_below HK3.out hbR) hk3 (Kd.C_below HK4.out hbR) hk4 (Kd.C_below HT3.out hbR) ht3 (Kd.C_below HT4.out hbR) ht4 HQ1.out).mono ?_
            rintro e r3 ⟨rfl, hb⟩
            refine ⟨_, rfl, ?_⟩
            replace hbR := hbR.trans (hb.mono hbR.size)
            clear hb
            refine hK.out _ _ ⟨(hbR.cell (p := ⟨w5.heap.size, 0, none⟩) l_BX).trans q_BX_0, (hbR.cell (p := ⟨w5.heap.size, 1, none⟩) l_BX).trans q_BX_1, (hbR.cell (p := ⟨w5.heap.size, 2, none⟩) l_BX).trans q_BX_2, (hbR.cell (p := ⟨w5.heap.size, 3, none⟩) l_BX).trans q_BX_3, (hbR.cell (p := ⟨w5.heap.size, 4, none⟩) l_BX).trans q_BX_4, (hbR.cell (p := ⟨w6.heap.size, 0, none⟩) l_BT).trans q_BT_0, (hbR.cell (p := ⟨w6.heap.size, 1, none⟩) l_BT).trans q_BT_1, (hbR.cell (p := ⟨w6.heap.size, 2, none⟩) l_BT).trans q_BT_2, (hbR.cell (p := ⟨w6.heap.size, 3, none⟩) l_BT).trans q_BT_3, (hbR.cell (p := ⟨w6.heap.size, 4, none⟩) l_BT).trans q_BT_4, (hbR.cell (p := ⟨Wj.heap.size, 0, none⟩) l_BY).trans q_BY_0, (hbR.cell (p := ⟨Wj.heap.size, 1, none⟩) l_BY).trans q_BY_1, (hbR.cell (p := ⟨Wj.heap.size, 2, none⟩) l_BY).trans q_BY_2, (hbR.cell (p := ⟨Wj.heap.size, 3, none⟩) l_BY).trans q_BY_3, (hbR.cell (p := ⟨Wj.heap.size, 4, none⟩) l_BY).trans q_BY_4, (hbR.cell (p := ⟨wf.heap.size, 0, none⟩) l_BZ).trans q_BZ_0, (hbR.cell (p := ⟨wf.heap.size, 1, none⟩) l_BZ).trans q_BZ_1, (hbR.cell (p := ⟨wf.heap.size, 2, none⟩) l_BZ).trans q_BZ_2, (hbR.cell (p := ⟨wf.heap.size, 3, none⟩) l_BZ).trans q_BZ_3, (hbR.cell (p := ⟨wf.heap.size, 4, none⟩) l_BZ).trans q_BZ_4, (hbR.cell (p := ⟨w7.heap.size, 4, none⟩) l_BJ).trans q_BJ_4, (hbR.cell (p := ⟨w.heap.size + 1, 0, none⟩) l_BM).trans q_BM_0, (hbR.cell (p := ad) l_ad).trans j0', (hbR.cell (p := ⟨ad.block, ad.off + 1, none⟩) l_ad).trans j1', (hbR.cell (p := ⟨ad.block, ad.off + 2, none⟩) l_ad).trans j2', (hbR.cell (p := ⟨ad.block, ad.off + 3, none⟩) l_ad).trans j3', (hbR.cell (p := ⟨ad.block, ad.off + 4, none⟩) l_ad).trans j4'⟩ (fun hHeld => ?_)
            clear hK K
            refine norm_ (a' := ?_) ?_ ?_
            rotate_left
            · show Act.put _ (some 106) _ = _
              simp only [Act.put, List.setIfInBounds_toArray, List.set_cons_zero, List.set_cons_succ, i64_w, i32_w]
              rfl
            refine pure_ (i := 17) (N := some 107) (v := ?_) (a' := ?_) #[true, true, true, true, true, true, true, true, true, true, true, true, true, true, true, true, true, true, false, false, false, false, false, false, false, false, false, false, false, false, false, false, false, false, false, false, false, false] rfl rfl (by kernel_rfl) (fun _ _ _ h => h) (Or.inl ⟨by rfl, ?_⟩) ?_ ?_
            rotate_left
            · intro w'
              go_simp
              with_reducible rfl
            rotate_left
            · simp only [Act.put, List.setIfInBounds_toArray, List.set_cons_zero, List.set_cons_succ, i64_w, i32_w]
              rfl
            refine pure_ (i := 18) (N := some 108) (v := ?_) (a' := ?_) #[true, true, true, true, true, true, true, true, true, true, true, true, true, true, true, true, true, true, true, false, false, false, false, false, false, false, false, false, false, false, false, false, false, false, false, false, false, false] rfl rfl (by kernel_rfl) (fun _ _ _ h => h) (Or.inl ⟨by rfl, ?_⟩) ?_ ?_
            rotate_left
            · intro w'
              go_simp
              with_reducible rfl
            rotate_left
            · simp only [Act.put, List.setIfInBounds_toArray, List.set_cons_zero, List.set_cons_succ, i64_w, i32_w]
              rfl
            refine pure_ (i := 23) (N := some 113) (v := ?_) (a' := ?_) #[true, true, true, true, true, true, true, true, true, true, true, true, true, true, true, true, true, true, true, false, false, false, false, true, false, false, false, false, false, false, false, false, false, false, false, false, false, false] rfl rfl (by kernel_rfl) (fun _ _ _ h => h) (Or.inl ⟨by rfl, ?_⟩) ?_ ?_
            rotate_left
            · intro w'
              go_simp
              with_reducible rfl
            rotate_left
            · simp only [Act.put, List.setIfInBounds_toArray, List.set_cons_zero, List.set_cons_succ, i64_w, i32_w]
              rfl
            refine take_ (i := 19) (N := some 109) (v := ?_) (a' := ?_) #[true, true, true, true, true, true, true, true, true, true, true, true, true, true, true, true, true, true, true, true, false, false, false, true, false, false, false, false, false, false, false, false, false, false, false, false, false, false] rfl rfl (by kernel_rfl) (fun _ _ _ h => h) (Or.inl ⟨by rfl, ?_⟩) hHeld ?_ ?_
            rotate_left
            · rintro w' ⟨s0, s1, s2, s3, s4, s5, s6, s7, s8, s9, s10, s11, s12, s13, s14, s15, s16, s17, s18, s19, s20, s21, s22, s23, s24, s25, s26⟩
              go_simp
              with_reducible rfl
            rotate_left
            · simp only [Act.put, List.setIfInBounds_toArray, List.set_cons_zero, List.set_cons_succ, i64_w, i32_w]
              rfl
            refine take_ (i := 21) (N := some 111) (v := ?_) (a' := ?_) #[true, true, true, true, true, true, true, true, true, true, true, true, true, true, true, true, true, true, true, true, false, true, false, true, false, false, false, false, false, false, false, false, false, false, false, false, false, false] rfl rfl (by kernel_rfl) (fun _ _ _ h => h) (Or.inl ⟨by rfl, ?_⟩) hHeld ?_ ?_
            rotate_left
            · rintro w' ⟨s0, s1, s2, s3, s4, s5, s6, s7, s8, s9, s10, s11, s12, s13, s14, s15, s16, s17, s18, s19, s20, s21, s22, s23, s24, s25, s26⟩
              go_simp
              with_reducible rfl
            rotate_left
            · simp only [Act.put, List.setIfInBounds_toArray, List.set_cons_zero, List.set_cons_succ, i64_w, i32_w]
              rfl
            refine take_ (i := 24) (N := some 114) (v := ?_) (a' := ?_) #[true, true, true, true, true, true, true, true, true, true, true, true, true, true, true, true, true, true, true, true, false, true, false, true, true, false, false, false, false, false, false, false, false, false, false, false, false, false] rfl rfl (by kernel_rfl) (fun _ _ _ h => h) (Or.inl ⟨by rfl, ?_⟩) hHeld ?_ ?_
            rotate_left
            · rintro w' ⟨s0, s1, s2, s3, s4, s5, s6, s7, s8, s9, s10, s11, s12, s13, s14, s15, s16, s17, s18, s19, s20, s21, s22, s23, s24, s25, s26⟩
              go_simp
              with_reducible rfl
            rotate_left
            · simp only [Act.put, List.setIfInBounds_toArray, List.set_cons_zero, List.set_cons_succ, i64_w, i32_w]
              rfl
            refine pure_ (i := 25) (N := some 115) (v := ?_) (a' := ?_) #[true, true, true, true, true, true, true, true, true, true, true, true, true, true, true, true, true, true, true, true, false, true, false, true, true, true, false, false, false, false, false, false, false, false, false, false, false, false] rfl rfl (by kernel_rfl) (fun _ _ _ h => h) (Or.inl ⟨by rfl, ?_⟩) ?_ ?_
            rotate_left
            · intro w'
              go_simp
              with_reducible rfl
            rotate_left
            · simp only [Act.put, List.setIfInBounds_toArray, List.set_cons_zero, List.set_cons_succ, i64_w, i32_w]
              rfl
            refine one_ (i := 20) (N := some 110) #[true, true, true, true, true, true, true, true, true, true, true, true, true, true, true, true, true, true, true, true, true, true, false, true, true, true, false, false, false, false, false, false, false, false, false, false, false, false] rfl rfl (by kernel_rfl) (by decide) (fun K hK => ?_)
            refine goes_ Try.func16 (by kernel_rfl) rfl #[.agg #[.int .i64 1, .int .i64 x1, .int .i64 x2, .slice A54 X3.length c54, .slice A6 Y4.length c6]] (by rfl) rfl rfl (by simp only [List.map_toArray, List.map_cons, List.map_nil]; rfl) ?_
            with_reducible refine (trim_Trim.calls kY 1 x1 x2 (fun _ => True) _ c54 X3 (fun _ => True) _ c6 Y4 _ _ _ _ _ _ (V_ints (Kd.C_below HX3.out hbR) hlen54) (V_nodes (Kd.C_below HY4.out hbR) hcL) HKY.out).mono ?_
            rintro e r4 ⟨v3, v4, rfl, hR3, hR4, hb⟩
            obtain ⟨Pb3, Pb3c, rfl, hPb3, hCPb3⟩ := Kd.R_reads hR3
            obtain ⟨Pb4, Pb4c, rfl, hPb4, hCPb4⟩ := Kd.R_reads hR4
            have HCPb3 := Lib.hid hCPb3; have HCPb4 := Lib.hid hCPb4
            clear hR3 hR4 hCPb3 hCPb4
            replace hPb3 : TY.f3.length ≤ Pb3c := hPb3
            replace hPb4 : TY.f4.length ≤ Pb4c := hPb4
            replace HCPb3 : Hid ((Kd.int .u8).C r4 Pb3 TY.f3.length TY.f3) := HCPb3
            replace HCPb4 : Hid (k25.C r4 Pb4 TY.f4.length TY.f4) := HCPb4
            refine ⟨_, rfl, ?_⟩
            replace hbR := hbR.trans (hb.mono hbR.size)
            clear hb
            refine hK.out _ _ ⟨(hbR.cell (p := ⟨w5.heap.size, 0, none⟩) l_BX).trans q_BX_0, (hbR.cell (p := ⟨w5.heap.size, 1, none⟩) l_BX).trans q_BX_1, (hbR.cell (p := ⟨w5.heap.size, 2, none⟩) l_BX).trans q_BX_2, (hbR.cell (p := ⟨w5.heap.size, 3, none⟩) l_BX).trans q_BX_3, (hbR.cell (p := ⟨w5.heap.size, 4, none⟩) l_BX).trans q_BX_4, (hbR.cell (p := ⟨w6.heap.size, 0, none⟩) l_BT).trans q_BT_0, (hbR.cell (p := ⟨w6.heap.size, 1, none⟩) l_BT).trans q_BT_1, (hbR.cell (p := ⟨w6.heap.size, 2, none⟩) l_BT).trans q_BT_2, (hbR.cell (p := ⟨w6.heap.size, 3, none⟩) l_BT).trans q_BT_3, (hbR.cell (p := ⟨w6.heap.size, 4, none⟩) l_BT).trans q_BT_4, (hbR.cell (p := ⟨Wj.heap.size, 0, none⟩) l_BY).trans q_BY_0, (hbR.cell (p := ⟨Wj.heap.size, 1, none⟩) l_BY).trans q_BY_1, (hbR.cell (p := ⟨Wj.heap.size, 2, none⟩) l_BY).trans q_BY_2, (hbR.cell (p := ⟨Wj.heap.size, 3, none⟩) l_BY).trans q_BY_3, (hbR.cell (p := ⟨Wj.heap.size, 4, none⟩) l_BY).trans q_BY_4, (hbR.cell (p := ⟨wf.heap.size, 0, none⟩) l_BZ).trans q_BZ_0, (hbR.cell (p := ⟨wf.heap.size, 1, none⟩) l_BZ).trans q_BZ_1, (hbR.cell (p := ⟨wf.heap.size, 2, none⟩) l_BZ).trans q_BZ_2, (hbR.cell (p := ⟨wf.heap.size, 3, none⟩) l_BZ).trans q_BZ_3, (hbR.cell (p := ⟨wf.heap.size, 4, none⟩) l_BZ).trans q_BZ_4, (hbR.cell (p := ⟨w7.heap.size, 4, none⟩) l_BJ).trans q_BJ_4, (hbR.cell (p := ⟨w.heap.size + 1, 0, none⟩) l_BM).trans q_BM_0, (hbR.cell (p := ad) l_ad).trans j0', (hbR.cell (p := ⟨ad.block, ad.off + 1, none⟩) l_ad).trans j1', (hbR.cell (p := ⟨ad.block, ad.off + 2, none⟩) l_ad).trans j2', (hbR.cell (p := ⟨ad.block, ad.off + 3, none⟩) l_ad).trans j3', (hbR.cell (p := ⟨ad.block, ad.off + 4, none⟩) l_ad).trans j4'⟩ (fun hHeld => ?_)
            clear hK K
            refine norm_ (a' := ?_) ?_ ?_
            rotate_left
            · show Act.put _ (some 110) _ = _
              simp only [Act.put, List.setIfInBounds_toArray, List.set_cons_zero, List.set_cons_succ, i64_w, i32_w]
              rfl
            refine one_ (i := 22) (N := some 112) #[true, true, true, true, true, true, true, true, true, true, true, true, true, true, true, true, true, true, true, true, true, true, true, true, true, true, false, false, false, false, false, false, false, false, false, false, false, false] rfl rfl (by kernel_rfl) (by decide) (fun K hK => ?_)
            refine goes_ Try.func15 (by kernel_rfl) rfl #[.agg #[.int .i64 TY.f0, .int .i64 TY.f1, .int .i64 TY.f2, .slice Pb3 TY.f3.length Pb3c, .slice Pb4 TY.f4.length Pb4c], .agg #[.int .i64 T.f0, .int .i64 T.f1, .int .i64 T.f2, .slice T3 T.f3.length t3, .slice T4 T.f4.length t4]] (by rfl) rfl rfl (by simp only [List.map_toArray, List.map_cons, List.map_nil]; rfl) ?_
            with_reducible refine (capnpref10_Equal.calls eq3 TY.f0 TY.f1 TY.f2 _ Pb3c TY.f3 _ Pb4c TY.f4 T.f0 T.f1 T.f2 T3 t3 T.f3 T4 t4 T.f4 (y0 == 0) _ HCPb3.out hPb3 HCPb4.out hPb4 (Kd.C_below HT3.out hbR) ht3 (Kd.C_below HT4.out hbR) ht4 HQ3_.out).mono ?_
            rintro e r5 ⟨rfl, hb⟩
            refine ⟨_, rfl, ?_⟩
            replace hbR := hbR.trans (hb.mono hbR.size)
            clear hb
            clear HCPb3 HCPb4
            refine hK.out _ _ ⟨(hbR.cell (p := ⟨w5.heap.size, 0, none⟩) l_BX).trans q_BX_0, (hbR.cell (p := ⟨w5.heap.size, 1, none⟩) l_BX).trans q_BX_1, (hbR.cell (p := ⟨w5.heap.size, 2, none⟩) l_BX).trans q_BX_2, (hbR.cell (p := ⟨w5.heap.size, 3, none⟩) l_BX).trans q_BX_3, (hbR.cell (p := ⟨w5.heap.size, 4, none⟩) l_BX).trans q_BX_4, (hbR.cell (p := ⟨w6.heap.size, 0, none⟩) l_BT).trans q_BT_0, (hbR.cell (p := ⟨w6.heap.size, 1, none⟩) l_BT).trans q_BT_1, (hbR.cell (p := ⟨w6.heap.size, 2, none⟩) l_BT).trans q_BT_2, (hbR.cell (p := ⟨w6.heap.size, 3, none⟩) l_BT).trans q_BT_3, (hbR.cell (p := ⟨w6.heap.size, 4, none⟩) l_BT).trans q_BT_4, (hbR.cell (p := ⟨Wj.heap.size, 0, none⟩) l_BY).trans q_BY_0, (hbR.cell (p := ⟨Wj.heap.size, 1, none⟩) l_BY).trans q_BY_1, (hbR.cell (p := ⟨Wj.heap.size, 2, none⟩) l_BY).trans q_BY_2, (hbR.cell (p := ⟨Wj.heap.size, 3, none⟩) l_BY).trans q_BY_3, (hbR.cell (p := ⟨Wj.heap.size, 4, none⟩) l_BY).trans q_BY_4, (hbR.cell (p := ⟨wf.heap.size, 0, none⟩) l_BZ).trans q_BZ_0, (hbR.cell (p := ⟨wf.heap.size, 1, none⟩) l_BZ).trans q_BZ_1, (hbR.cell (p := ⟨wf.heap.size, 2, none⟩) l_BZ).trans q_BZ_2, (hbR.cell (p := ⟨wf.heap.size, 3, none⟩) l_BZ).trans q_BZ_3, (hbR.cell (p := ⟨wf.heap.size, 4, none⟩) l_BZ).trans q_BZ_4, (hbR.cell (p := ⟨w7.heap.size, 4, none⟩) l_BJ).trans q_BJ_4, (hbR.cell (p := ⟨w.heap.size + 1, 0, none⟩) l_BM).trans q_BM_0, (hbR.cell (p := ad) l_ad).trans j0', (hbR.cell (p := ⟨ad.block, ad.off + 1, none⟩) l_ad).trans j1', (hbR.cell (p := ⟨ad.block, ad.off + 2, none⟩) l_ad).trans j2', (hbR.cell (p := ⟨ad.block, ad.off + 3, none⟩) l_ad).trans j3', (hbR.cell (p := ⟨ad.block, ad.off + 4, none⟩) l_ad).trans j4'⟩ (fun hHeld => ?_)
            clear hK K
            refine norm_ (a' := ?_) ?_ ?_
            rotate_left
            · show Act.put _ (some 112) _ = _
              simp only [Act.put, List.setIfInBounds_toArray, List.set_cons_zero, List.set_cons_succ, i64_w, i32_w]
              rfl
            refine pure_ (i := 26) (N := some 116) (v := ?_) (a' := ?_) #[true, true, true, true, true, true, true, true, true, true, true, true, true, true, true, true, true, true, true, true, true, true, true, true, true, true, true, false, false, false, false, false, false, false, false, false, false, false] rfl rfl (by kernel_rfl) (fun _ _ _ h => h) (Or.inl ⟨by rfl, ?_⟩) ?_ ?_
            rotate_left
            · intro w'
              go_simp
              with_reducible rfl
            rotate_left
            · simp only [Act.put, List.setIfInBounds_toArray, List.set_cons_zero, List.set_cons_succ, i64_w, i32_w]
              rfl
            refine pure_ (i := 27) (N := some 117) (v := ?_) (a' := ?_) #[true, true, true, true, true, true, true, true, true, true, true, true, true, true, true, true, true, true, true, true, true, true, true, true, true, true, true, true, false, false, false, false, false, false, false, false, false, false] rfl rfl (by kernel_rfl) (fun _ _ _ h => h) (Or.inl ⟨by rfl, ?_⟩) ?_ ?_
            rotate_left
            · intro w'
              go_simp
              with_reducible rfl
            rotate_left
            · simp only [Act.put, List.setIfInBounds_toArray, List.set_cons_zero, List.set_cons_succ, i64_w, i32_w]
              rfl
            refine pure_ (i := 28) (N := some 118) (v := ?_) (a' := ?_) #[true, true, true, true, true, true, true, true, true, true, true, true, true, true, true, true, true, true, true, true, true, true, true, true, true, true, true, true, true, false, false, false, false, false, false, false, false, false] rfl rfl (by kernel_rfl) (fun _ _ _ h => h) (Or.inl ⟨by rfl, ?_⟩) ?_ ?_
            rotate_left
            · intro w'
              go_simp
              with_reducible rfl
            rotate_left
            · simp only [Act.put, List.setIfInBounds_toArray, List.set_cons_zero, List.set_cons_succ, i64_w, i32_w]
              rfl
            refine pure_ (i := 33) (N := some 123) (v := ?_) (a' := ?_) #[true, true, true, true, true, true, true, true, true, true, true, true, true, true, true, true, true, true, true, true, true, true, true, true, true, true, true, true, true, false, false, false, false, true, false, false, false, false] rfl rfl (by kernel_rfl) (fun _ _ _ h => h) (Or.inl ⟨by rfl, ?_⟩) ?_ ?_
            rotate_left
            · intro w'
              go_simp
              with_reducible rfl
            rotate_left
            · simp only [Act.put, List.setIfInBounds_toArray, List.set_cons_zero, List.set_cons_succ, i64_w, i32_w]
              rfl
            refine pure_ (i := 34) (N := some 124) (v := ?_) (a' := ?_) #[true, true, true, true, true, true, true, true, true, true, true, true, true, true, true, true, true, true, true, true, true, true, true, true, true, true, true, true, true, false, false, false, false, true, true, false, false, false] rfl rfl (by kernel_rfl) (fun _ _ _ h => h) (Or.inl ⟨by rfl, ?_⟩) ?_ ?_
            rotate_left
            · intro w'
              go_simp
              with_reducible rfl
            rotate_left
            · simp only [Act.put, List.setIfInBounds_toArray, List.set_cons_zero, List.set_cons_succ, i64_w, i32_w]
              rfl
            refine take_ (i := 29) (N := some 119) (v := ?_) (a' := ?_) #[true, true, true, true, true, true, true, true, true, true, true, true, true, true, true, true, true, true, true, true, true, true, true, true, true, true, true, true, true, true, false, false, false, true, true, false, false, false] rfl rfl (by kernel_rfl) (fun _ _ _ h => h) (Or.inl ⟨by rfl, ?_⟩) hHeld ?_ ?_
            rotate_left
            · rintro w' ⟨s0, s1, s2, s3, s4, s5, s6, s7, s8, s9, s10, s11, s12, s13, s14, s15, s16, s17, s18, s19, s20, s21, s22, s23, s24, s25, s26⟩
              go_simp
              with_reducible rfl
            rotate_left
            · simp only [Act.put, List.setIfInBounds_toArray, List.set_cons_zero, List.set_cons_succ, i64_w, i32_w]
              rfl
            refine take_ (i := 31) (N := some 121) (v := ?_) (a' := ?_) #[true, true, true, true, true, true, true, true, true, true, true, true, true, true, true, true, true, true, true, true, true, true, true, true, true, true, true, true, true, true, false, true, false, true, true, false, false, false] rfl rfl (by kernel_rfl) (fun _ _ _ h => h) (Or.inl ⟨by rfl, ?_⟩) hHeld ?_ ?_
            rotate_left
            · rintro w' ⟨s0, s1, s2, s3, s4, s5, s6, s7, s8, s9, s10, s11, s12, s13, s14, s15, s16, s17, s18, s19, s20, s21, s22, s23, s24, s25, s26⟩
              go_simp
              with_reducible rfl
            rotate_left
            · simp only [Act.put, List.setIfInBounds_toArray, List.set_cons_zero, List.set_cons_succ, i64_w, i32_w]
              rfl
            refine one_ (i := 30) (N := some 120) #[true, true, true, true, true, true, true, true, true, true, true, true, true, true, true, true, true, true, true, true, true, true, true, true, true, true, true, true, true, true, true, true, false, true, true, false, false, false] rfl rfl (by kernel_rfl) (by decide) (fun K hK => ?_)
            refine goes_ Try.func16 (by kernel_rfl) rfl #[.agg #[.int .i64 1, .int .i64 x1, .int .i64 x2, .slice A88 Z3.length c88, .slice A63 X4.length c63]] (by rfl) rfl rfl (by simp only [List.map_toArray, List.map_cons, List.map_nil]; rfl) ?_
            with_reducible refine (trim_Trim.calls kZ 1 x1 x2 (fun _ => True) _ c88 Z3 (fun _ => True) _ c63 X4 _ _ _ _ _ _ (V_ints (Kd.C_below HZ3.out hbR) hl88) (V_nodes (Kd.C_below HX4.out hbR) hlen63) HKZ.out).mono ?_
            rintro e r6 ⟨v3, v4, rfl, hR3, hR4, hb⟩
            obtain ⟨Pc3, Pc3c, rfl, hPc3, hCPc3⟩ := Kd.R_reads hR3
            obtain ⟨Pc4, Pc4c, rfl, hPc4, hCPc4⟩ := Kd.R_reads hR4
            have HCPc3 := Lib.hid hCPc3; have HCPc4 := Lib.hid hCPc4
            clear hR3 hR4 hCPc3 hCPc4
            replace hPc3 : TZ.f3.length ≤ Pc3c := hPc3
            replace hPc4 : TZ.f4.length ≤ Pc4c := hPc4
            replace HCPc3 : Hid ((Kd.int .u8).C r6 Pc3 TZ.f3.length TZ.f3) := HCPc3
            replace HCPc4 : Hid (k25.C r6 Pc4 TZ.f4.length TZ.f4) := HCPc4
            refine ⟨_, rfl, ?_⟩
            replace hbR := hbR.trans (hb.mono hbR.size)
            clear hb
            refine hK.out _ _ ⟨(hbR.cell (p := ⟨w5.heap.size, 0, none⟩) l_BX).trans q_BX_0, (hbR.cell (p := ⟨w5.heap.size, 1, none⟩) l_BX).trans q_BX_1, (hbR.cell (p := ⟨w5.heap.size, 2, none⟩) l_BX).trans q_BX_2, (hbR.cell (p := ⟨w5.heap.size, 3, none⟩) l_BX).trans q_BX_3, (hbR.cell (p := ⟨w5.heap.size, 4, none⟩) l_BX).trans q_BX_4, (hbR.cell (p := ⟨w6.heap.size, 0, none⟩) l_BT).trans q_BT_0, (hbR.cell (p := ⟨w6.heap.size, 1, none⟩) l_BT).trans q_BT_1, (hbR.cell (p := ⟨w6.heap.size, 2, none⟩) l_BT).trans q_BT_2, (hbR.cell (p := ⟨w6.heap.size, 3, none⟩) l_BT).trans q_BT_3, (hbR.cell (p := ⟨w6.heap.size, 4, none⟩) l_BT).trans q_BT_4, (hbR.cell (p := ⟨Wj.heap.size, 0, none⟩) l_BY).trans q_BY_0, (hbR.cell (p := ⟨Wj.heap.size, 1, none⟩) l_BY).trans q_BY_1, (hbR.cell (p := ⟨Wj.heap.size, 2, none⟩) l_BY).trans q_BY_2, (hbR.cell (p := ⟨Wj.heap.size, 3, none⟩) l_BY).trans q_BY_3, (hbR.cell (p := ⟨Wj.heap.size, 4, none⟩) l_BY).trans q_BY_4, (hbR.cell (p := ⟨wf.heap.size, 0, none⟩) l_BZ).trans q_BZ_0, (hbR.cell (p := ⟨wf.heap.size, 1, none⟩) l_BZ).trans q_BZ_1, (hbR.cell (p := ⟨wf.heap.size, 2, none⟩) l_BZ).trans q_BZ_2, (hbR.cell (p := ⟨wf.heap.size, 3, none⟩) l_BZ).trans q_BZ_3, (hbR.cell (p := ⟨wf.heap.size, 4, none⟩) l_BZ).trans q_BZ_4, (hbR.cell (p := ⟨w7.heap.size, 4, none⟩) l_BJ).trans q_BJ_4, (hbR.cell (p := ⟨w.heap.size + 1, 0, none⟩) l_BM).trans q_BM_0, (hbR.cell (p := ad) l_ad).trans j0', (hbR.cell (p := ⟨ad.block, ad.off + 1, none⟩) l_ad).trans j1', (hbR.cell (p := ⟨ad.block, ad.off + 2, none⟩) l_ad).trans j2', (hbR.cell (p := ⟨ad.block, ad.off + 3, none⟩) l_ad).trans j3', (hbR.cell (p := ⟨ad.block, ad.off + 4, none⟩) l_ad).trans j4'⟩ (fun hHeld => ?_)
            clear hK K
            refine norm_ (a' := ?_) ?_ ?_
            rotate_left
            · show Act.put _ (some 120) _ = _
              simp only [Act.put, List.setIfInBounds_toArray, List.set_cons_zero, List.set_cons_succ, i64_w, i32_w]
              rfl
            refine one_ (i := 32) (N := some 122) #[true, true, true, true, true, true, true, true, true, true, true, true, true, true, true, true, true, true, true, true, true, true, true, true, true, true, true, true, true, true, true, true, true, true, true, false, false, false] rfl rfl (by kernel_rfl) (by decide) (fun K hK => ?_)
            refine goes_ Try.func15 (by kernel_rfl) rfl #[.agg #[.int .i64 TZ.f0, .int .i64 TZ.f1, .int .i64 TZ.f2, .slice Pc3 TZ.f3.length Pc3c, .slice Pc4 TZ.f4.length Pc4c], .agg #[.int .i64 T.f0, .int .i64 T.f1, .int .i64 T.f2, .slice T3 T.f3.length t3, .slice T4 T.f4.length t4]] (by rfl) rfl rfl (by simp only [List.map_toArray, List.map_cons, List.map_nil]; rfl) ?_
            with_reducible refine (capnpref10_Equal.calls eq4 TZ.f0 TZ.f1 TZ.f2 _ Pc3c TZ.f3 _ Pc4c TZ.f4 T.f0 T.f1 T.f2 T3 t3 T.f3 T4 t4 T.f4 (bb == 0) _ HCPc3.out hPc3 HCPc4.out hPc4 (Kd.C_below HT3.out hbR) ht3 (Kd.C_below HT4.out hbR) ht4 HQ4_.out).mono ?_
            rintro e r7 ⟨rfl, hb⟩
            refine ⟨_, rfl, ?_⟩
            replace hbR := hbR.trans (hb.mono hbR.size)
            clear hb
            clear HCPc3 HCPc4
            refine hK.out _ _ ⟨(hbR.cell (p := ⟨w5.heap.size, 0, none⟩) l_BX).trans q_BX_0, (hbR.cell (p := ⟨w5.heap.size, 1, none⟩) l_BX).trans q_BX_1, (hbR.cell (p := ⟨w5.heap.size, 2, none⟩) l_BX).trans q_BX_2, (hbR.cell (p := ⟨w5.heap.size, 3, none⟩) l_BX).trans q_BX_3, (hbR.cell (p := ⟨w5.heap.size, 4, none⟩) l_BX).trans q_BX_4, (hbR.cell (p := ⟨w6.heap.size, 0, none⟩) l_BT).trans q_BT_0, (hbR.cell (p := ⟨w6.heap.size, 1, none⟩) l_BT).trans q_BT_1, (hbR.cell (p := ⟨w6.heap.size, 2, none⟩) l_BT).trans q_BT_2, (hbR.cell (p := ⟨w6.heap.size, 3, none⟩) l_BT).trans q_BT_3, (hbR.cell (p := ⟨w6.heap.size, 4, none⟩) l_BT).trans q_BT_4, (hbR.cell (p := ⟨Wj.heap.size, 0, none⟩) l_BY).trans q_BY_0, (hbR.cell (p := ⟨Wj.heap.size, 1, none⟩) l_BY).trans q_BY_1, (hbR.cell (p := ⟨Wj.heap.size, 2, none⟩) l_BY).trans q_BY_2, (hbR.cell (p := ⟨Wj.heap.size, 3, none⟩) l_BY).trans q_BY_3, (hbR.cell (p := ⟨Wj.heap.size, 4, none⟩) l_BY).trans q_BY_4, (hbR.cell (p := ⟨wf.heap.size, 0, none⟩) l_BZ).trans q_BZ_0, (hbR.cell (p := ⟨wf.heap.size, 1, none⟩) l_BZ).trans q_BZ_1, (hbR.cell (p := ⟨wf.heap.size, 2, none⟩) l_BZ).trans q_BZ_2, (hbR.cell (p := ⟨wf.heap.size, 3, none⟩) l_BZ).trans q_BZ_3, (hbR.cell (p := ⟨wf.heap.size, 4, none⟩) l_BZ).trans q_BZ_4, (hbR.cell (p := ⟨w7.heap.size, 4, none⟩) l_BJ).trans q_BJ_4, (hbR.cell (p := ⟨w.heap.size + 1, 0, none⟩) l_BM).trans q_BM_0, (hbR.cell (p := ad) l_ad).trans j0', (hbR.cell (p := ⟨ad.block, ad.off + 1, none⟩) l_ad).trans j1', (hbR.cell (p := ⟨ad.block, ad.off + 2, none⟩) l_ad).trans j2', (hbR.cell (p := ⟨ad.block, ad.off + 3, none⟩) l_ad).trans j3', (hbR.cell (p := ⟨ad.block, ad.off + 4, none⟩) l_ad).trans j4'⟩ (fun hHeld => ?_)
            clear hK K
            refine norm_ (a' := ?_) ?_ ?_
            rotate_left
            · show Act.put _ (some 122) _ = _
              simp only [Act.put, List.setIfInBounds_toArray, List.set_cons_zero, List.set_cons_succ, i64_w, i32_w]
              rfl
            refine pure_ (i := 35) (N := some 125) (v := ?_) (a' := ?_) #[true, true, true, true, true, true, true, true, true, true, true, true, true, true, true, true, true, true, true, true, true, true, true, true, true, true, true, true, true, true, true, true, true, true, true, true, false, false] rfl rfl (by kernel_rfl) (fun _ _ _ h => h) (Or.inl ⟨by rfl, ?_⟩) ?_ ?_
            rotate_left
            · intro w'
              go_simp
              with_reducible rfl
            rotate_left
            · simp only [Act.put, List.setIfInBounds_toArray, List.set_cons_zero, List.set_cons_succ, i64_w, i32_w]
              rfl
            refine pure_ (i := 36) (N := some 126) (v := ?_) (a' := ?_) #[true, true, true, true, true, true, true, true, true, true, true, true, true, true, true, true, true, true, true, true, true, true, true, true, true, true, true, true, true, true, true, true, true, true, true, true, true, false] rfl rfl (by kernel_rfl) (fun _ _ _ h => h) (Or.inl ⟨by rfl, ?_⟩) ?_ ?_
            rotate_left
            · intro w'
              go_simp
              with_reducible rfl
            rotate_left
            · simp only [Act.put, List.setIfInBounds_toArray, List.set_cons_zero, List.set_cons_succ, i64_w, i32_w]
              rfl
            refine pure_ (i := 37) (N := some 10) (v := ?_) (a' := ?_) #[true, true, true, true, true, true, true, true, true, true, true, true, true, true, true, true, true, true, true, true, true, true, true, true, true, true, true, true, true, true, true, true, true, true, true, true, true, true] rfl rfl (by kernel_rfl) (fun _ _ _ h => h) (Or.inl ⟨by rfl, ?_⟩) ?_ ?_
            rotate_left
            · intro w'
              go_simp
              with_reducible rfl
            rotate_left
            · simp only [Act.put, List.setIfInBounds_toArray, List.set_cons_zero, List.set_cons_succ, i64_w, i32_w]
              rfl
            refine done_ (by kernel_rfl) ?_
            go_wp2
            go_ret
            exact ⟨by simp, below_step HB13 hbR⟩
theorem ignores_true (n m : S25) (a1 a2 bb : Int) {A3 : Option Addr} {c3 : Nat} {A4 : Option Addr} {c4 : Nat} {F3 : Option Addr} {f3 : Nat} {F4 : Option Addr} {f4 : Nat} (w : World) (hok : okT n) (hs : tsize n ≤ 2000000) (hok2 : okT m) (hs2 : tsize m ≤ 2000000) (ha1 : 0 ≤ a1) (ha2 : 0 ≤ a2)
    (hr3 : Kd.C (Kd.int .u8) w A3 n.f3.length n.f3) (hc3 : n.f3.length ≤ c3) (hr4 : Kd.C k25 w A4 n.f4.length n.f4) (hc4 : n.f4.length ≤ c4)
    (hq3 : Kd.C (Kd.int .u8) w F3 m.f3.length m.f3) (hd3 : m.f3.length ≤ f3) (hq4 : Kd.C k25 w F4 m.f4.length m.f4) (hd4 : m.f4.length ≤ f4) :
    Calls Try.prog 5 #[.agg #[.int .i64 n.f0, .int .i64 n.f1, .int .i64 n.f2, .slice A3 n.f3.length c3, .slice A4 n.f4.length c4], .int .u8 a1, .int .u8 a2, .agg #[.int .i64 m.f0, .int .i64 m.f1, .int .i64 m.f2, .slice F3 m.f3.length f3, .slice F4 m.f4.length f4], .int .u8 bb] w fun e w' => e = .returned (.bool true) ∧ Below w.heap.size w w' := by
  cases n
  cases m
  exact ignores_calls _ _ _ _ _ _ _ _ _ _ _ _ _ _ _ _ _ _ _ _ _ w hok hs hok2 hs2 ha1 ha2 hr3 hc3 hr4 hc4 hq3 hd3 hq4 hd4
end Go.Proofs.Ytmbockhcmhghlaa.Pr
end
section
namespace Go.Proofs.Ytmbockhcmhghlaa.Pr
open Go.RowKit Go.ChangeShapes Go.WideShapes Go.ChangeAt Go.Proofs.YtmbockhcmhghlaaW.PrintWords Go.Proofs.YtmbockhcmhghlaaW.PrintLast Go.Proofs.YtmbockhcmhghlaaW.PrintMore
set_option linter.unusedVariables false
set_option linter.unusedSimpArgs false
theorem byte_range {n : Int} (h : (Lit.int .u8 n).wf = true) : 0 ≤ n ∧ n ≤ 255 := by
  simpa [Lit.wf, IntKind.min, IntKind.max, IntKind.signed, IntKind.bits] using h
theorem cells_each {w : World} {base : Nat} {a : Addr} {n : Nat} {cs : List Value} (h : w.cells? base a n = some cs) : cs.length = n ∧ ∀ (i : Nat) (u : Value), cs[i]? = some u → w.cell? (a.add i) = some u := by
  unfold World.cells? at h
  split at h
  · have hl := mapM_some_length h
    refine ⟨by simpa using hl, fun i u hu => ?_⟩
    have hi : i < n := by
      have := (List.getElem?_eq_some_iff.1 hu).1
      simp at hl; omega
    have := mapM_some_get h i i (by simp [hi])
    rw [this, hu]
  · cases h
section
variable {H : Type} {enc : TypeId × Value → H} {w : World} {base : Nat} {held : Bool}
theorem bulk_bytes {fuel : Nat} {cs : List Value} {x : DataW H × List MemPlace} (h : DataW.trod enc Try.prog w base (fun _ => true) held fuel 22 cs = some x) :
    ∃ (A : Option Addr) (c : Nat) (xs : List Int), cs = [.slice A xs.length c] ∧ xs.length ≤ c ∧ (Kd.int .u8).C w A xs.length xs ∧ (∀ n ∈ xs, 0 ≤ n ∧ n ≤ 255) ∧ xs.length + 1 ≤ Rows.uptoBulk x.1 := by
  rcases open_ints Try.underlying22 Try.underlying5 (by kernel_rfl) h with ⟨rfl, rfl⟩ | ⟨ad, len, cap, zs, rfl, hb, hle, hm, hz, rfl, hcell, hwz⟩
  · exact ⟨none, 0, [], rfl, Nat.le_refl _, Kd.C_nil _ _, by simp, by simp [Rows.uptoBulk]⟩
  · have hzl : zs.length = cap := by simpa using hz
    have htl : (zs.take len).length = len := by simp; omega
    have hlits : ∀ l : List Int, Rows.uptoBulkAll (lits (H := H) .u8 l) = l.length := fun l => by
      induction l with
      | nil => simp [lits, Rows.uptoBulkAll]
      | cons y l ih =>
        simp only [lits, List.map_cons, Rows.uptoBulkAll, Rows.uptoBulk, List.length_cons] at ih ⊢
        omega
    refine ⟨some ad, cap, zs.take len, by rw [htl], by omega, ⟨rfl, by rw [htl]; simp only [maxLen] at hm; omega, fun hp => ⟨ad, rfl, fun j p hj => ⟨[.int .u8 p], rfl, rfl, fun i u hu => ?_⟩⟩⟩, fun n hn => byte_range (hwz n (List.mem_of_mem_take hn)), ?_⟩
    · match i with
      | 0 =>
        obtain rfl : Value.int .u8 p = u := by simpa using hu
        have hjl := (List.getElem?_eq_some_iff.1 hj).1
        rw [htl] at hjl
        have := hcell j (by omega)
        rw [List.getElem?_take_of_lt hjl] at hj
        rw [List.getD_eq_getElem?_getD, hj] at this
        show w.cell? (ad.add (j * 1 + 0)) = _
        rw [Nat.mul_one, Nat.add_zero]
        exact this
      | i + 1 => simp at hu
    · simp only [Rows.uptoBulk, hlits]
      omega
theorem sizes_bulk : ∀ (L : List S25) (ds : List (DataW H)), L.length = ds.length → (∀ (i : Nat) (x : S25) (d : DataW H), L[i]? = some x → ds[i]? = some d → tsize x ≤ Rows.uptoBulk d) → tsizes L ≤ Rows.uptoBulkAll ds
  | [], _, _, _ => by simp [tsizes]
  | x :: L, [], h, _ => by simp at h
  | x :: L, d :: ds, h, hx => by
    have h1 := hx 0 x d rfl rfl
    have h2 := sizes_bulk L ds (by simpa using h) (fun i y e h1 h2 => hx (i + 1) y e (by simpa using h1) (by simpa using h2))
    simp only [tsizes, Rows.uptoBulkAll]; omega
theorem open_node : ∀ (fuel : Nat) (cs : List Value) (x : DataW H × List MemPlace), DataW.trod enc Try.prog w base (fun _ => true) held fuel 25 cs = some x → ∃ a : S25, k25.K w a cs ∧ okT a ∧ tsize a ≤ Rows.uptoBulk x.1 := by
  intro fuel
  induction fuel using Nat.strongRecOn with
  | _ fuel ih =>
  intro cs x h
  obtain ⟨xs, n, rfl, rfl, hl, hlen, hf⟩ := DataW.trod_struct Try.underlying25 h
  have z25 : Try.prog.cellsOf 25 = 5 := by kernel_rfl
  have z3 : Try.prog.cellsOf 3 = 1 := by kernel_rfl
  have zb : Try.prog.cellsOf 22 = 1 := by kernel_rfl
  have zn : Try.prog.cellsOf 23 = 1 := by kernel_rfl
  rw [z25] at hl
  match xs, hlen, cs, hl with
  | [y0, y1, y2, y3, y4], _, [c0, c1, c2, c3, c4], _ =>
  have h0 : DataW.trod enc Try.prog w base (fun _ => true) held n 3 [c0] = some y0 := by simpa [z3] using hf 0 _ rfl
  have h1 : DataW.trod enc Try.prog w base (fun _ => true) held n 3 [c1] = some y1 := by simpa [z3] using hf 1 _ rfl
  have h2 : DataW.trod enc Try.prog w base (fun _ => true) held n 3 [c2] = some y2 := by simpa [z3] using hf 2 _ rfl
  have h3 : DataW.trod enc Try.prog w base (fun _ => true) held n 22 [c3] = some y3 := by simpa [zb] using hf 3 _ rfl
  have h4 : DataW.trod enc Try.prog w base (fun _ => true) held n 23 [c4] = some y4 := by simpa [zn] using hf 4 _ rfl
  obtain ⟨n0, e0, rfl, _⟩ := DataW.trod_int Try.underlying3 h0
  obtain ⟨n1, e1, rfl, _⟩ := DataW.trod_int Try.underlying3 h1
  obtain ⟨n2, e2, rfl, _⟩ := DataW.trod_int Try.underlying3 h2
  obtain ⟨A3, k3, zs, e3, l3, g3, hzb, hb3⟩ := bulk_bytes h3
  simp only [List.cons.injEq, and_true] at e0 e1 e2 e3
  subst e0 e1 e2 e3
  have kids : ∃ (A : Option Addr) (c : Nat) (L : List S25), c4 = .slice A L.length c ∧ L.length ≤ c ∧ k25.C w A L.length L ∧ (∀ a ∈ L, okT a) ∧ tsizes L ≤ Rows.uptoBulk y4.1 := by
    rcases DataW.trod_slice Try.underlying23 h4 with ⟨e4, rfl⟩ | ⟨ad, len, cap, elems, rest, m, rfl, e4, rfl, hb, hle, hmax, hel0, hel, _, _⟩
    · simp only [List.cons.injEq, and_true] at e4
      exact ⟨none, 0, [], e4, Nat.le_refl _, Kd.C_nil _ _, by simp, by simp [tsizes]⟩
    · simp only [List.cons.injEq, and_true] at e4
      have each : ∀ i, i < len → ∃ (cs' : List Value) (a : S25), (∀ (j : Nat) (u : Value), cs'[j]? = some u → w.cell? ((ad.add (i * 5)).add j) = some u) ∧ cs'.length = 5 ∧ k25.K w a cs' ∧ okT a ∧ ∀ d, (elems.map (·.1))[i]? = some d → tsize a ≤ Rows.uptoBulk d := fun i hi => by
        have hq := hel i hi
        rw [z25, List.getElem?_eq_getElem (by omega)] at hq
        obtain ⟨cs', hc, ht⟩ := Option.bind_eq_some_iff.1 hq
        obtain ⟨a, hK, hok, hsz⟩ := ih m (by omega) cs' _ ht
        obtain ⟨hlc, hcc⟩ := cells_each hc
        refine ⟨cs', a, hcc, hlc, hK, hok, fun d hd => ?_⟩
        rw [List.getElem?_map, List.getElem?_eq_getElem (by omega)] at hd
        obtain rfl : elems[i].1 = d := by simpa using hd
        exact hsz
      classical
      let f : Nat → S25 := fun i => if hi : i < len then (each i hi).choose_spec.choose else ⟨0, 0, 0, [], []⟩
      have hfs : ∀ i (hi : i < len), f i = (each i hi).choose_spec.choose := fun i hi => dif_pos hi
      have hL : ((List.range len).map f).length = len := by simp
      have hget : ∀ (j : Nat) (p : S25), ((List.range len).map f)[j]? = some p → ∃ hj : j < len, p = (each j hj).choose_spec.choose := fun j p hp => by
        have hj : j < len := by have := (List.getElem?_eq_some_iff.1 hp).1; rwa [hL] at this
        refine ⟨hj, ?_⟩
        rw [← hfs j hj]
        simp [hj] at hp
        exact hp.symm
      refine ⟨some ad, cap, (List.range len).map f, by rw [hL]; exact e4, by rw [hL]; exact hle, ⟨rfl, by rw [hL]; simp only [maxLen] at hmax; omega, fun hp => ⟨ad, rfl, fun j p hj => ?_⟩⟩, fun a ha => ?_, ?_⟩
      · obtain ⟨hjl, rfl⟩ := hget j p hj
        obtain ⟨hc, hlc, hK, _⟩ := (each j hjl).choose_spec.choose_spec
        refine ⟨(each j hjl).choose, hlc, hK, fun i u hu => ?_⟩
        have := hc i u hu
        rw [Addr.add_add] at this
        exact this
      · obtain ⟨j, hj⟩ := List.getElem?_of_mem ha
        obtain ⟨hjl, rfl⟩ := hget j a hj
        exact (each j hjl).choose_spec.choose_spec.2.2.2.1
      · refine Nat.le_trans (sizes_bulk _ (elems.map (·.1)) (by simp; omega) fun i x d hx hd => ?_) (by simp only [Rows.uptoBulk]; omega)
        obtain ⟨hjl, rfl⟩ := hget i x hx
        exact (each i hjl).choose_spec.choose_spec.2.2.2.2 d hd
  obtain ⟨A4, k4, L, rfl, l4, g4, hLok, hb4⟩ := kids
  refine ⟨⟨n0, n1, n2, zs, L⟩, k25_mk w ⟨n0, n1, n2, zs, L⟩ l3 g3 l4 g4, .mk hzb hLok, ?_⟩
  simp only [tsize, Rows.uptoBulk, Rows.uptoBulkAll, List.map_cons, List.map_nil]
  omega
end
end Go.Proofs.Ytmbockhcmhghlaa.Pr
end
section
namespace Go.Proofs.Ytmbockhcmhghlaa.trimIgnoresExtensions
open Go.ChangeShapes Go.WideShapes Go.ChangeAt Go.RowKit Go.Joins Go.Proofs.Ytmbockhcmhghlaa.Pr
set_option linter.unusedVariables false
set_option linter.unusedSimpArgs false
theorem own : ownKnob Try.prog.godebug = none := by kernel_rfl
theorem laidOut : laidOutB Try.prog = true := by kernel_rfl
theorem contract (H : Type) (enc : TypeId × Value → H) (W : World) (base : Nat) (args : Array Value) (ds gs : List (DataW H)) (before : List MemPlace)
    (hval0 : ∀ (j : Nat) t v, Try.f5.params[j]? = some t → args[j]? = some v → Value.okWide Try.prog W .any base t v)
    (hW : DataW.Whole enc Try.prog Try.f5.params.toList Rows.trimIgnoresExtensionsSpec.vars false W args.toList ds gs before) (hbulk : Rows.uptoSmall H (ds ++ gs) = true) :
    Calls Try.prog 5 args W fun e W' => ∃ v, e = .returned v ∧ Rows.trimIgnoresExtensionsSpec.post enc Try.prog Try.f5 false true false false W args v W' := by
  have hval : ∀ (j : Nat) t v, Try.f5.params[j]? = some t → args[j]? = some v → Value.okWide Try.prog W .any base t v := hval0
  have hW' := hW
  obtain ⟨p, q, hA0, hV, rfl, hfz, hnd⟩ := hW
  have hA : DataW.TrodAll enc Try.prog W 0 (fun _ => true) true Try.f5.params.toList args.toList ds p := hA0
  rw [Try.params5] at hA hval
  obtain ⟨v0, vs0, d0, ds0, p0, q0, hargs, rfl, rfl, h0, r0⟩ := trodAll_cons hA
  obtain ⟨v1, vs1, d1, ds1, p1, q1, rfl, rfl, rfl, h1, r1⟩ := trodAll_cons r0
  obtain ⟨v2, vs2, d2, ds2, p2, q2, rfl, rfl, rfl, h2, r2⟩ := trodAll_cons r1
  obtain ⟨v3, vs3, d3, ds3, p3, q3, rfl, rfl, rfl, h3, r3⟩ := trodAll_cons r2
  obtain ⟨v4, vs4, d4, ds4, p4, q4, rfl, rfl, rfl, h4, r4⟩ := trodAll_cons r3
  obtain ⟨rfl, rfl, rfl⟩ := trodAll_nil r4
  obtain rfl : args = #[v0, v1, v2, v3, v4] := by cases args; simp_all
  obtain ⟨rfl, rfl⟩ := trodVars_none hV
  have k0 := h0
  have lt0 : ∀ x ∈ p0, x.block < W.heap.size := by obtain ⟨m, hm⟩ := k0; exact DataW.trod_lt m _ _ _ hm
  obtain ⟨cs0, rfl, hn0⟩ := okWide_struct Try.underlying25 (hval 0 25 v0 rfl rfl)
  obtain ⟨fuel0, hf0⟩ := h0
  obtain ⟨a0, K0, ok0, sz0⟩ := open_node _ _ _ hf0
  obtain ⟨A0_3, c0_3, A0_4, c0_4, e0, l0_3, g0_3, l0_4, g0_4⟩ := k25_open K0
  obtain rfl : cs0 = #[.int .i64 a0.f0, .int .i64 a0.f1, .int .i64 a0.f2, .slice A0_3 a0.f3.length c0_3, .slice A0_4 a0.f4.length c0_4] := by
    have e' : cs0.toList = _ := e0
    rw [← Array.toArray_toList (xs := cs0), e']
  clear K0 e0 hf0 hn0
  have sz0 : tsize a0 ≤ Rows.uptoBulk d0 := sz0
  have k1 := h1
  have lt1 : ∀ x ∈ p1, x.block < W.heap.size := by obtain ⟨m, hm⟩ := k1; exact DataW.trod_lt m _ _ _ hm
  obtain ⟨a1, rfl, _, _, w1⟩ := open_int Try.underlying5 (hval 1 5 v1 rfl rfl) h1
  clear h1
  have k2 := h2
  have lt2 : ∀ x ∈ p2, x.block < W.heap.size := by obtain ⟨m, hm⟩ := k2; exact DataW.trod_lt m _ _ _ hm
  obtain ⟨a2, rfl, _, _, w2⟩ := open_int Try.underlying5 (hval 2 5 v2 rfl rfl) h2
  clear h2
  have k3 := h3
  have lt3 : ∀ x ∈ p3, x.block < W.heap.size := by obtain ⟨m, hm⟩ := k3; exact DataW.trod_lt m _ _ _ hm
  obtain ⟨cs3, rfl, hn3⟩ := okWide_struct Try.underlying25 (hval 3 25 v3 rfl rfl)
  obtain ⟨fuel3, hf3⟩ := h3
  obtain ⟨a3, K3, ok3, sz3⟩ := open_node _ _ _ hf3
  obtain ⟨A3_3, c3_3, A3_4, c3_4, e3, l3_3, g3_3, l3_4, g3_4⟩ := k25_open K3
  obtain rfl : cs3 = #[.int .i64 a3.f0, .int .i64 a3.f1, .int .i64 a3.f2, .slice A3_3 a3.f3.length c3_3, .slice A3_4 a3.f4.length c3_4] := by
    have e' : cs3.toList = _ := e3
    rw [← Array.toArray_toList (xs := cs3), e']
  clear K3 e3 hf3 hn3
  have sz3 : tsize a3 ≤ Rows.uptoBulk d3 := sz3
  have k4 := h4
  have lt4 : ∀ x ∈ p4, x.block < W.heap.size := by obtain ⟨m, hm⟩ := k4; exact DataW.trod_lt m _ _ _ hm
  obtain ⟨a4, rfl, _, _, w4⟩ := open_int Try.underlying5 (hval 4 5 v4 rfl rfl) h4
  clear h4
  have hk : Rows.uptoBulk d0 + Rows.uptoBulk d1 + Rows.uptoBulk d2 + Rows.uptoBulk d3 + Rows.uptoBulk d4 ≤ 1048576 := by have h := of_decide_eq_true hbulk; simp only [Rows.uptoBulkAll, List.nil_append, List.append_nil, List.cons_append] at h; omega
  clear hA0 hval0
  refine (ignores_true a0 a3 a1 a2 a4 W ok0 (by omega) ok3 (by omega) (byte_range w1).1 (byte_range w2).1 g0_3 l0_3 g0_4 l0_4 g3_3 l3_3 g3_4 l3_4).mono fun e W' ⟨he, bel⟩ => ?_
  subst he
  exact ⟨_, rfl, _, _, _, [], _, [], hW', trodAll_mk1 (shut_bool Try.underlying4 _), (trodAll_cons_mk (Below.trod laidOut (by kernel_rfl) (of_decide_eq_true (by kernel_rfl)) k0 bel lt0) (trodAll_cons_mk (Below.trod laidOut (by kernel_rfl) (of_decide_eq_true (by kernel_rfl)) k1 bel lt1) (trodAll_cons_mk (Below.trod laidOut (by kernel_rfl) (of_decide_eq_true (by kernel_rfl)) k2 bel lt2) (trodAll_cons_mk (Below.trod laidOut (by kernel_rfl) (of_decide_eq_true (by kernel_rfl)) k3 bel lt3) (trodAll_cons_mk (Below.trod laidOut (by kernel_rfl) (of_decide_eq_true (by kernel_rfl)) k4 bel lt4) trodAll_mk0))))), rfl, bel.frame _, fun h => by cases h⟩
set_option maxRecDepth 100000 in
theorem lifted (os : Os) (started : os.Started) (H : Type) (enc : TypeId × Value → H) (F : Stop.Interp) :
    ReturnsInHanded {} Try.checked os 5 .any ((Rows.OpenSpec.upto Rows.trimIgnoresExtensionsSpec).pre6 enc Try.prog Try.f5 Rows.trimIgnoresExtensionsUptoRow.domain false) (((Rows.OpenSpec.upto Rows.trimIgnoresExtensionsSpec).at F).post enc Try.prog Try.f5 false true false false) := by
  refine returnsInHanded_of_cond (C := Try.checked) (s := (Rows.OpenSpec.upto Rows.trimIgnoresExtensionsSpec)) (k := Rows.uptoSmall) rfl own started (by kernel_rfl) Try.func5
    (OpenSpec.witness (enc := enc) (C := Try.checked) (s := (Rows.OpenSpec.upto Rows.trimIgnoresExtensionsSpec)) (k := Rows.uptoSmall) rfl false ⟨#[], #[.agg #[.int .i64 0, .int .i64 0, .int .i64 0, .slice none 0 0, .slice none 0 0], .int .u8 0, .int .u8 0, .agg #[.int .i64 0, .int .i64 0, .int .i64 0, .slice none 0 0, .slice none 0 0], .int .u8 0], []⟩ 8 (by kernel_rfl) (by kernel_rfl) (by kernel_rfl)
      (x := ([.agg [.lit (.int .i64 0), .lit (.int .i64 0), .lit (.int .i64 0), .nil, .nil], .lit (.int .u8 0), .lit (.int .u8 0), .agg [.lit (.int .i64 0), .lit (.int .i64 0), .lit (.int .i64 0), .nil, .nil], .lit (.int .u8 0)], [], [])) (by kernel_rfl) rfl (by kernel_rfl)) ?_
  intro W base args ds gs before hval hW _ hk _
  exact contract H enc W base args ds gs before hval hW hk
theorem over : Rows.trimIgnoresExtensionsUptoRow.holds Try.pinned (Rows.OpenSpec.upto Rows.trimIgnoresExtensionsSpec) :=
  OpenClaim.holds_of_cond 5 Try.f5 rfl rfl rfl rfl rfl rfl rfl ⟨rfl, rfl, rfl, rfl, rfl⟩ rfl rfl rfl rfl rfl (by kernel_rfl) Try.func5 (by kernel_rfl)
    (of_decide_eq_true (by kernel_rfl)) (by unfold Func.isWrapper; first | (rw [if_pos (by decide +kernel)]; kernel_rfl) | (rw [if_neg (by decide +kernel)]; exact ⟨rfl, rfl⟩))
    (fun os started H enc _ F => lifted os started H enc F)
theorem proved : Rows.TrimIgnoresExtensionsUptoSaid := over
#print axioms proved
end Go.Proofs.Ytmbockhcmhghlaa.trimIgnoresExtensions
namespace Go.Proofs.Ytmbockhcmhghlaa
theorem trimIgnoresExtensions_holds : Rows.TrimIgnoresExtensionsUptoSaid := trimIgnoresExtensions.proved
end Go.Proofs.Ytmbockhcmhghlaa
end
