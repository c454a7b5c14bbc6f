/- For every list of words, limits, cut and word: a list that the checker takes is refused when cut or one word longer: the law answers true and leaves its arguments as they were. The listed variables: the table of decoders, the elements' sizes. -/
import Derived.Test.YtidglmocekghmaaDoorBNEC
import Derived.Below
import Derived.Deep.Draws
import Derived.Deep.AppendLies
import Derived.Maps.AppendAt
import Derived.OwnWalk
import Derived.Laws.BytesArg
import Derived.Laws.MakeOwn
import Derived.Laws.OwnMore
import Derived.Deep.OwnRows
import Derived.Tactics
import Derived.Lib.ConvBytes
import Derived.Laws.Slices
import Derived.WalkKit
import Derived.KernelRfl
import Derived.RowKit3
import Derived.Deep.LoopGhost
import Derived.Deep.QuietTactic
import Derived.BigQuiet
import Derived.WideLaws
import Derived.Deep.DeepCutAuto
import Derived.Deep.CutBlock
import Derived.Deep.RegionHeld3
import Derived.Laws.Rows
import Derived.Lib.AppendStr
import Derived.ArgAppend
import Derived.Laws.IdiomCopy
import Derived.RowKit
import Derived.OrdersHeld
import Derived.Laws.BitsLemmas
import Derived.Laws.StructEq
import Derived.SizedLaws
import Derived.ChangeSlices
import Derived.Test.YtidglmocekghmaaDoorProg
import Derived.Lib.Hide
import Derived.WalkLawsBesides
import Derived.WalkSpells
import Derived.Outline
import Derived.IntWalk
import Derived.Laws.AppendOwn
import Derived.RangeFuncBox
import Derived.Lib.JoinLaws
import Derived.Defers
import Derived.Recover
import Derived.Laws.Pointers
import Derived.Test.YtidglmocekghmaaDoorCards
import Derived.ProofKit
import Derived.LaidMore
import Derived.LaidHandle
import Derived.Maps.Keyed
import Derived.WideKeyElems2
import Derived.Lib.LaidTab
import Derived.OpenShut
import Derived.Lib.SmallJoins
import Derived.Test.YtidglmocekghmaaDoorTie
import Derived.ShutString
import Derived.ChangeOld
import Derived.JoinedCond
import Derived.Deep.DeepHandedRow
section
namespace Go.Proofs.YtidglmocekghmaaDoor.Pr
open Go.RowKit Go.Proofs.YtidglmocekghmaaDoorW.PrintWords Go.Proofs.YtidglmocekghmaaDoorW.PrintLast Go.Proofs.YtidglmocekghmaaDoorW.PrintMore
set_option linter.unusedVariables false
set_option linter.unusedSimpArgs false
set_option maxRecDepth 100000 in
set_option maxHeartbeats 8000000 in
theorem capnplaw16_awake.calls (r : Bool) (w : World) (h : capnplaw16_awake.f = some r) (ht : Tabs w) : Calls Tryd.prog 8 #[] w fun e w' => e = .returned (.bool r) ∧ Below w.heap.size w w' := by
  obtain rfl : true = r := Option.some.inj h
  clear h
  have HT := Lib.hid ht
  clear ht
  go_enter Tryd.func8, Tryd.ntmps8
  have HB := Lib.hid (Below.refl w.heap.size w)
  go_wp2_with fail
  refine calls_at (fun wa0 hW => ?_)
  have hb : Below w.heap.size w wa0 := by rw [hW]; exact ((Below.refl _ _).alloc (Nat.le_refl _) _).alloc (by simp) _
  have nL : wa0.heap[w.heap.size]? = some (.cells #[.int .i64 5, .int .i64 50, .int .i64 0] 24 (0, 0)) := by rw [hW]; exact blk_alloc (heap_alloc_new _ _) _
  have nS : wa0.heap[w.heap.size + 1]? = some (.cells (nums .u64 [4294967296, 5]).toArray 32 (0, 0)) := by rw [hW]; exact blk_new _ _ _ (by simp)
  clear hW
  replace HB := Lib.hid (below_step HB.out hb)
  replace HT := Lib.hid (HT.out.below hb)
  clear hb
  have L := Lib.hid nL
  clear nL
  have hc := canoncheck_Words.calls 0 _ 2 [4294967296, 5] 5 50 0 true wa0 (C_ints nS (by decide)) (Nat.le_refl _) ex0 HT.out
  refine hc.mono ?_
  clear hc nS
  rintro e w1 ⟨rfl, hb⟩
  replace HB := Lib.hid (below_step HB.out hb)
  replace HT := Lib.hid (HT.out.below hb)
  replace L := Lib.hid (blk_below L.out hb)
  clear hb
  have l_L : w.heap.size < w1.heap.size := blk_lt L.out
  have q_L_0 : w1.cell? ⟨w.heap.size, 0, none⟩ = some (.int .i64 5) := (blk_cell L.out 0).trans rfl
  have q_L_1 : w1.cell? ⟨w.heap.size, 1, none⟩ = some (.int .i64 50) := (blk_cell L.out 1).trans rfl
  have q_L_2 : w1.cell? ⟨w.heap.size, 2, none⟩ = some (.int .i64 0) := (blk_cell L.out 2).trans rfl
  go_wp2_with fail
  clear l_L q_L_0 q_L_1 q_L_2
  refine calls_at (fun wa1 hW => ?_)
  have hb : Below w1.heap.size w1 wa1 := by rw [hW]; exact (Below.refl _ _).alloc (Nat.le_refl _) _
  have nS : wa1.heap[w1.heap.size]? = some (.cells (nums .u64 [4294967296, 0]).toArray 32 (0, 0)) := by rw [hW]; exact heap_alloc_new _ _
  clear hW
  replace HB := Lib.hid (below_step HB.out hb)
  replace HT := Lib.hid (HT.out.below hb)
  replace L := Lib.hid (blk_below L.out hb)
  clear hb
  have hc := canoncheck_Words.calls 0 _ 2 [4294967296, 0] 5 50 0 false wa1 (C_ints nS (by decide)) (Nat.le_refl _) ex1 HT.out
  refine hc.mono ?_
  clear hc nS
  rintro e w2 ⟨rfl, hb⟩
  replace HB := Lib.hid (below_step HB.out hb)
  replace HT := Lib.hid (HT.out.below hb)
  replace L := Lib.hid (blk_below L.out hb)
  clear hb
  have l_L : w.heap.size < w2.heap.size := blk_lt L.out
  have q_L_0 : w2.cell? ⟨w.heap.size, 0, none⟩ = some (.int .i64 5) := (blk_cell L.out 0).trans rfl
  have q_L_1 : w2.cell? ⟨w.heap.size, 1, none⟩ = some (.int .i64 50) := (blk_cell L.out 1).trans rfl
  have q_L_2 : w2.cell? ⟨w.heap.size, 2, none⟩ = some (.int .i64 0) := (blk_cell L.out 2).trans rfl
  go_wp2_with fail
  clear l_L q_L_0 q_L_1 q_L_2
  refine calls_at (fun wa2 hW => ?_)
  have hb : Below w2.heap.size w2 wa2 := by rw [hW]; exact (Below.refl _ _).alloc (Nat.le_refl _) _
  have nS : wa2.heap[w2.heap.size]? = some (.cells (nums .u64 [4294967296, 5, 0]).toArray 32 (0, 0)) := by rw [hW]; exact heap_alloc_new _ _
  clear hW
  replace HB := Lib.hid (below_step HB.out hb)
  replace HT := Lib.hid (HT.out.below hb)
  replace L := Lib.hid (blk_below L.out hb)
  clear hb
  have hc := canoncheck_Words.calls 0 _ 3 [4294967296, 5, 0] 5 50 0 false wa2 (C_ints nS (by decide)) (Nat.le_refl _) ex2 HT.out
  refine hc.mono ?_
  clear hc nS
  rintro e w3 ⟨rfl, hb⟩
  replace HB := Lib.hid (below_step HB.out hb)
  replace HT := Lib.hid (HT.out.below hb)
  replace L := Lib.hid (blk_below L.out hb)
  clear hb
  have l_L : w.heap.size < w3.heap.size := blk_lt L.out
  have q_L_0 : w3.cell? ⟨w.heap.size, 0, none⟩ = some (.int .i64 5) := (blk_cell L.out 0).trans rfl
  have q_L_1 : w3.cell? ⟨w.heap.size, 1, none⟩ = some (.int .i64 50) := (blk_cell L.out 1).trans rfl
  have q_L_2 : w3.cell? ⟨w.heap.size, 2, none⟩ = some (.int .i64 0) := (blk_cell L.out 2).trans rfl
  go_wp2_with fail
  clear l_L q_L_0 q_L_1 q_L_2
  refine calls_at (fun wa3 hW => ?_)
  have hb : Below w3.heap.size w3 wa3 := by rw [hW]; exact (Below.refl _ _).alloc (Nat.le_refl _) _
  have nS : wa3.heap[w3.heap.size]? = some (.cells (nums .u64 [4294967300, 0, 5]).toArray 32 (0, 0)) := by rw [hW]; exact heap_alloc_new _ _
  clear hW
  replace HB := Lib.hid (below_step HB.out hb)
  replace HT := Lib.hid (HT.out.below hb)
  replace L := Lib.hid (blk_below L.out hb)
  clear hb
  have hc := canoncheck_Words.calls 0 _ 3 [4294967300, 0, 5] 5 50 0 false wa3 (C_ints nS (by decide)) (Nat.le_refl _) ex3 HT.out
  refine hc.mono ?_
  clear hc nS
  rintro e w4 ⟨rfl, hb⟩
  replace HB := Lib.hid (below_step HB.out hb)
  replace HT := Lib.hid (HT.out.below hb)
  replace L := Lib.hid (blk_below L.out hb)
  clear hb
  have l_L : w.heap.size < w4.heap.size := blk_lt L.out
  have q_L_0 : w4.cell? ⟨w.heap.size, 0, none⟩ = some (.int .i64 5) := (blk_cell L.out 0).trans rfl
  have q_L_1 : w4.cell? ⟨w.heap.size, 1, none⟩ = some (.int .i64 50) := (blk_cell L.out 1).trans rfl
  have q_L_2 : w4.cell? ⟨w.heap.size, 2, none⟩ = some (.int .i64 0) := (blk_cell L.out 2).trans rfl
  go_wp2_with fail
  clear l_L q_L_0 q_L_1 q_L_2
  refine calls_at (fun wa4 hW => ?_)
  have hb : Below w4.heap.size w4 wa4 := by rw [hW]; exact (Below.refl _ _).alloc (Nat.le_refl _) _
  have nS : wa4.heap[w4.heap.size]? = some (.cells (nums .u64 [0]).toArray 32 (0, 0)) := by rw [hW]; exact heap_alloc_new _ _
  clear hW
  replace HB := Lib.hid (below_step HB.out hb)
  replace HT := Lib.hid (HT.out.below hb)
  replace L := Lib.hid (blk_below L.out hb)
  clear hb
  have hc := canoncheck_Words.calls 0 _ 1 [0] 5 50 0 true wa4 (C_ints nS (by decide)) (Nat.le_refl _) ex4 HT.out
  refine hc.mono ?_
  clear hc nS
  rintro e w5 ⟨rfl, hb⟩
  replace HB := Lib.hid (below_step HB.out hb)
  replace HT := Lib.hid (HT.out.below hb)
  replace L := Lib.hid (blk_below L.out hb)
  clear hb
  have l_L : w.heap.size < w5.heap.size := blk_lt L.out
  have q_L_0 : w5.cell? ⟨w.heap.size, 0, none⟩ = some (.int .i64 5) := (blk_cell L.out 0).trans rfl
  have q_L_1 : w5.cell? ⟨w.heap.size, 1, none⟩ = some (.int .i64 50) := (blk_cell L.out 1).trans rfl
  have q_L_2 : w5.cell? ⟨w.heap.size, 2, none⟩ = some (.int .i64 0) := (blk_cell L.out 2).trans rfl
  go_wp2_with fail
  clear l_L q_L_0 q_L_1 q_L_2
  refine calls_at (fun wa5 hW => ?_)
  have hb : Below w5.heap.size w5 wa5 := by rw [hW]; exact Below.refl _ _
  clear hW
  replace HB := Lib.hid (below_step HB.out hb)
  replace HT := Lib.hid (HT.out.below hb)
  replace L := Lib.hid (blk_below L.out hb)
  clear hb
  have hc := canoncheck_Words.calls 0 none 0 [] 5 50 0 false wa5 (Kd.C_nil _ _) (Nat.le_refl _) ex5 HT.out
  refine hc.mono ?_
  clear hc
  rintro e w6 ⟨rfl, hb⟩
  replace HB := Lib.hid (below_step HB.out hb)
  replace HT := Lib.hid (HT.out.below hb)
  replace L := Lib.hid (blk_below L.out hb)
  clear hb
  have l_L : w.heap.size < w6.heap.size := blk_lt L.out
  have q_L_0 : w6.cell? ⟨w.heap.size, 0, none⟩ = some (.int .i64 5) := (blk_cell L.out 0).trans rfl
  have q_L_1 : w6.cell? ⟨w.heap.size, 1, none⟩ = some (.int .i64 50) := (blk_cell L.out 1).trans rfl
  have q_L_2 : w6.cell? ⟨w.heap.size, 2, none⟩ = some (.int .i64 0) := (blk_cell L.out 2).trans rfl
  go_wp2_with fail
  clear l_L q_L_0 q_L_1 q_L_2
  refine calls_at (fun wa6 hW => ?_)
  have hb : Below w6.heap.size w6 wa6 := by rw [hW]; exact (Below.refl _ _).alloc (Nat.le_refl _) _
  have nS : wa6.heap[w6.heap.size]? = some (.cells (nums .u64 [4294967292]).toArray 32 (0, 0)) := by rw [hW]; exact heap_alloc_new _ _
  clear hW
  replace HB := Lib.hid (below_step HB.out hb)
  replace HT := Lib.hid (HT.out.below hb)
  replace L := Lib.hid (blk_below L.out hb)
  clear hb
  have hc := canoncheck_Words.calls 0 _ 1 [4294967292] 5 50 0 true wa6 (C_ints nS (by decide)) (Nat.le_refl _) ex6 HT.out
  refine hc.mono ?_
  clear hc nS
  rintro e w7 ⟨rfl, hb⟩
  replace HB := Lib.hid (below_step HB.out hb)
  replace HT := Lib.hid (HT.out.below hb)
  replace L := Lib.hid (blk_below L.out hb)
  clear hb
  have l_L : w.heap.size < w7.heap.size := blk_lt L.out
  have q_L_0 : w7.cell? ⟨w.heap.size, 0, none⟩ = some (.int .i64 5) := (blk_cell L.out 0).trans rfl
  have q_L_1 : w7.cell? ⟨w.heap.size, 1, none⟩ = some (.int .i64 50) := (blk_cell L.out 1).trans rfl
  have q_L_2 : w7.cell? ⟨w.heap.size, 2, none⟩ = some (.int .i64 0) := (blk_cell L.out 2).trans rfl
  go_wp2_with fail
  clear l_L q_L_0 q_L_1 q_L_2
  refine calls_at (fun wa7 hW => ?_)
  have hb : Below w7.heap.size w7 wa7 := by rw [hW]; exact (Below.refl _ _).alloc (Nat.le_refl _) _
  have nS : wa7.heap[w7.heap.size]? = some (.cells (nums .u64 [562949953421312, 0, 0]).toArray 32 (0, 0)) := by rw [hW]; exact heap_alloc_new _ _
  clear hW
  replace HB := Lib.hid (below_step HB.out hb)
  replace HT := Lib.hid (HT.out.below hb)
  replace L := Lib.hid (blk_below L.out hb)
  clear hb
  have hc := canoncheck_Words.calls 0 _ 3 [562949953421312, 0, 0] 5 50 0 false wa7 (C_ints nS (by decide)) (Nat.le_refl _) ex7 HT.out
  refine hc.mono ?_
  clear hc nS
  rintro e w8 ⟨rfl, hb⟩
  replace HB := Lib.hid (below_step HB.out hb)
  replace HT := Lib.hid (HT.out.below hb)
  replace L := Lib.hid (blk_below L.out hb)
  clear hb
  have l_L : w.heap.size < w8.heap.size := blk_lt L.out
  have q_L_0 : w8.cell? ⟨w.heap.size, 0, none⟩ = some (.int .i64 5) := (blk_cell L.out 0).trans rfl
  have q_L_1 : w8.cell? ⟨w.heap.size, 1, none⟩ = some (.int .i64 50) := (blk_cell L.out 1).trans rfl
  have q_L_2 : w8.cell? ⟨w.heap.size, 2, none⟩ = some (.int .i64 0) := (blk_cell L.out 2).trans rfl
  go_wp2_with fail
  clear l_L q_L_0 q_L_1 q_L_2
  refine calls_at (fun wa8 hW => ?_)
  have hb : Below w8.heap.size w8 wa8 := by rw [hW]; exact (Below.refl _ _).alloc (Nat.le_refl _) _
  have nS : wa8.heap[w8.heap.size]? = some (.cells (nums .u64 [107374182401, 7]).toArray 32 (0, 0)) := by rw [hW]; exact heap_alloc_new _ _
  clear hW
  replace HB := Lib.hid (below_step HB.out hb)
  replace HT := Lib.hid (HT.out.below hb)
  replace L := Lib.hid (blk_below L.out hb)
  clear hb
  have hc := canoncheck_Words.calls 0 _ 2 [107374182401, 7] 5 50 0 true wa8 (C_ints nS (by decide)) (Nat.le_refl _) ex8 HT.out
  refine hc.mono ?_
  clear hc nS
  rintro e w9 ⟨rfl, hb⟩
  replace HB := Lib.hid (below_step HB.out hb)
  replace HT := Lib.hid (HT.out.below hb)
  replace L := Lib.hid (blk_below L.out hb)
  clear hb
  have l_L : w.heap.size < w9.heap.size := blk_lt L.out
  have q_L_0 : w9.cell? ⟨w.heap.size, 0, none⟩ = some (.int .i64 5) := (blk_cell L.out 0).trans rfl
  have q_L_1 : w9.cell? ⟨w.heap.size, 1, none⟩ = some (.int .i64 50) := (blk_cell L.out 1).trans rfl
  have q_L_2 : w9.cell? ⟨w.heap.size, 2, none⟩ = some (.int .i64 0) := (blk_cell L.out 2).trans rfl
  go_wp2_with fail
  clear l_L q_L_0 q_L_1 q_L_2
  refine calls_at (fun wa9 hW => ?_)
  have hb : Below w9.heap.size w9 wa9 := by rw [hW]; exact (Below.refl _ _).alloc (Nat.le_refl _) _
  have nS : wa9.heap[w9.heap.size]? = some (.cells (nums .u64 [107374182401, 15]).toArray 32 (0, 0)) := by rw [hW]; exact heap_alloc_new _ _
  clear hW
  replace HB := Lib.hid (below_step HB.out hb)
  replace HT := Lib.hid (HT.out.below hb)
  replace L := Lib.hid (blk_below L.out hb)
  clear hb
  have hc := canoncheck_Words.calls 0 _ 2 [107374182401, 15] 5 50 0 false wa9 (C_ints nS (by decide)) (Nat.le_refl _) ex9 HT.out
  refine hc.mono ?_
  clear hc nS
  rintro e w10 ⟨rfl, hb⟩
  replace HB := Lib.hid (below_step HB.out hb)
  replace HT := Lib.hid (HT.out.below hb)
  replace L := Lib.hid (blk_below L.out hb)
  clear hb
  have l_L : w.heap.size < w10.heap.size := blk_lt L.out
  have q_L_0 : w10.cell? ⟨w.heap.size, 0, none⟩ = some (.int .i64 5) := (blk_cell L.out 0).trans rfl
  have q_L_1 : w10.cell? ⟨w.heap.size, 1, none⟩ = some (.int .i64 50) := (blk_cell L.out 1).trans rfl
  have q_L_2 : w10.cell? ⟨w.heap.size, 2, none⟩ = some (.int .i64 0) := (blk_cell L.out 2).trans rfl
  go_wp2_with fail
  clear l_L q_L_0 q_L_1 q_L_2
  refine calls_at (fun wa10 hW => ?_)
  have hb : Below w10.heap.size w10 wa10 := by rw [hW]; exact (Below.refl _ _).alloc (Nat.le_refl _) _
  have nS : wa10.heap[w10.heap.size]? = some (.cells (nums .u64 [98784247809, 4294967304, 0, 5]).toArray 32 (0, 0)) := by rw [hW]; exact heap_alloc_new _ _
  clear hW
  replace HB := Lib.hid (below_step HB.out hb)
  replace HT := Lib.hid (HT.out.below hb)
  replace L := Lib.hid (blk_below L.out hb)
  clear hb
  have hc := canoncheck_Words.calls 0 _ 4 [98784247809, 4294967304, 0, 5] 5 50 0 true wa10 (C_ints nS (by decide)) (Nat.le_refl _) ex10 HT.out
  refine hc.mono ?_
  clear hc nS
  rintro e w11 ⟨rfl, hb⟩
  replace HB := Lib.hid (below_step HB.out hb)
  replace HT := Lib.hid (HT.out.below hb)
  replace L := Lib.hid (blk_below L.out hb)
  clear hb
  have l_L : w.heap.size < w11.heap.size := blk_lt L.out
  have q_L_0 : w11.cell? ⟨w.heap.size, 0, none⟩ = some (.int .i64 5) := (blk_cell L.out 0).trans rfl
  have q_L_1 : w11.cell? ⟨w.heap.size, 1, none⟩ = some (.int .i64 50) := (blk_cell L.out 1).trans rfl
  have q_L_2 : w11.cell? ⟨w.heap.size, 2, none⟩ = some (.int .i64 0) := (blk_cell L.out 2).trans rfl
  go_wp2_with fail
  clear l_L q_L_0 q_L_1 q_L_2
  refine calls_at (fun wa11 hW => ?_)
  have hb : Below w11.heap.size w11 wa11 := by rw [hW]; exact (Below.refl _ _).alloc (Nat.le_refl _) _
  have nS : wa11.heap[w11.heap.size]? = some (.cells (nums .u64 [98784247809, 4294967304, 0, 0]).toArray 32 (0, 0)) := by rw [hW]; exact heap_alloc_new _ _
  clear hW
  replace HB := Lib.hid (below_step HB.out hb)
  replace HT := Lib.hid (HT.out.below hb)
  replace L := Lib.hid (blk_below L.out hb)
  clear hb
  have hc := canoncheck_Words.calls 0 _ 4 [98784247809, 4294967304, 0, 0] 5 50 0 false wa11 (C_ints nS (by decide)) (Nat.le_refl _) ex11 HT.out
  refine hc.mono ?_
  clear hc nS
  rintro e w12 ⟨rfl, hb⟩
  replace HB := Lib.hid (below_step HB.out hb)
  replace HT := Lib.hid (HT.out.below hb)
  replace L := Lib.hid (blk_below L.out hb)
  clear hb
  have l_L : w.heap.size < w12.heap.size := blk_lt L.out
  have q_L_0 : w12.cell? ⟨w.heap.size, 0, none⟩ = some (.int .i64 5) := (blk_cell L.out 0).trans rfl
  have q_L_1 : w12.cell? ⟨w.heap.size, 1, none⟩ = some (.int .i64 50) := (blk_cell L.out 1).trans rfl
  have q_L_2 : w12.cell? ⟨w.heap.size, 2, none⟩ = some (.int .i64 0) := (blk_cell L.out 2).trans rfl
  go_wp2_with fail
  clear l_L q_L_0 q_L_1 q_L_2
  refine calls_at (fun wa12 hW => ?_)
  have hb : Below w12.heap.size w12 wa12 := by rw [hW]; exact (Below.refl _ _).alloc (Nat.le_refl _) _
  have nS : wa12.heap[w12.heap.size]? = some (.cells (nums .u64 [4294967296, 5]).toArray 32 (0, 0)) := by rw [hW]; exact heap_alloc_new _ _
  clear hW
  replace HB := Lib.hid (below_step HB.out hb)
  replace HT := Lib.hid (HT.out.below hb)
  replace L := Lib.hid (blk_below L.out hb)
  clear hb
  have hc := canoncheck_Words.calls 0 _ 2 [4294967296, 5] 5 0 0 false wa12 (C_ints nS (by decide)) (Nat.le_refl _) ex12 HT.out
  refine hc.mono ?_
  clear hc nS
  rintro e w13 ⟨rfl, hb⟩
  replace HB := Lib.hid (below_step HB.out hb)
  replace HT := Lib.hid (HT.out.below hb)
  replace L := Lib.hid (blk_below L.out hb)
  clear hb
  have l_L : w.heap.size < w13.heap.size := blk_lt L.out
  have q_L_0 : w13.cell? ⟨w.heap.size, 0, none⟩ = some (.int .i64 5) := (blk_cell L.out 0).trans rfl
  have q_L_1 : w13.cell? ⟨w.heap.size, 1, none⟩ = some (.int .i64 50) := (blk_cell L.out 1).trans rfl
  have q_L_2 : w13.cell? ⟨w.heap.size, 2, none⟩ = some (.int .i64 0) := (blk_cell L.out 2).trans rfl
  go_wp2
  go_ret
  exact ⟨rfl, HB.out⟩
end Go.Proofs.YtidglmocekghmaaDoor.Pr
end
section
namespace Go.Proofs.YtidglmocekghmaaDoor.Pr
open Go.RowKit Go.Proofs.YtidglmocekghmaaDoorW.PrintWords Go.Proofs.YtidglmocekghmaaDoorW.PrintLast Go.Proofs.YtidglmocekghmaaDoorW.PrintMore
attribute [local go_sem] max2_int min2_int max_two min_two max_three min_three max_four min_four
set_option linter.unusedVariables false
set_option linter.unusedSimpArgs false
def capnplaw16_CanoncheckEnds.j0 : Nat → List Int → Int → Int → Bool → Int → Int → Int → Option (Bool)
 | 0, _, _, _, _, _, _, _ => none
 | k + 1, x0, x2, x3, x24, x560000, x560001, x560002 => if x24 = true then ((capnplaw16_awake.f).bind fun t566 => (some t566)) else (if (x0.length : Int) = 0 then (none) else (if 0 ≤ (Int.tmod (wrap64 (x2)) (x0.length : Int)) then (if (Int.tmod (wrap64 (x2)) (x0.length : Int)) ≤ (x0.length : Int) then ((canoncheck_Words.f k (x0.take ((Int.tmod (wrap64 (x2)) (x0.length : Int)) : Int).toNat) x560000 x560001 x560002).bind fun t572 => (if t572 = true then (none) else ((some (([] : List Int) : List Int)).bind fun y573 => (if y573.length + x0.length < 17592186044416 then ((some (y573 ++ x0 : List Int)).bind fun y576 => ((some (([x3] : List Int) : List Int)).bind fun y579 => (if y576.length + y579.length < 17592186044416 then ((canoncheck_Words.f k (y576 ++ y579) x560000 x560001 x560002).bind fun t585 => (some (!t585))) else (none)))) else (none))))) else (none)) else (none)))
def capnplaw16_CanoncheckEnds.f (k : Nat) (l0 : List Int) (a1_0 : Int) (a1_1 : Int) (a1_2 : Int) (a2 : Int) (a3 : Int) : Option (Bool) := (capnplaw16_awake.f).bind fun t560 => (if t560 = true then ((capnpref12_Small.f k (([l0] : List (List Int))) a1_0 a1_1 a1_2).bind fun t564 => (if t564 = true then ((canoncheck_Words.f k l0 a1_0 a1_1 a1_2).bind fun t565 => (capnplaw16_CanoncheckEnds.j0 k l0 a2 a3 (!t565) a1_0 a1_1 a1_2)) else (capnplaw16_CanoncheckEnds.j0 k l0 a2 a3 true a1_0 a1_1 a1_2))) else (capnplaw16_CanoncheckEnds.j0 k l0 a2 a3 true a1_0 a1_1 a1_2))
def capnplaw16_CanoncheckEnds.T4 : Bool × List (List Nat × List Nat) := (true, [([], []), ([], []), ([0, 1], [0, 1]), ([], []), ([2, 3], [2, 3]), ([4], [4]), ([5, 4], [5]), ([6], [6]), ([6], [6]), ([7, 8, 6, 6], [6, 7, 8]), ([6], [6]), ([10, 6], [6, 10]), ([9, 11, 9, 6], [6, 9, 11]), ([6], [6]), ([12, 13, 12, 6], [6, 12, 13]), ([14, 6], [6, 14]), ([6, 15], [6, 15]), ([16, 14, 0, 1, 2, 3, 4, 5, 6, 7, 8, 9, 10, 11, 12, 13, 14, 15, 16], [16])])
def capnplaw16_CanoncheckEnds.B4 : List Nat := [0, 0, 3, 0, 15, 31, 63, 127, 127, 511, 127, 1151, 4095, 127, 16383, 32767, 65535, 131071]
theorem capnplaw16_CanoncheckEnds.tab4 : rtab .any (opsOf Tryd.f7 4) = capnplaw16_CanoncheckEnds.T4 := by kernel_rfl
theorem capnplaw16_CanoncheckEnds.bits4 : waitsOk capnplaw16_CanoncheckEnds.T4.2 capnplaw16_CanoncheckEnds.B4 = true := by kernel_rfl
set_option maxHeartbeats 8000000 in
set_option maxRecDepth 100000 in
theorem capnplaw16_CanoncheckEnds.calls (k : Nat) (P0_ : Nat → Prop) (A0 : Option Addr) (c0 : Nat) (l0 : List Int) (a1_0 : Int) (a1_1 : Int) (a1_2 : Int) (a2 : Int) (a3 : Int) (r : Bool) (w : World) (HT0 : Tabs w) (hs0 : Kd.V (Kd.int .u64) 32 w w.heap.size (fun k_ => P0_ k_) (.slice A0 l0.length c0) l0) (h : capnplaw16_CanoncheckEnds.f k l0 a1_0 a1_1 a1_2 a2 a3 = some r) :
  Calls Tryd.prog 7 #[.slice A0 l0.length c0, .agg #[.int .i64 a1_0, .int .i64 a1_1, .int .i64 a1_2], .int .u8 a2, .int .u64 a3] w fun e w' => e = .returned (.bool r) ∧ Below w.heap.size w w' := by
 have hu24 := Tryd.underlying24
 have HO0 := Aside0.mk (show Kd.V (Kd.int .u64) 32 w w.heap.size (fun k_ => (P0_ k_ ∨ w.heap.size ≤ k_)) (.slice A0 l0.length c0) l0 from Kd.V_mono hs0 (fun k_ hk => .inl hk))
 have HB := Aside0.mk (Below.refl w.heap.size w)
 have HTAB := Aside0.mk HT0
 have H : ((capnplaw16_awake.f).bind fun t560 => (if t560 = true then ((capnpref12_Small.f k (([l0] : List (List Int))) a1_0 a1_1 a1_2).bind fun t564 => (if t564 = true then ((canoncheck_Words.f k l0 a1_0 a1_1 a1_2).bind fun t565 => (capnplaw16_CanoncheckEnds.j0 k l0 a2 a3 (!t565) a1_0 a1_1 a1_2)) else (capnplaw16_CanoncheckEnds.j0 k l0 a2 a3 true a1_0 a1_1 a1_2))) else (capnplaw16_CanoncheckEnds.j0 k l0 a2 a3 true a1_0 a1_1 a1_2))) = some r := h
 clear h
 have HC5 := Aside0.mk H
 clear H
 go_enter Tryd.func7, Tryd.ntmps7
 go_upto_region 1 with (first | ((with_reducible refine gate_dst (N := 5) rfl ?_); (try (refine gate_guard (by rfl) ?_; dsimp only)); refine box_event ?hg (N := 5) ?hd (cs := #[.int .i64 a1_0, .int .i64 a1_1, .int .i64 a1_2]) (t := 24) ?hr ?_; (case hd => rfl); (case hg => rfl); (case hr => first | (go_simp; done) | (go_simp; rfl)); intro gb559 hg w6 hbox hb; have n0_ := Aside0.mk (Kd.V_below (Kd.V_elderB (by (with_reducible repeat (first | apply Kd.V_alloc | apply Kd.V_drewN | apply Kd.V_drew)); exact HO0.out) gb559 (Nat.le_of_eq hg.symm)) hb); have n1_ := Aside0.mk (below_step (by repeat (first | (with_reducible first | exact HB.out | apply below_alloc | apply pw_below_drewN | apply below_drew1) | exact HB.out)) hb); have n2_ := Aside0.mk (hbox); have n3_ := Aside0.mk ((by rw [hg]; exact (below_size (by repeat (first | (with_reducible first | exact HB.out | apply below_alloc | apply pw_below_drewN | apply below_drew1) | exact HB.out))) : w.heap.size ≤ gb559)); have n4_ := Aside0.mk ((by rw [hg]; exact (below_size (by repeat (first | (with_reducible first | exact HB.out | apply below_alloc | apply pw_below_drewN | apply below_drew1) | exact HB.out))) : w.heap.size ≤ gb559)); clear HO0; clear HB; have HO0 := n0_; have HB := n1_; have BK559 := n2_; have GW559 := n3_; have GE559 := n4_; clear n0_ n1_ n2_ n3_ n4_; clear hb hbox hg))
 (try simp only [Act.put, List.setIfInBounds_toArray, List.set_cons_zero, List.set_cons_succ])
 go_cut [24] (fun v24 wc => ∃ (kq : Nat) (x24_4 : Bool), v24 = .bool x24_4 ∧ Aside0 (capnplaw16_CanoncheckEnds.j0 kq l0 a2 a3 x24_4 a1_0 a1_1 a1_2 = some r) ∧ Aside0 (kq ≤ k) ∧ Aside0 (Kd.V (Kd.int .u64) 32 wc w.heap.size (fun k_ => (P0_ k_ ∨ w.heap.size ≤ k_) ∧ k_ ≠ gb559) (.slice A0 l0.length c0) l0) ∧ Aside0 (wc.heap[gb559]? = some (.cells #[.int .i64 a1_0, .int .i64 a1_1, .int .i64 a1_2] 24 (0, 0))) ∧ Aside0 (Below w.heap.size w wc))
 case first =>
  have H := HC5.out
  clear HC5
  replace H := Option.bind_eq_some_iff.mp H
  obtain ⟨t560, A70, H⟩ := H
  replace H : (if t560 = true then ((capnpref12_Small.f k (([l0] : List (List Int))) a1_0 a1_1 a1_2).bind fun t564 => (if t564 = true then ((canoncheck_Words.f k l0 a1_0 a1_1 a1_2).bind fun t565 => (capnplaw16_CanoncheckEnds.j0 k l0 a2 a3 (!t565) a1_0 a1_1 a1_2)) else (capnplaw16_CanoncheckEnds.j0 k l0 a2 a3 true a1_0 a1_1 a1_2))) else (capnplaw16_CanoncheckEnds.j0 k l0 a2 a3 true a1_0 a1_1 a1_2)) = some r := H
  have A7 := Aside0.mk A70
  clear A70
  by_cases c8 : t560 = true
  ·subst c8
   have H1 : ((capnpref12_Small.f k (([l0] : List (List Int))) a1_0 a1_1 a1_2).bind fun t564 => (if t564 = true then ((canoncheck_Words.f k l0 a1_0 a1_1 a1_2).bind fun t565 => (capnplaw16_CanoncheckEnds.j0 k l0 a2 a3 (!t565) a1_0 a1_1 a1_2)) else (capnplaw16_CanoncheckEnds.j0 k l0 a2 a3 true a1_0 a1_1 a1_2))) = some r := by rw [if_pos rfl] at H; exact H
   clear H
   have H := H1
   clear H1
   obtain ⟨y561, hy561⟩ : ∃ y_ : List (List Int), y_ = (([l0] : List (List Int))) := ⟨_, rfl⟩
   replace H : ((capnpref12_Small.f k y561 a1_0 a1_1 a1_2).bind fun t564 => (if t564 = true then ((canoncheck_Words.f k l0 a1_0 a1_1 a1_2).bind fun t565 => (capnplaw16_CanoncheckEnds.j0 k l0 a2 a3 (!t565) a1_0 a1_1 a1_2)) else (capnplaw16_CanoncheckEnds.j0 k l0 a2 a3 true a1_0 a1_1 a1_2))) = some r := by first | (rw [hy561]; with_reducible exact H) | (have H2_ := (Option.bind_some _ _).symm.trans H; rw [hy561]; with_reducible exact H2_) | (have H2_ := (Option.bind_some _ _).symm.trans H; with_reducible exact H2_) | with_reducible exact H | (rw [hy561]; exact H) | exact H
   have Ny561 := Aside0.mk hy561
   clear hy561
   replace H := Option.bind_eq_some_iff.mp H
   obtain ⟨t564, A90, H⟩ := H
   replace H : (if t564 = true then ((canoncheck_Words.f k l0 a1_0 a1_1 a1_2).bind fun t565 => (capnplaw16_CanoncheckEnds.j0 k l0 a2 a3 (!t565) a1_0 a1_1 a1_2)) else (capnplaw16_CanoncheckEnds.j0 k l0 a2 a3 true a1_0 a1_1 a1_2)) = some r := H
   have A9 := Aside0.mk A90
   clear A90
   by_cases c10 : t564 = true
   ·subst c10
    have H1 : ((canoncheck_Words.f k l0 a1_0 a1_1 a1_2).bind fun t565 => (capnplaw16_CanoncheckEnds.j0 k l0 a2 a3 (!t565) a1_0 a1_1 a1_2)) = some r := by rw [if_pos rfl] at H; exact H
    clear H
    have H := H1
    clear H1
    replace H := Option.bind_eq_some_iff.mp H
    obtain ⟨t565, A110, H⟩ := H
    replace H : (capnplaw16_CanoncheckEnds.j0 k l0 a2 a3 (!t565) a1_0 a1_1 a1_2) = some r := H
    have A11 := Aside0.mk A110
    clear A110
    have H' := Aside0.mk H
    clear H
    go_wp2_with (first | ((with_reducible refine gate_callee (f := 8) rfl ?_); refine goesL_ (some 10) rfl rfl Tryd.func8 (by kernel_rfl) rfl #[] rfl (by (try simp only [List.map_toArray, List.map_cons, List.map_nil]); first | done | rfl | (simp only [List.length_drop, List.length_take]; rfl)) ?_; (with_reducible refine (capnplaw16_awake.calls  true _ A7.out ?tab).mono ?_); (case tab => exact HTAB.out.below (by repeat (first | (with_reducible first | exact HB.out | apply below_alloc | apply pw_below_drewN | apply below_drew1 | refine below_set ?_ GE559.out) | exact HB.out))); rintro e w12 ⟨rfl, hb⟩; refine ⟨_, rfl, ?_⟩; have n0_ := Aside0.mk (Kd.V_below (by (with_reducible repeat (first | apply Kd.V_alloc | apply Kd.V_drewN | apply Kd.V_drew)); exact HO0.out) hb); have n1_ := Aside0.mk (blk_below (g := gb559) (o := .cells #[.int .i64 a1_0, .int .i64 a1_1, .int .i64 a1_2] 24 (0, 0)) (by (with_reducible repeat (first | refine blk_drewN ?_ _ | refine blk_drew ?_ | refine blk_alloc ?_ _)); exact BK559.out) hb); have n2_ := Aside0.mk (below_step (by repeat (first | (with_reducible first | exact HB.out | apply below_alloc | apply pw_below_drewN | apply below_drew1 | refine below_set ?_ GE559.out) | exact HB.out)) hb); clear HO0; clear BK559; clear HB; have HO0 := n0_; have BK559 := n1_; have HB := n2_; clear n0_ n1_ n2_; (try clear hb); (try clear hb2); (try clear hk); (try clear hi)) | ((with_reducible refine gate_dst (N := 14) rfl ?_); (try (refine gate_guard (by rfl) ?_; dsimp only)); refine Kd.N_lit (Kd.slice 32 (Kd.int .u64)) _ 22 ?hg (N' := 14) ?hd (xs := ([l0] : List (List Int))) (inner := [.slice A0 l0.length c0]) (ok := (fun k_ => (P0_ k_ ∨ w.heap.size ≤ k_) ∧ k_ ≠ gb559)) (okp := (fun k_ => (P0_ k_ ∨ w.heap.size ≤ k_) ∧ k_ ≠ gb559)) ?hr ?hp (fun _ hk => hk) ((show ∀ k_, w12.heap.size ≤ k_ → (fun k_ => (P0_ k_ ∨ w.heap.size ≤ k_) ∧ k_ ≠ gb559) k_ from fun k_ hk => ⟨(.inr (Nat.le_trans (below_size (by repeat (first | (with_reducible first | exact HB.out | apply below_alloc | apply pw_below_drewN | apply below_drew1 | refine below_set ?_ GE559.out) | exact HB.out))) hk)), Kd.freshB (g := gb559) (o := .cells #[.int .i64 a1_0, .int .i64 a1_1, .int .i64 a1_2] 24 (0, 0)) (by (with_reducible repeat (first | refine blk_drewN ?_ _ | refine blk_drew ?_ | refine blk_alloc ?_ _)); exact BK559.out) k_ hk⟩) _ (Nat.le_refl _)) (Below.refl _ _) (Nat.le_refl _) (by simp) ?_; (case hd => rfl); (case hg => rfl); (case hr => first | (go_simp; done) | (go_simp; rfl)); (case hp => exact (Reps.one (show Kd.FK (Kd.slice 32 (Kd.int .u64)) _ _ l0 [.slice A0 l0.length c0] from (Kd.FK_slice_mk (Kd.V_reads' (Kd.V_mono (ok' := (fun k_ => (P0_ k_ ∨ w.heap.size ≤ k_) ∧ k_ ≠ gb559)) (HO0.out) (fun k_ hk => ⟨hk.1, hk.2⟩))).2.1 (Kd.V_F (Kd.V_mono (ok' := (fun k_ => (P0_ k_ ∨ w.heap.size ≤ k_) ∧ k_ ≠ gb559)) (HO0.out) (fun k_ hk => ⟨hk.1, hk.2⟩))))) (Reps.none _ _))); intro v562 w13 ho14 hb hg_ hnew_; clear hg_ hnew_; (first | rw [← Ny561.out] at ho14 | (simp only [Int.reduceToNat] at ho14; rw [← Ny561.out] at ho14)); have n0_ := Aside0.mk (Kd.V_elder' (by (with_reducible repeat (first | apply Kd.V_alloc | apply Kd.V_drewN | apply Kd.V_drew)); exact HO0.out) (Kd.N_base ho14) hb); have n1_ := Aside0.mk (Kd.N_lower ho14 (below_size (by repeat (first | (with_reducible first | exact HB.out | apply below_alloc | apply pw_below_drewN | apply below_drew1 | refine below_set ?_ GE559.out) | exact HB.out)))); have n2_ := Aside0.mk (blk_below (g := gb559) (o := .cells #[.int .i64 a1_0, .int .i64 a1_1, .int .i64 a1_2] 24 (0, 0)) (by (with_reducible repeat (first | refine blk_drewN ?_ _ | refine blk_drew ?_ | refine blk_alloc ?_ _)); exact BK559.out) hb); have n3_ := Aside0.mk (below_step (by repeat (first | (with_reducible first | exact HB.out | apply below_alloc | apply pw_below_drewN | apply below_drew1 | refine below_set ?_ GE559.out) | exact HB.out)) hb); clear HO0; clear BK559; clear HB; have HO0 := n0_; have HO563 := n1_; have BK559 := n2_; have HB := n3_; clear n0_ n1_ n2_ n3_; clear hb ho14; have hcz15_0 : w13.cell? ⟨gb559, 0, none⟩ = some (.int .i64 a1_0) := (blk_cell BK559.out 0).trans rfl; have hcz15_1 : w13.cell? ⟨gb559, 1, none⟩ = some (.int .i64 a1_1) := (blk_cell BK559.out 1).trans rfl; have hcz15_2 : w13.cell? ⟨gb559, 2, none⟩ = some (.int .i64 a1_2) := (blk_cell BK559.out 2).trans rfl; have hfz15_0 := blk_frozen BK559.out 0; have hfz15_1 := blk_frozen BK559.out 1; have hfz15_2 := blk_frozen BK559.out 2; obtain ⟨Ao16, co16, eo16⟩ := Kd.N_slice HO563.out; subst eo16) | (go_at_call 9; (with_reducible refine (capnpref12_Small.calls k _ _ y561 a1_0 a1_1 a1_2 true _ ?side1 ?side2 A9.out).mono ?_); (case side1 => repeat (first | exact (Kd.N_reads' HO563.out).2.2 | (with_reducible refine Kd.C_alloc ?_ _) | (with_reducible refine Kd.C_drewN ?_ _) | (with_reducible refine Kd.C_drew ?_))); (case side2 => exact (Kd.N_reads' HO563.out).2.1); rintro e w17 ⟨rfl, hb⟩; have n0_ := Aside0.mk (Kd.V_below (by (with_reducible repeat (first | apply Kd.V_alloc | apply Kd.V_drewN | apply Kd.V_drew)); exact HO0.out) hb); have n1_ := Aside0.mk (Kd.N_below (by (with_reducible repeat (first | apply Kd.N_alloc | apply Kd.N_drewN | apply Kd.N_drew)); exact HO563.out) hb); have n2_ := Aside0.mk (blk_below (g := gb559) (o := .cells #[.int .i64 a1_0, .int .i64 a1_1, .int .i64 a1_2] 24 (0, 0)) (by (with_reducible repeat (first | refine blk_drewN ?_ _ | refine blk_drew ?_ | refine blk_alloc ?_ _)); exact BK559.out) hb); have n3_ := Aside0.mk (below_step (by repeat (first | (with_reducible first | exact HB.out | apply below_alloc | apply pw_below_drewN | apply below_drew1 | refine below_set ?_ GE559.out) | exact HB.out)) hb); clear HO0; clear HO563; clear BK559; clear HB; have HO0 := n0_; have HO563 := n1_; have BK559 := n2_; have HB := n3_; clear n0_ n1_ n2_ n3_; (try clear hb); (try clear hb2); (try clear hk); (try clear hi); have hcz18_0 : w17.cell? ⟨gb559, 0, none⟩ = some (.int .i64 a1_0) := (blk_cell BK559.out 0).trans rfl; have hcz18_1 : w17.cell? ⟨gb559, 1, none⟩ = some (.int .i64 a1_1) := (blk_cell BK559.out 1).trans rfl; have hcz18_2 : w17.cell? ⟨gb559, 2, none⟩ = some (.int .i64 a1_2) := (blk_cell BK559.out 2).trans rfl; have hfz18_0 := blk_frozen BK559.out 0; have hfz18_1 := blk_frozen BK559.out 1; have hfz18_2 := blk_frozen BK559.out 2) | (go_at_call 10; (with_reducible refine (canoncheck_Words.calls k _ _ l0 a1_0 a1_1 a1_2 t565 _ ?side1 ?side2 A11.out ?tab).mono ?_); (case tab => exact HTAB.out.below (by repeat (first | (with_reducible first | exact HB.out | apply below_alloc | apply pw_below_drewN | apply below_drew1 | refine below_set ?_ GE559.out) | exact HB.out))); (case side1 => repeat (first | exact (Kd.V_reads' HO0.out).2.2 | (with_reducible refine Kd.C_alloc ?_ _) | (with_reducible refine Kd.C_drewN ?_ _) | (with_reducible refine Kd.C_drew ?_))); (case side2 => exact (Kd.V_reads' HO0.out).2.1); rintro e w19 ⟨rfl, hb⟩; have n0_ := Aside0.mk (Kd.V_below (by (with_reducible repeat (first | apply Kd.V_alloc | apply Kd.V_drewN | apply Kd.V_drew)); exact HO0.out) hb); have n1_ := Aside0.mk (Kd.N_below (by (with_reducible repeat (first | apply Kd.N_alloc | apply Kd.N_drewN | apply Kd.N_drew)); exact HO563.out) hb); have n2_ := Aside0.mk (blk_below (g := gb559) (o := .cells #[.int .i64 a1_0, .int .i64 a1_1, .int .i64 a1_2] 24 (0, 0)) (by (with_reducible repeat (first | refine blk_drewN ?_ _ | refine blk_drew ?_ | refine blk_alloc ?_ _)); exact BK559.out) hb); have n3_ := Aside0.mk (below_step (by repeat (first | (with_reducible first | exact HB.out | apply below_alloc | apply pw_below_drewN | apply below_drew1 | refine below_set ?_ GE559.out) | exact HB.out)) hb); clear HO0; clear HO563; clear BK559; clear HB; have HO0 := n0_; have HO563 := n1_; have BK559 := n2_; have HB := n3_; clear n0_ n1_ n2_ n3_; (try clear hb); (try clear hb2); (try clear hk); (try clear hi)))
    go_meet
    case rel => exact ⟨_, (!t565), (by first | rfl | (simp; done) | (simp [*]; done)), H', ⟨by first | omega | exact Nat.le_refl _⟩, ⟨by (with_reducible repeat (first | apply Kd.V_alloc | apply Kd.V_drewN | apply Kd.V_drew)); exact Kd.V_mono HO0.out (fun _ hk => ⟨hk.1.1, hk.1.2⟩)⟩, ⟨by (with_reducible repeat (first | refine blk_drewN ?_ _ | refine blk_drew ?_ | refine blk_alloc ?_ _)); exact BK559.out⟩, ⟨by repeat (first | (with_reducible first | exact HB.out | apply below_alloc | apply pw_below_drewN | apply below_drew1 | refine below_set ?_ GE559.out) | exact HB.out)⟩⟩
   ·replace c10 := Bool.eq_false_iff.mpr c10
    subst c10
    have H1 : (capnplaw16_CanoncheckEnds.j0 k l0 a2 a3 true a1_0 a1_1 a1_2) = some r := by rw [if_neg (show ¬ (false = true) by decide)] at H; exact H
    clear H
    have H := H1
    clear H1
    have H' := Aside0.mk H
    clear H
    go_wp2_with (first | ((with_reducible refine gate_callee (f := 8) rfl ?_); refine goesL_ (some 10) rfl rfl Tryd.func8 (by kernel_rfl) rfl #[] rfl (by (try simp only [List.map_toArray, List.map_cons, List.map_nil]); first | done | rfl | (simp only [List.length_drop, List.length_take]; rfl)) ?_; (with_reducible refine (capnplaw16_awake.calls  true _ A7.out ?tab).mono ?_); (case tab => exact HTAB.out.below (by repeat (first | (with_reducible first | exact HB.out | apply below_alloc | apply pw_below_drewN | apply below_drew1 | refine below_set ?_ GE559.out) | exact HB.out))); rintro e w20 ⟨rfl, hb⟩; refine ⟨_, rfl, ?_⟩; have n0_ := Aside0.mk (Kd.V_below (by (with_reducible repeat (first | apply Kd.V_alloc | apply Kd.V_drewN | apply Kd.V_drew)); exact HO0.out) hb); have n1_ := Aside0.mk (blk_below (g := gb559) (o := .cells #[.int .i64 a1_0, .int .i64 a1_1, .int .i64 a1_2] 24 (0, 0)) (by (with_reducible repeat (first | refine blk_drewN ?_ _ | refine blk_drew ?_ | refine blk_alloc ?_ _)); exact BK559.out) hb); have n2_ := Aside0.mk (below_step (by repeat (first | (with_reducible first | exact HB.out | apply below_alloc | apply pw_below_drewN | apply below_drew1 | refine below_set ?_ GE559.out) | exact HB.out)) hb); clear HO0; clear BK559; clear HB; have HO0 := n0_; have BK559 := n1_; have HB := n2_; clear n0_ n1_ n2_; (try clear hb); (try clear hb2); (try clear hk); (try clear hi)) | ((with_reducible refine gate_dst (N := 14) rfl ?_); (try (refine gate_guard (by rfl) ?_; dsimp only)); refine Kd.N_lit (Kd.slice 32 (Kd.int .u64)) _ 22 ?hg (N' := 14) ?hd (xs := ([l0] : List (List Int))) (inner := [.slice A0 l0.length c0]) (ok := (fun k_ => (P0_ k_ ∨ w.heap.size ≤ k_) ∧ k_ ≠ gb559)) (okp := (fun k_ => (P0_ k_ ∨ w.heap.size ≤ k_) ∧ k_ ≠ gb559)) ?hr ?hp (fun _ hk => hk) ((show ∀ k_, w20.heap.size ≤ k_ → (fun k_ => (P0_ k_ ∨ w.heap.size ≤ k_) ∧ k_ ≠ gb559) k_ from fun k_ hk => ⟨(.inr (Nat.le_trans (below_size (by repeat (first | (with_reducible first | exact HB.out | apply below_alloc | apply pw_below_drewN | apply below_drew1 | refine below_set ?_ GE559.out) | exact HB.out))) hk)), Kd.freshB (g := gb559) (o := .cells #[.int .i64 a1_0, .int .i64 a1_1, .int .i64 a1_2] 24 (0, 0)) (by (with_reducible repeat (first | refine blk_drewN ?_ _ | refine blk_drew ?_ | refine blk_alloc ?_ _)); exact BK559.out) k_ hk⟩) _ (Nat.le_refl _)) (Below.refl _ _) (Nat.le_refl _) (by simp) ?_; (case hd => rfl); (case hg => rfl); (case hr => first | (go_simp; done) | (go_simp; rfl)); (case hp => exact (Reps.one (show Kd.FK (Kd.slice 32 (Kd.int .u64)) _ _ l0 [.slice A0 l0.length c0] from (Kd.FK_slice_mk (Kd.V_reads' (Kd.V_mono (ok' := (fun k_ => (P0_ k_ ∨ w.heap.size ≤ k_) ∧ k_ ≠ gb559)) (HO0.out) (fun k_ hk => ⟨hk.1, hk.2⟩))).2.1 (Kd.V_F (Kd.V_mono (ok' := (fun k_ => (P0_ k_ ∨ w.heap.size ≤ k_) ∧ k_ ≠ gb559)) (HO0.out) (fun k_ hk => ⟨hk.1, hk.2⟩))))) (Reps.none _ _))); intro v562 w21 ho22 hb hg_ hnew_; clear hg_ hnew_; (first | rw [← Ny561.out] at ho22 | (simp only [Int.reduceToNat] at ho22; rw [← Ny561.out] at ho22)); have n0_ := Aside0.mk (Kd.V_elder' (by (with_reducible repeat (first | apply Kd.V_alloc | apply Kd.V_drewN | apply Kd.V_drew)); exact HO0.out) (Kd.N_base ho22) hb); have n1_ := Aside0.mk (Kd.N_lower ho22 (below_size (by repeat (first | (with_reducible first | exact HB.out | apply below_alloc | apply pw_below_drewN | apply below_drew1 | refine below_set ?_ GE559.out) | exact HB.out)))); have n2_ := Aside0.mk (blk_below (g := gb559) (o := .cells #[.int .i64 a1_0, .int .i64 a1_1, .int .i64 a1_2] 24 (0, 0)) (by (with_reducible repeat (first | refine blk_drewN ?_ _ | refine blk_drew ?_ | refine blk_alloc ?_ _)); exact BK559.out) hb); have n3_ := Aside0.mk (below_step (by repeat (first | (with_reducible first | exact HB.out | apply below_alloc | apply pw_below_drewN | apply below_drew1 | refine below_set ?_ GE559.out) | exact HB.out)) hb); clear HO0; clear BK559; clear HB; have HO0 := n0_; have HO563 := n1_; have BK559 := n2_; have HB := n3_; clear n0_ n1_ n2_ n3_; clear hb ho22; have hcz23_0 : w21.cell? ⟨gb559, 0, none⟩ = some (.int .i64 a1_0) := (blk_cell BK559.out 0).trans rfl; have hcz23_1 : w21.cell? ⟨gb559, 1, none⟩ = some (.int .i64 a1_1) := (blk_cell BK559.out 1).trans rfl; have hcz23_2 : w21.cell? ⟨gb559, 2, none⟩ = some (.int .i64 a1_2) := (blk_cell BK559.out 2).trans rfl; have hfz23_0 := blk_frozen BK559.out 0; have hfz23_1 := blk_frozen BK559.out 1; have hfz23_2 := blk_frozen BK559.out 2; obtain ⟨Ao24, co24, eo24⟩ := Kd.N_slice HO563.out; subst eo24) | (go_at_call 9; (with_reducible refine (capnpref12_Small.calls k _ _ y561 a1_0 a1_1 a1_2 false _ ?side1 ?side2 A9.out).mono ?_); (case side1 => repeat (first | exact (Kd.N_reads' HO563.out).2.2 | (with_reducible refine Kd.C_alloc ?_ _) | (with_reducible refine Kd.C_drewN ?_ _) | (with_reducible refine Kd.C_drew ?_))); (case side2 => exact (Kd.N_reads' HO563.out).2.1); rintro e w25 ⟨rfl, hb⟩; have n0_ := Aside0.mk (Kd.V_below (by (with_reducible repeat (first | apply Kd.V_alloc | apply Kd.V_drewN | apply Kd.V_drew)); exact HO0.out) hb); have n1_ := Aside0.mk (Kd.N_below (by (with_reducible repeat (first | apply Kd.N_alloc | apply Kd.N_drewN | apply Kd.N_drew)); exact HO563.out) hb); have n2_ := Aside0.mk (blk_below (g := gb559) (o := .cells #[.int .i64 a1_0, .int .i64 a1_1, .int .i64 a1_2] 24 (0, 0)) (by (with_reducible repeat (first | refine blk_drewN ?_ _ | refine blk_drew ?_ | refine blk_alloc ?_ _)); exact BK559.out) hb); have n3_ := Aside0.mk (below_step (by repeat (first | (with_reducible first | exact HB.out | apply below_alloc | apply pw_below_drewN | apply below_drew1 | refine below_set ?_ GE559.out) | exact HB.out)) hb); clear HO0; clear HO563; clear BK559; clear HB; have HO0 := n0_; have HO563 := n1_; have BK559 := n2_; have HB := n3_; clear n0_ n1_ n2_ n3_; (try clear hb); (try clear hb2); (try clear hk); (try clear hi)))
    go_meet
    case rel => exact ⟨_, (true), (by first | rfl | (simp; done) | (simp [*]; done)), H', ⟨by first | omega | exact Nat.le_refl _⟩, ⟨by (with_reducible repeat (first | apply Kd.V_alloc | apply Kd.V_drewN | apply Kd.V_drew)); exact Kd.V_mono HO0.out (fun _ hk => ⟨hk.1.1, hk.1.2⟩)⟩, ⟨by (with_reducible repeat (first | refine blk_drewN ?_ _ | refine blk_drew ?_ | refine blk_alloc ?_ _)); exact BK559.out⟩, ⟨by repeat (first | (with_reducible first | exact HB.out | apply below_alloc | apply pw_below_drewN | apply below_drew1 | refine below_set ?_ GE559.out) | exact HB.out)⟩⟩
  ·replace c8 := Bool.eq_false_iff.mpr c8
   subst c8
   have H1 : (capnplaw16_CanoncheckEnds.j0 k l0 a2 a3 true a1_0 a1_1 a1_2) = some r := by rw [if_neg (show ¬ (false = true) by decide)] at H; exact H
   clear H
   have H := H1
   clear H1
   have H' := Aside0.mk H
   clear H
   go_wp2_with (first | ((with_reducible refine gate_callee (f := 8) rfl ?_); refine goesL_ (some 10) rfl rfl Tryd.func8 (by kernel_rfl) rfl #[] rfl (by (try simp only [List.map_toArray, List.map_cons, List.map_nil]); first | done | rfl | (simp only [List.length_drop, List.length_take]; rfl)) ?_; (with_reducible refine (capnplaw16_awake.calls  false _ A7.out ?tab).mono ?_); (case tab => exact HTAB.out.below (by repeat (first | (with_reducible first | exact HB.out | apply below_alloc | apply pw_below_drewN | apply below_drew1 | refine below_set ?_ GE559.out) | exact HB.out))); rintro e w26 ⟨rfl, hb⟩; refine ⟨_, rfl, ?_⟩; have n0_ := Aside0.mk (Kd.V_below (by (with_reducible repeat (first | apply Kd.V_alloc | apply Kd.V_drewN | apply Kd.V_drew)); exact HO0.out) hb); have n1_ := Aside0.mk (blk_below (g := gb559) (o := .cells #[.int .i64 a1_0, .int .i64 a1_1, .int .i64 a1_2] 24 (0, 0)) (by (with_reducible repeat (first | refine blk_drewN ?_ _ | refine blk_drew ?_ | refine blk_alloc ?_ _)); exact BK559.out) hb); have n2_ := Aside0.mk (below_step (by repeat (first | (with_reducible first | exact HB.out | apply below_alloc | apply pw_below_drewN | apply below_drew1 | refine below_set ?_ GE559.out) | exact HB.out)) hb); clear HO0; clear BK559; clear HB; have HO0 := n0_; have BK559 := n1_; have HB := n2_; clear n0_ n1_ n2_; (try clear hb); (try clear hb2); (try clear hk); (try clear hi)))
   go_meet
   case rel => exact ⟨_, (true), (by first | rfl | (simp; done) | (simp [*]; done)), H', ⟨by first | omega | exact Nat.le_refl _⟩, ⟨by (with_reducible repeat (first | apply Kd.V_alloc | apply Kd.V_drewN | apply Kd.V_drew)); exact HO0.out⟩, ⟨by (with_reducible repeat (first | refine blk_drewN ?_ _ | refine blk_drew ?_ | refine blk_alloc ?_ _)); exact BK559.out⟩, ⟨by repeat (first | (with_reducible first | exact HB.out | apply below_alloc | apply pw_below_drewN | apply below_drew1 | refine below_set ?_ GE559.out) | exact HB.out)⟩⟩
 case rest =>
  clear HC5
  try clear c1
  try clear p2
  try clear c7
  try clear c8
  try clear c10
  try clear hcz15_0
  try clear hcz15_1
  try clear hcz15_2
  try clear hcz18_0
  try clear hcz18_1
  try clear hcz18_2
  try clear hcz23_0
  try clear hcz23_1
  try clear hcz23_2
  try clear hfz15_0
  try clear hfz15_1
  try clear hfz15_2
  try clear hfz18_0
  try clear hfz18_1
  try clear hfz18_2
  try clear hfz23_0
  try clear hfz23_1
  try clear hfz23_2
  obtain ⟨kq, x24_4, rfl, HA, HJ4, HO_0, BK559, HB⟩ := hcut
  cases kq with
  | zero => exact absurd HA.out (by simp [capnplaw16_CanoncheckEnds.j0])
  | succ kj4 =>
   have H := HA.out
   clear HA
   simp only [capnplaw16_CanoncheckEnds.j0] at H
   by_cases c27 : x24_4 = true
   ·subst c27
    have H1 : ((capnplaw16_awake.f).bind fun t566 => (some t566)) = some r := by rw [if_pos rfl] at H; exact H
    clear H
    have H := H1
    clear H1
    replace H := Option.bind_eq_some_iff.mp H
    obtain ⟨t566, A280, H⟩ := H
    replace H : (some t566) = some r := H
    have A28 := Aside0.mk A280
    clear A280
    obtain rfl := Option.some.inj H
    go_wp2_with (first | ((with_reducible refine gate_callee (f := 8) rfl ?_); refine goesL_ (some 25) rfl rfl Tryd.func8 (by kernel_rfl) rfl #[] rfl (by (try simp only [List.map_toArray, List.map_cons, List.map_nil]); first | done | rfl | (simp only [List.length_drop, List.length_take]; rfl)) ?_; (with_reducible refine (capnplaw16_awake.calls  t566 _ A28.out ?tab).mono ?_); (case tab => exact HTAB.out.below (by repeat (first | (with_reducible first | exact HB.out | apply below_alloc | apply pw_below_drewN | apply below_drew1 | refine below_set ?_ GE559.out) | exact HB.out))); rintro e w29 ⟨rfl, hb⟩; refine ⟨_, rfl, ?_⟩; have n0_ := Aside0.mk (Kd.V_below (by (with_reducible repeat (first | apply Kd.V_alloc | apply Kd.V_drewN | apply Kd.V_drew)); exact HO_0.out) hb); have n1_ := Aside0.mk (blk_below (g := gb559) (o := .cells #[.int .i64 a1_0, .int .i64 a1_1, .int .i64 a1_2] 24 (0, 0)) (by (with_reducible repeat (first | refine blk_drewN ?_ _ | refine blk_drew ?_ | refine blk_alloc ?_ _)); exact BK559.out) hb); have n2_ := Aside0.mk (below_step (by repeat (first | (with_reducible first | exact HB.out | apply below_alloc | apply pw_below_drewN | apply below_drew1 | refine below_set ?_ GE559.out) | exact HB.out)) hb); clear HO_0; clear BK559; clear HB; have HO_0 := n0_; have BK559 := n1_; have HB := n2_; clear n0_ n1_ n2_; (try clear hb); (try clear hb2); (try clear hk); (try clear hi)))
    go_ret
    exact ⟨by first | rfl | (simp [errW_none, errW_some] <;> rfl) | (simp [*, errW_none, errW_some] <;> rfl), by repeat (first | (with_reducible first | exact HB.out | apply below_alloc | apply pw_below_drewN | apply below_drew1 | refine below_set ?_ GE559.out) | exact HB.out)⟩
   ·replace c27 := Bool.eq_false_iff.mpr c27
    subst c27
    have H1 : (if (l0.length : Int) = 0 then (none) else (if 0 ≤ (Int.tmod (wrap64 (a2)) (l0.length : Int)) then (if (Int.tmod (wrap64 (a2)) (l0.length : Int)) ≤ (l0.length : Int) then ((canoncheck_Words.f kj4 (l0.take ((Int.tmod (wrap64 (a2)) (l0.length : Int)) : Int).toNat) a1_0 a1_1 a1_2).bind fun t572 => (if t572 = true then (none) else ((some (([] : List Int) : List Int)).bind fun y573 => (if y573.length + l0.length < 17592186044416 then ((some (y573 ++ l0 : List Int)).bind fun y576 => ((some (([a3] : List Int) : List Int)).bind fun y579 => (if y576.length + y579.length < 17592186044416 then ((canoncheck_Words.f kj4 (y576 ++ y579) a1_0 a1_1 a1_2).bind fun t585 => (some (!t585))) else (none)))) else (none))))) else (none)) else (none))) = some r := by rw [if_neg (show ¬ (false = true) by decide)] at H; exact H
    clear H
    have H := H1
    clear H1
    by_cases c30 : (l0.length : Int) = 0
    ·rw [if_pos c30] at H
     exact absurd H (by simp)
    ·rw [if_neg c30] at H
     have c30b0 : ((l0.length : Int) == 0) = false := beq_eq_false_iff_ne.mpr c30
     have c30b1 : ((l0.length : Int) != 0) = true := bne_iff_ne.mpr c30
     have c30b2 : ¬ (l0 = []) := fun h_ => c30 (by rw [h_]; rfl)
     obtain ⟨ji31, hji31⟩ : ∃ j_ : Int, (Int.tmod (wrap64 (a2)) (l0.length : Int)) = j_ := ⟨_, rfl⟩
     replace H : (if 0 ≤ (ji31) then (if (ji31) ≤ (l0.length : Int) then ((canoncheck_Words.f kj4 (l0.take ((ji31) : Int).toNat) a1_0 a1_1 a1_2).bind fun t572 => (if t572 = true then (none) else ((some (([] : List Int) : List Int)).bind fun y573 => (if y573.length + l0.length < 17592186044416 then ((some (y573 ++ l0 : List Int)).bind fun y576 => ((some (([a3] : List Int) : List Int)).bind fun y579 => (if y576.length + y579.length < 17592186044416 then ((canoncheck_Words.f kj4 (y576 ++ y579) a1_0 a1_1 a1_2).bind fun t585 => (some (!t585))) else (none)))) else (none))))) else (none)) else (none)) = some r := by first | (rw [hji31] at H; exact H) | (simp only [hji31] at H ⊢; exact H)
     by_cases c32 : 0 ≤ (ji31)
     ·rw [if_pos c32] at H
      have c32b0 := eq_true c32
      have c32b1 : decide (0 ≤ (ji31)) = true := decide_eq_true c32
      clear c32
      by_cases c33 : (ji31) ≤ (l0.length : Int)
      ·rw [if_pos c33] at H
       have c33b0 := eq_true c33
       have c33b1 : decide ((ji31) ≤ (l0.length : Int)) = true := decide_eq_true c33
       clear c33
       obtain ⟨y567, hy567⟩ : ∃ y_ : List Int, y_ = (l0.take ((ji31) : Int).toNat) := ⟨_, rfl⟩
       replace H : ((canoncheck_Words.f kj4 y567 a1_0 a1_1 a1_2).bind fun t572 => (if t572 = true then (none) else ((some (([] : List Int) : List Int)).bind fun y573 => (if y573.length + l0.length < 17592186044416 then ((some (y573 ++ l0 : List Int)).bind fun y576 => ((some (([a3] : List Int) : List Int)).bind fun y579 => (if y576.length + y579.length < 17592186044416 then ((canoncheck_Words.f kj4 (y576 ++ y579) a1_0 a1_1 a1_2).bind fun t585 => (some (!t585))) else (none)))) else (none))))) = some r := by first | (rw [hy567]; with_reducible exact H) | (have H2_ := (Option.bind_some _ _).symm.trans H; rw [hy567]; with_reducible exact H2_) | (have H2_ := (Option.bind_some _ _).symm.trans H; with_reducible exact H2_) | with_reducible exact H | (rw [hy567]; exact H) | exact H
       have Ny567 := Aside0.mk hy567
       clear hy567
       replace H := Option.bind_eq_some_iff.mp H
       obtain ⟨t572, A340, H⟩ := H
       replace H : (if t572 = true then (none) else ((some (([] : List Int) : List Int)).bind fun y573 => (if y573.length + l0.length < 17592186044416 then ((some (y573 ++ l0 : List Int)).bind fun y576 => ((some (([a3] : List Int) : List Int)).bind fun y579 => (if y576.length + y579.length < 17592186044416 then ((canoncheck_Words.f kj4 (y576 ++ y579) a1_0 a1_1 a1_2).bind fun t585 => (some (!t585))) else (none)))) else (none)))) = some r := H
       have A34 := Aside0.mk A340
       clear A340
       by_cases c35 : t572 = true
       ·subst c35
        have H1 : (none) = some r := by rw [if_pos rfl] at H; exact H
        clear H
        have H := H1
        clear H1
        exact absurd H (by simp)
       ·replace c35 := Bool.eq_false_iff.mpr c35
        subst c35
        have H1 : ((some (([] : List Int) : List Int)).bind fun y573 => (if y573.length + l0.length < 17592186044416 then ((some (y573 ++ l0 : List Int)).bind fun y576 => ((some (([a3] : List Int) : List Int)).bind fun y579 => (if y576.length + y579.length < 17592186044416 then ((canoncheck_Words.f kj4 (y576 ++ y579) a1_0 a1_1 a1_2).bind fun t585 => (some (!t585))) else (none)))) else (none))) = some r := by rw [if_neg (show ¬ (false = true) by decide)] at H; exact H
        clear H
        have H := H1
        clear H1
        obtain ⟨y573, hy573⟩ : ∃ y_ : List Int, y_ = (([] : List Int)) := ⟨_, rfl⟩
        replace H : (if y573.length + l0.length < 17592186044416 then ((some (y573 ++ l0 : List Int)).bind fun y576 => ((some (([a3] : List Int) : List Int)).bind fun y579 => (if y576.length + y579.length < 17592186044416 then ((canoncheck_Words.f kj4 (y576 ++ y579) a1_0 a1_1 a1_2).bind fun t585 => (some (!t585))) else (none)))) else (none)) = some r := by first | (rw [hy573]; with_reducible exact H) | (have H2_ := (Option.bind_some _ _).symm.trans H; rw [hy573]; with_reducible exact H2_) | (have H2_ := (Option.bind_some _ _).symm.trans H; with_reducible exact H2_) | with_reducible exact H | (rw [hy573]; exact H) | exact H
        have Ny573 := Aside0.mk hy573
        clear hy573
        by_cases c36 : y573.length + l0.length < 17592186044416
        ·rw [if_pos c36] at H
         have LMc36 := Aside0.mk c36
         clear c36
         obtain ⟨y576, hy576⟩ : ∃ y_ : List Int, y_ = (y573 ++ l0) := ⟨_, rfl⟩
         replace H : ((some (([a3] : List Int) : List Int)).bind fun y579 => (if y576.length + y579.length < 17592186044416 then ((canoncheck_Words.f kj4 (y576 ++ y579) a1_0 a1_1 a1_2).bind fun t585 => (some (!t585))) else (none))) = some r := by first | (rw [hy576]; with_reducible exact H) | (have H2_ := (Option.bind_some _ _).symm.trans H; rw [hy576]; with_reducible exact H2_) | (have H2_ := (Option.bind_some _ _).symm.trans H; with_reducible exact H2_) | with_reducible exact H | (rw [hy576]; exact H) | exact H
         have Ny576 := Aside0.mk hy576
         clear hy576
         obtain ⟨y579, hy579⟩ : ∃ y_ : List Int, y_ = (([a3] : List Int)) := ⟨_, rfl⟩
         replace H : (if y576.length + y579.length < 17592186044416 then ((canoncheck_Words.f kj4 (y576 ++ y579) a1_0 a1_1 a1_2).bind fun t585 => (some (!t585))) else (none)) = some r := by first | (rw [hy579]; with_reducible exact H) | (have H2_ := (Option.bind_some _ _).symm.trans H; rw [hy579]; with_reducible exact H2_) | (have H2_ := (Option.bind_some _ _).symm.trans H; with_reducible exact H2_) | with_reducible exact H | (rw [hy579]; exact H) | exact H
         have Ny579 := Aside0.mk hy579
         clear hy579
         by_cases c37 : y576.length + y579.length < 17592186044416
         ·rw [if_pos c37] at H
          have LMc37 := Aside0.mk c37
          clear c37
          obtain ⟨y582, hy582⟩ : ∃ y_ : List Int, y_ = (y576 ++ y579) := ⟨_, rfl⟩
          replace H : ((canoncheck_Words.f kj4 y582 a1_0 a1_1 a1_2).bind fun t585 => (some (!t585))) = some r := by first | (rw [hy582]; with_reducible exact H) | (have H2_ := (Option.bind_some _ _).symm.trans H; rw [hy582]; with_reducible exact H2_) | (have H2_ := (Option.bind_some _ _).symm.trans H; with_reducible exact H2_) | with_reducible exact H | (rw [hy582]; exact H) | exact H
          have Ny582 := Aside0.mk hy582
          clear hy582
          replace H := Option.bind_eq_some_iff.mp H
          obtain ⟨t585, A380, H⟩ := H
          replace H : (some (!t585)) = some r := H
          have A38 := Aside0.mk A380
          clear A380
          obtain rfl := Option.some.inj H
          try go_wp2
          have n0_ := Aside0.mk (Kd.V_drew HO_0.out)
          have n1_ := Aside0.mk (blk_drew BK559.out)
          have n2_ := Aside0.mk (below_drew1 HB.out)
          clear HO_0
          clear BK559
          clear HB
          have HO_0 := n0_
          have BK559 := n1_
          have HB := n2_
          clear n0_ n1_ n2_
          have q40 : ((ji31) : Int) ≤ ((l0.length : Int) : Int) := of_decide_eq_true (by first | (with_reducible assumption) | assumption)
          obtain ⟨i040, hi040, _, hsz40, _⟩ := info_parts info32
          have hroom40 : l0.length ≤ c0 := (Kd.V_reads' HO_0.out).2.1
          have hC40 : Kd.F (Kd.int .u64) _ _ A0 l0.length l0 := (Kd.V_at (base := w.heap.size) HO_0.out).2.2
          have hcut40 := cut_to (P := Tryd.prog) 22 32 .i64 Tryd.underlying22 hi040 A0 l0.length c0 (ji31) (of_decide_eq_true (by first | (with_reducible assumption) | assumption)) q40 hroom40
          have hr40 := Kd.F_take (m := ((ji31) : Int).toNat) hC40 (by omega)
          have hy40 : y567.length = ((ji31) : Int).toNat := (by rw [Ny567.out, List.length_take]; omega)
          rw [← Ny567.out] at hr40
          rw [← hy40] at hcut40
          have HO571 := Aside0.mk (show Kd.V (Kd.int .u64) 32 _ w.heap.size _ (.slice A0 y567.length c0) y567 from Kd.V_mk (by omega) hr40)
          have HC571 := Aside0.mk (show y567.length ≤ c0 from by omega)
          clear hr40 hC40 hroom40 hi040 hsz40
          have KY40 := Aside0.mk hy40
          clear hy40
          replace q40 := eq_true q40
          refine start_ (n := 18) (S := fun w' => w'.cell? ⟨gb559, 0, none⟩ = some (.int .i64 a1_0) ∧ w'.cell? ⟨gb559, 1, none⟩ = some (.int .i64 a1_1) ∧ w'.cell? ⟨gb559, 2, none⟩ = some (.int .i64 a1_2)) (ds := []) #[false, false, false, false, false, false, false, false, false, false, false, false, false, false, false, false, false, false] (by kernel_rfl) rfl rfl ⟨(blk_cell BK559.out 0).trans rfl, (blk_cell BK559.out 1).trans rfl, (blk_cell BK559.out 2).trans rfl⟩ (fun hHeld => ?_); refine with_tabW capnplaw16_CanoncheckEnds.tab4 capnplaw16_CanoncheckEnds.bits4 (fun HT_ HW_ => ?_)
          generalize wc.drew = w39 at HO_0 BK559 HB HO571 hHeld ⊢
          refine pure_ (i := 0) (N := some 31) (v := ?_) (a' := ?_) #[true, false, false, false, false, false, false, false, false, false, false, false, false, false, false, false, false, false] rfl rfl (any_of HT_.out (by kernel_rfl)) (fun _ _ _ h => h) (Or.inl ⟨by rfl, ?_⟩) ?_ ?_
          rotate_left
          ·intro w'
           go_simp
           with_reducible rfl
          rotate_left
          ·simp only [Act.put, List.setIfInBounds_toArray, List.set_cons_zero, List.set_cons_succ, i64_w, i32_w]
           rfl
          refine pure_ (i := 1) (N := some 32) (v := ?_) (a' := ?_) #[true, true, false, false, false, false, false, false, false, false, false, false, false, false, false, false, false, false] rfl rfl (any_of HT_.out (by kernel_rfl)) (fun _ _ _ h => h) (Or.inl ⟨by rfl, ?_⟩) ?_ ?_
          rotate_left
          ·intro w'
           go_simp
           with_reducible rfl
          rotate_left
          ·simp only [Act.put, List.setIfInBounds_toArray, List.set_cons_zero, List.set_cons_succ, i64_w, i32_w]
           rfl
          refine pure_ (i := 2) (N := some 33) (v := ?_) (a' := ?_) #[true, true, true, false, false, false, false, false, false, false, false, false, false, false, false, false, false, false] rfl rfl (any_of HT_.out (by kernel_rfl)) (fun _ _ _ h => h) (Or.inl ⟨by rfl, ?_⟩) ?_ ?_
          rotate_left
          ·intro w'
           go_simp
           with_reducible rfl
          rotate_left
          ·simp only [Act.put, List.setIfInBounds_toArray, List.set_cons_zero, List.set_cons_succ, i64_w, i32_w]
           rfl
          refine take_ (i := 3) (N := some 34) (v := ?_) (a' := ?_) #[true, true, true, true, false, false, false, false, false, false, false, false, false, false, false, false, false, false] rfl rfl (take_ofW HT_.out HW_.out (by kernel_rfl)) (fun _ _ _ h => h) (Or.inl ⟨by rfl, ?_⟩) hHeld ?_ ?_
          rotate_left
          ·rintro w' ⟨s0, s1, s2⟩
           go_simp
           with_reducible rfl
          rotate_left
          ·simp only [Act.put, List.setIfInBounds_toArray, List.set_cons_zero, List.set_cons_succ, i64_w, i32_w]
           rfl
          refine one_ (i := 4) (N := some 35) #[true, true, true, true, true, false, false, false, false, false, false, false, false, false, false, false, false, false] rfl rfl (one_of HT_.out (by kernel_rfl)) (by decide) (fun K hK => ?_)
          refine goes_ Tryd.func10 (by kernel_rfl) rfl #[.slice A0 y567.length c0, .agg #[.int .i64 a1_0, .int .i64 a1_1, .int .i64 a1_2]] (by rfl) rfl rfl (by (try simp only [List.map_toArray, List.map_cons, List.map_nil]); first | done | rfl | (simp only [List.length_drop, List.length_take]; rfl)) ?_
          with_reducible refine (canoncheck_Words.calls kj4 _ _ y567 a1_0 a1_1 a1_2 false _ ?side1 ?side2 A34.out ?tab).mono ?_
          (case tab => exact HTAB.out.below (by repeat (first | (with_reducible first | exact HB.out | apply below_alloc | apply pw_below_drewN | apply below_drew1 | refine below_set ?_ GE559.out) | exact HB.out)))
          (case side1 => repeat (first | exact (Kd.V_reads' HO571.out).2.2 | (with_reducible refine Kd.C_alloc ?_ _) | (with_reducible refine Kd.C_drewN ?_ _) | (with_reducible refine Kd.C_drew ?_)))
          (case side2 => exact (Kd.V_reads' HO571.out).2.1)
          rintro e w41 ⟨rfl, hb⟩
          refine ⟨_, rfl, ?_⟩
          have n0_ := Aside0.mk (Kd.V_below (by (with_reducible repeat (first | apply Kd.V_alloc | apply Kd.V_drewN | apply Kd.V_drew)); exact HO_0.out) hb)
          have n1_ := Aside0.mk (Kd.V_below (by (with_reducible repeat (first | apply Kd.V_alloc | apply Kd.V_drewN | apply Kd.V_drew)); exact HO571.out) hb)
          have n2_ := Aside0.mk (blk_below (g := gb559) (o := .cells #[.int .i64 a1_0, .int .i64 a1_1, .int .i64 a1_2] 24 (0, 0)) (by (with_reducible repeat (first | refine blk_drewN ?_ _ | refine blk_drew ?_ | refine blk_alloc ?_ _)); exact BK559.out) hb)
          have n3_ := Aside0.mk (below_step (by repeat (first | (with_reducible first | exact HB.out | apply below_alloc | apply pw_below_drewN | apply below_drew1 | refine below_set ?_ GE559.out) | exact HB.out)) hb)
          clear HO_0
          clear HO571
          clear BK559
          clear HB
          have HO_0 := n0_
          have HO571 := n1_
          have BK559 := n2_
          have HB := n3_
          clear n0_ n1_ n2_ n3_
          (try clear hb)
          (try clear hb2)
          (try clear hk)
          (try clear hi)
          refine hK.out _ _ ⟨(blk_cell BK559.out 0).trans rfl, (blk_cell BK559.out 1).trans rfl, (blk_cell BK559.out 2).trans rfl⟩ (fun hHeld => ?_)
          clear hK K
          refine norm_ (a' := ?_) ?_ ?_
          rotate_left
          ·show Act.put _ (some 35) _ = _
           simp only [Act.put, List.setIfInBounds_toArray, List.set_cons_zero, List.set_cons_succ, i64_w, i32_w]
           rfl
          refine pure_ (i := 5) (N := some 36) (v := ?_) (a' := ?_) #[true, true, true, true, true, true, false, false, false, false, false, false, false, false, false, false, false, false] rfl rfl (any_of HT_.out (by kernel_rfl)) (fun _ _ _ h => h) (Or.inl ⟨by rfl, ?_⟩) ?_ ?_
          rotate_left
          ·intro w'
           go_simp
           with_reducible rfl
          rotate_left
          ·simp only [Act.put, List.setIfInBounds_toArray, List.set_cons_zero, List.set_cons_succ, i64_w, i32_w]
           rfl
          refine pure_ (i := 6) (N := some 37) (v := ?_) (a' := ?_) #[true, true, true, true, true, true, true, false, false, false, false, false, false, false, false, false, false, false] rfl rfl (any_of HT_.out (by kernel_rfl)) (fun _ _ _ h => h) (Or.inl ⟨by rfl, ?_⟩) ?_ ?_
          rotate_left
          ·intro w'
           go_simp
           with_reducible rfl
          rotate_left
          ·simp only [Act.put, List.setIfInBounds_toArray, List.set_cons_zero, List.set_cons_succ, i64_w, i32_w]
           rfl
          refine pure_ (i := 8) (N := some 39) (v := ?_) (a' := ?_) #[true, true, true, true, true, true, true, false, true, false, false, false, false, false, false, false, false, false] rfl rfl (any_of HT_.out (by kernel_rfl)) (fun _ _ _ h => h) (Or.inl ⟨by rfl, ?_⟩) ?_ ?_
          rotate_left
          ·intro w'
           go_simp
           with_reducible rfl
          rotate_left
          ·simp only [Act.put, List.setIfInBounds_toArray, List.set_cons_zero, List.set_cons_succ, i64_w, i32_w]
           rfl
          refine pure_ (i := 10) (N := some 41) (v := ?_) (a' := ?_) #[true, true, true, true, true, true, true, false, true, false, true, false, false, false, false, false, false, false] rfl rfl (any_of HT_.out (by kernel_rfl)) (fun _ _ _ h => h) (Or.inl ⟨by rfl, ?_⟩) ?_ ?_
          rotate_left
          ·intro w'
           go_simp
           with_reducible rfl
          rotate_left
          ·simp only [Act.put, List.setIfInBounds_toArray, List.set_cons_zero, List.set_cons_succ, i64_w, i32_w]
           rfl
          refine take_ (i := 13) (N := some 44) (v := ?_) (a' := ?_) #[true, true, true, true, true, true, true, false, true, false, true, false, false, true, false, false, false, false] rfl rfl (take_ofW HT_.out HW_.out (by kernel_rfl)) (fun _ _ _ h => h) (Or.inl ⟨by rfl, ?_⟩) hHeld ?_ ?_
          rotate_left
          ·rintro w' ⟨s0, s1, s2⟩
           go_simp
           with_reducible rfl
          rotate_left
          ·simp only [Act.put, List.setIfInBounds_toArray, List.set_cons_zero, List.set_cons_succ, i64_w, i32_w]
           rfl
          refine join_ (σ := Value × Value × Value) 5 #[true, true, true, true, true, true, true, true, true, true, true, true, false, true, false, false, false, false] (fun s_ => [(38, s_.1), (40, s_.2.1), (42, s_.2.2)]) (fun s_ w' => (w'.cell? ⟨gb559, 0, none⟩ = some (.int .i64 a1_0) ∧ w'.cell? ⟨gb559, 1, none⟩ = some (.int .i64 a1_1) ∧ w'.cell? ⟨gb559, 2, none⟩ = some (.int .i64 a1_2)) ∧ (Kd.V (Kd.int .u64) 32 w' w.heap.size (fun k_ => (P0_ k_ ∨ w.heap.size ≤ k_) ∧ some k_ ≠ (s_.2.1 : Value).ownBlock ∧ some k_ ≠ (s_.2.2 : Value).ownBlock ∧ k_ ≠ gb559) (.slice A0 y567.length c0) y567) ∧ (Kd.R (Kd.int .u64) 32 w' w.heap.size (fun k_ => (w.heap.size ≤ k_) ∧ some k_ ≠ (s_.2.2 : Value).ownBlock) s_.2.1 y576) ∧ (Kd.R (Kd.int .u64) 32 w' w.heap.size (fun k_ => (w.heap.size ≤ k_) ∧ some k_ ≠ (s_.2.1 : Value).ownBlock) s_.2.2 y579) ∧ (Kd.V (Kd.int .u64) 32 w' w.heap.size (fun k_ => (P0_ k_ ∨ w.heap.size ≤ k_) ∧ some k_ ≠ (s_.2.1 : Value).ownBlock ∧ some k_ ≠ (s_.2.2 : Value).ownBlock ∧ k_ ≠ gb559) (.slice A0 l0.length c0) l0) ∧ (w'.heap[gb559]? = some (.cells #[.int .i64 a1_0, .int .i64 a1_1, .int .i64 a1_2] 24 (0, 0))) ∧ (Below w.heap.size w w')) ?_ ?_
          rotate_left
          ·intro hCont
           refine two_ (i := 7) (j := 11) (Ni := some 38) (Nj := some 42) #[true, true, true, true, true, true, true, true, true, false, true, false, false, true, false, false, false, false] #[true, true, true, true, true, true, true, false, true, false, true, true, false, true, false, false, false, false] rfl rfl rfl rfl (two_of HT_.out (by kernel_rfl)) (by decide) (by decide) (fun K hK => ?_) (fun K hK => ?_)
           ·skip
            refine Kd.R_lit_step (Kd.int .u64) _ 32 ?hg (N := 38) ?hd (xs := ([] : List Int)) (inner := []) (ok := fun _ => True) (okp := fun _ => True) ?hr ?hp (fun _ hk => hk) trivial (Below.refl _ _) (Nat.le_refl _) (by simp) ?_; (case hd => rfl); (case hg => rfl); (case hr => first | (go_simp; done) | (go_simp; rfl)); (case hp => exact (Reps.none _ _))
            intro v574 w42 ho43 hb hg_ hnew_
            clear hg_ hnew_
            (first | rw [← Ny573.out] at ho43 | (simp only [Int.reduceToNat] at ho43; rw [← Ny573.out] at ho43))
            have n0_ := Aside0.mk (Kd.V_elder' (by (with_reducible repeat (first | apply Kd.V_alloc | apply Kd.V_drewN | apply Kd.V_drew)); exact HO_0.out) (Kd.R_base ho43) hb)
            have n1_ := Aside0.mk (Kd.V_elder' (by (with_reducible repeat (first | apply Kd.V_alloc | apply Kd.V_drewN | apply Kd.V_drew)); exact HO571.out) (Kd.R_base ho43) hb)
            have n2_ := Aside0.mk (Kd.R_lower (Kd.R_newM (M := fun k_ => (w.heap.size ≤ k_)) ho43 (below_size (by repeat (first | (with_reducible first | exact HB.out | apply below_alloc | apply pw_below_drewN | apply below_drew1 | refine below_set ?_ GE559.out) | exact HB.out))) (fun k_ h_ => h_)) (below_size (by repeat (first | (with_reducible first | exact HB.out | apply below_alloc | apply pw_below_drewN | apply below_drew1 | refine below_set ?_ GE559.out) | exact HB.out))))
            have n3_ := Aside0.mk (blk_below (g := gb559) (o := .cells #[.int .i64 a1_0, .int .i64 a1_1, .int .i64 a1_2] 24 (0, 0)) (by (with_reducible repeat (first | refine blk_drewN ?_ _ | refine blk_drew ?_ | refine blk_alloc ?_ _)); exact BK559.out) hb)
            have n4_ := Aside0.mk (below_step (by repeat (first | (with_reducible first | exact HB.out | apply below_alloc | apply pw_below_drewN | apply below_drew1 | refine below_set ?_ GE559.out) | exact HB.out)) hb)
            clear HO_0
            clear HO571
            clear BK559
            clear HB
            have HO_0 := n0_
            have HO571 := n1_
            have HO575 := n2_
            have BK559 := n3_
            have HB := n4_
            clear n0_ n1_ n2_ n3_ n4_
            clear hb ho43
            refine hK.out _ _ ⟨(blk_cell BK559.out 0).trans rfl, (blk_cell BK559.out 1).trans rfl, (blk_cell BK559.out 2).trans rfl⟩ (fun hHeld => ?_)
            clear hK K
            refine norm_ (a' := ?_) ?_ ?_
            rotate_left
            ·show Act.put _ (some 38) _ = _
             simp only [Act.put, List.setIfInBounds_toArray, List.set_cons_zero, List.set_cons_succ, i64_w, i32_w]
             rfl
            refine two_ (i := 9) (j := 11) (Ni := some 40) (Nj := some 42) #[true, true, true, true, true, true, true, true, true, true, true, false, false, true, false, false, false, false] #[true, true, true, true, true, true, true, true, true, false, true, true, false, true, false, false, false, false] rfl rfl rfl rfl (two_of HT_.out (by kernel_rfl)) (by decide) (by decide) (fun K hK => ?_) (fun K hK => ?_)
            ·skip
             refine Kd.R_append_rows_step (Kd.int .u64) (w0 := w) w.heap.size (by rfl) (.tmp 38) (.tmp 39) 22 32 (.int .u64 0) 8 rfl Tryd.underlying22 info32 rfl (by decide) (by omega) v574 y573 l0 _ _ _ (fun k_ => (w.heap.size ≤ k_)) (fun _ => False) rfl rfl ?aO ?aR (fun _ _ h => h) (fun _ h => h.elim) ?aF ?aB ?aS ?aL ?_
             (case aR => repeat (first | exact (Kd.V_reads' HO_0.out).2.2 | (with_reducible refine Kd.C_alloc ?_ _) | (with_reducible refine Kd.C_drewN ?_ _) | (with_reducible refine Kd.C_drew ?_)))
             (case aB => exact (by repeat (first | (with_reducible first | exact HB.out | apply below_alloc | apply pw_below_drewN | apply below_drew1 | refine below_set ?_ GE559.out) | exact HB.out)))
             (case aF => exact (fun k_ hk => (Nat.le_trans (below_size (by repeat (first | (with_reducible first | exact HB.out | apply below_alloc | apply pw_below_drewN | apply below_drew1 | refine below_set ?_ GE559.out) | exact HB.out))) hk)))
             (case aO => exact (by (with_reducible repeat (first | apply Kd.R_alloc | apply Kd.R_drewN | apply Kd.R_drew)); exact Kd.R_mono HO575.out (fun _ hk => hk.1)))
             (case aS => exact (below_size (by repeat (first | (with_reducible first | exact HB.out | apply below_alloc | apply pw_below_drewN | apply below_drew1 | refine below_set ?_ GE559.out) | exact HB.out))))
             (case aL => have := LMc36.out; omega)
             intro v577 w44 ho hb hg hat
             rw [← Ny576.out] at ho
             have n0_ := Aside0.mk (Kd.V_afterv (ok := (fun k_ => (P0_ k_ ∨ w.heap.size ≤ k_) ∧ k_ ≠ gb559)) (by (with_reducible repeat (first | apply Kd.V_alloc | apply Kd.V_drewN | apply Kd.V_drew)); exact HO_0.out) hg hat)
             have n1_ := Aside0.mk (blk_grown (g := gb559) (o := .cells #[.int .i64 a1_0, .int .i64 a1_1, .int .i64 a1_2] 24 (0, 0)) (by (with_reducible repeat (first | refine blk_drewN ?_ _ | refine blk_drew ?_ | refine blk_alloc ?_ _)); exact BK559.out) hg (Kd.R_ne HO575.out BK559.out (by decide)))
             have n2_ := Aside0.mk (Kd.V_afterv (ok := (fun k_ => (P0_ k_ ∨ w.heap.size ≤ k_) ∧ k_ ≠ gb559)) (by (with_reducible repeat (first | apply Kd.V_alloc | apply Kd.V_drewN | apply Kd.V_drew)); exact HO571.out) hg hat)
             have n3_ := Aside0.mk (hb)
             have n4_ := Aside0.mk (ho)
             clear HO_0
             clear BK559
             clear HO571
             clear HB
             clear HO575
             have HO_0 := n0_
             have BK559 := n1_
             have HO571 := n2_
             have HB := n3_
             have HO578 := n4_
             clear n0_ n1_ n2_ n3_ n4_
             clear ho hb hg hat
             refine hK.out _ _ ⟨(blk_cell BK559.out 0).trans rfl, (blk_cell BK559.out 1).trans rfl, (blk_cell BK559.out 2).trans rfl⟩ (fun hHeld => ?_)
             clear hK K
             refine norm_ (a' := ?_) ?_ ?_
             rotate_left
             ·show Act.put _ (some 40) _ = _
              simp only [Act.put, List.setIfInBounds_toArray, List.set_cons_zero, List.set_cons_succ, i64_w, i32_w]
              rfl
             refine one_ (i := 11) (N := some 42) #[true, true, true, true, true, true, true, true, true, true, true, true, false, true, false, false, false, false] rfl rfl (one_of HT_.out (by kernel_rfl)) (by decide) (fun K hK => ?_)
             refine Kd.R_lit_step (Kd.int .u64) _ 32 ?hg (N := 42) ?hd (xs := ([a3] : List Int)) (inner := [.int .u64 a3]) (ok := fun _ => True) (okp := fun _ => True) ?hr ?hp (fun _ hk => hk) trivial (Below.refl _ _) (Nat.le_refl _) (by simp) ?_; (case hd => rfl); (case hg => rfl); (case hr => first | (go_simp; done) | (go_simp; rfl)); (case hp => exact (Reps.one (show Kd.M (Kd.int .u64) _ _ _ a3 [.int .u64 a3] from rfl) (Reps.none _ _)))
             intro v580 w45 ho46 hb hg_ hnew_
             clear hg_ hnew_
             (first | rw [← Ny579.out] at ho46 | (simp only [Int.reduceToNat] at ho46; rw [← Ny579.out] at ho46))
             have n0_ := Aside0.mk (Kd.V_elder' (by (with_reducible repeat (first | apply Kd.V_alloc | apply Kd.V_drewN | apply Kd.V_drew)); exact HO_0.out) (Kd.R_base ho46) hb)
             have n1_ := Aside0.mk (Kd.V_elder' (by (with_reducible repeat (first | apply Kd.V_alloc | apply Kd.V_drewN | apply Kd.V_drew)); exact HO571.out) (Kd.R_base ho46) hb)
             have n2_ := Aside0.mk (Kd.R_elder' (by (with_reducible repeat (first | apply Kd.R_alloc | apply Kd.R_drewN | apply Kd.R_drew)); exact HO578.out) (Kd.R_base ho46) hb)
             have n3_ := Aside0.mk (Kd.R_lower (Kd.R_new' (Kd.R_newM (M := fun k_ => (w.heap.size ≤ k_)) ho46 (below_size (by repeat (first | (with_reducible first | exact HB.out | apply below_alloc | apply pw_below_drewN | apply below_drew1 | refine below_set ?_ GE559.out) | exact HB.out))) (fun k_ h_ => h_)) (Kd.R_lt (by (with_reducible repeat (first | apply Kd.R_alloc | apply Kd.R_drewN | apply Kd.R_drew)); exact HO578.out))) (below_size (by repeat (first | (with_reducible first | exact HB.out | apply below_alloc | apply pw_below_drewN | apply below_drew1 | refine below_set ?_ GE559.out) | exact HB.out))))
             have n4_ := Aside0.mk (blk_below (g := gb559) (o := .cells #[.int .i64 a1_0, .int .i64 a1_1, .int .i64 a1_2] 24 (0, 0)) (by (with_reducible repeat (first | refine blk_drewN ?_ _ | refine blk_drew ?_ | refine blk_alloc ?_ _)); exact BK559.out) hb)
             have n5_ := Aside0.mk (below_step (by repeat (first | (with_reducible first | exact HB.out | apply below_alloc | apply pw_below_drewN | apply below_drew1 | refine below_set ?_ GE559.out) | exact HB.out)) hb)
             clear HO_0
             clear HO571
             clear HO578
             clear BK559
             clear HB
             have HO_0 := n0_
             have HO571 := n1_
             have HO578 := n2_
             have HO581 := n3_
             have BK559 := n4_
             have HB := n5_
             clear n0_ n1_ n2_ n3_ n4_ n5_
             clear hb ho46
             refine hK.out _ _ ⟨(blk_cell BK559.out 0).trans rfl, (blk_cell BK559.out 1).trans rfl, (blk_cell BK559.out 2).trans rfl⟩ (fun hHeld => ?_)
             clear hK K
             refine norm_ (a' := ?_) ?_ ?_
             rotate_left
             ·show Act.put _ (some 42) _ = _
              simp only [Act.put, List.setIfInBounds_toArray, List.set_cons_zero, List.set_cons_succ, i64_w, i32_w]
              rfl
             exact norm_ (by simp only [putAll, Act.put, List.setIfInBounds_toArray, List.set_cons_zero, List.set_cons_succ]) (hCont (v574, v577, v580) _ ⟨hHeld, (by (with_reducible repeat (first | apply Kd.V_alloc | apply Kd.V_drewN | apply Kd.V_drew)); exact Kd.V_mono HO571.out (fun _ hk => ⟨hk.1.1.1, ⟨hk.1.2, ⟨hk.2, hk.1.1.2⟩⟩⟩)), (by (with_reducible repeat (first | apply Kd.R_alloc | apply Kd.R_drewN | apply Kd.R_drew)); exact HO578.out), (by (with_reducible repeat (first | apply Kd.R_alloc | apply Kd.R_drewN | apply Kd.R_drew)); exact Kd.R_mono HO581.out (fun _ hk => ⟨hk.1.1, hk.2⟩)), (by (with_reducible repeat (first | apply Kd.V_alloc | apply Kd.V_drewN | apply Kd.V_drew)); exact Kd.V_mono HO_0.out (fun _ hk => ⟨hk.1.1.1, ⟨hk.1.2, ⟨hk.2, hk.1.1.2⟩⟩⟩)), (by (with_reducible repeat (first | refine blk_drewN ?_ _ | refine blk_drew ?_ | refine blk_alloc ?_ _)); exact BK559.out), (by repeat (first | (with_reducible first | exact HB.out | apply below_alloc | apply pw_below_drewN | apply below_drew1 | refine below_set ?_ GE559.out) | exact HB.out))⟩)
            ·skip
             refine Kd.R_lit_step (Kd.int .u64) _ 32 ?hg (N := 42) ?hd (xs := ([a3] : List Int)) (inner := [.int .u64 a3]) (ok := fun _ => True) (okp := fun _ => True) ?hr ?hp (fun _ hk => hk) trivial (Below.refl _ _) (Nat.le_refl _) (by simp) ?_; (case hd => rfl); (case hg => rfl); (case hr => first | (go_simp; done) | (go_simp; rfl)); (case hp => exact (Reps.one (show Kd.M (Kd.int .u64) _ _ _ a3 [.int .u64 a3] from rfl) (Reps.none _ _)))
             intro v580 w44 ho45 hb hg_ hnew_
             clear hg_ hnew_
             (first | rw [← Ny579.out] at ho45 | (simp only [Int.reduceToNat] at ho45; rw [← Ny579.out] at ho45))
             have n0_ := Aside0.mk (Kd.V_elder' (by (with_reducible repeat (first | apply Kd.V_alloc | apply Kd.V_drewN | apply Kd.V_drew)); exact HO_0.out) (Kd.R_base ho45) hb)
             have n1_ := Aside0.mk (Kd.V_elder' (by (with_reducible repeat (first | apply Kd.V_alloc | apply Kd.V_drewN | apply Kd.V_drew)); exact HO571.out) (Kd.R_base ho45) hb)
             have n2_ := Aside0.mk (Kd.R_elder' (by (with_reducible repeat (first | apply Kd.R_alloc | apply Kd.R_drewN | apply Kd.R_drew)); exact HO575.out) (Kd.R_base ho45) hb)
             have n3_ := Aside0.mk (Kd.R_lower (Kd.R_new' (Kd.R_newM (M := fun k_ => (w.heap.size ≤ k_)) ho45 (below_size (by repeat (first | (with_reducible first | exact HB.out | apply below_alloc | apply pw_below_drewN | apply below_drew1 | refine below_set ?_ GE559.out) | exact HB.out))) (fun k_ h_ => h_)) (Kd.R_lt (by (with_reducible repeat (first | apply Kd.R_alloc | apply Kd.R_drewN | apply Kd.R_drew)); exact HO575.out))) (below_size (by repeat (first | (with_reducible first | exact HB.out | apply below_alloc | apply pw_below_drewN | apply below_drew1 | refine below_set ?_ GE559.out) | exact HB.out))))
             have n4_ := Aside0.mk (blk_below (g := gb559) (o := .cells #[.int .i64 a1_0, .int .i64 a1_1, .int .i64 a1_2] 24 (0, 0)) (by (with_reducible repeat (first | refine blk_drewN ?_ _ | refine blk_drew ?_ | refine blk_alloc ?_ _)); exact BK559.out) hb)
             have n5_ := Aside0.mk (below_step (by repeat (first | (with_reducible first | exact HB.out | apply below_alloc | apply pw_below_drewN | apply below_drew1 | refine below_set ?_ GE559.out) | exact HB.out)) hb)
             clear HO_0
             clear HO571
             clear HO575
             clear BK559
             clear HB
             have HO_0 := n0_
             have HO571 := n1_
             have HO575 := n2_
             have HO581 := n3_
             have BK559 := n4_
             have HB := n5_
             clear n0_ n1_ n2_ n3_ n4_ n5_
             clear hb ho45
             refine hK.out _ _ ⟨(blk_cell BK559.out 0).trans rfl, (blk_cell BK559.out 1).trans rfl, (blk_cell BK559.out 2).trans rfl⟩ (fun hHeld => ?_)
             clear hK K
             refine norm_ (a' := ?_) ?_ ?_
             rotate_left
             ·show Act.put _ (some 42) _ = _
              simp only [Act.put, List.setIfInBounds_toArray, List.set_cons_zero, List.set_cons_succ, i64_w, i32_w]
              rfl
             refine one_ (i := 9) (N := some 40) #[true, true, true, true, true, true, true, true, true, true, true, true, false, true, false, false, false, false] rfl rfl (one_of HT_.out (by kernel_rfl)) (by decide) (fun K hK => ?_)
             refine Kd.R_append_rows_step (Kd.int .u64) (w0 := w) w.heap.size (by rfl) (.tmp 38) (.tmp 39) 22 32 (.int .u64 0) 8 rfl Tryd.underlying22 info32 rfl (by decide) (by omega) v574 y573 l0 _ _ _ (fun k_ => (w.heap.size ≤ k_) ∧ some k_ ≠ (v580 : Value).ownBlock) (fun _ => False) rfl rfl ?aO ?aR (fun _ _ h => h) (fun _ h => h.elim) ?aF ?aB ?aS ?aL ?_
             (case aR => repeat (first | exact (Kd.V_reads' HO_0.out).2.2 | (with_reducible refine Kd.C_alloc ?_ _) | (with_reducible refine Kd.C_drewN ?_ _) | (with_reducible refine Kd.C_drew ?_)))
             (case aB => exact (by repeat (first | (with_reducible first | exact HB.out | apply below_alloc | apply pw_below_drewN | apply below_drew1 | refine below_set ?_ GE559.out) | exact HB.out)))
             (case aF => exact (fun k_ hk => ⟨(Nat.le_trans (below_size (by repeat (first | (with_reducible first | exact HB.out | apply below_alloc | apply pw_below_drewN | apply below_drew1 | refine below_set ?_ GE559.out) | exact HB.out))) hk), Kd.fresh' (Kd.R_lt (by (with_reducible repeat (first | apply Kd.R_alloc | apply Kd.R_drewN | apply Kd.R_drew)); exact HO581.out)) k_ hk⟩))
             (case aO => exact (by (with_reducible repeat (first | apply Kd.R_alloc | apply Kd.R_drewN | apply Kd.R_drew)); exact Kd.R_mono HO575.out (fun _ hk => ⟨hk.1.1, hk.2⟩)))
             (case aS => exact (below_size (by repeat (first | (with_reducible first | exact HB.out | apply below_alloc | apply pw_below_drewN | apply below_drew1 | refine below_set ?_ GE559.out) | exact HB.out))))
             (case aL => have := LMc36.out; omega)
             intro v577 w46 ho hb hg hat
             rw [← Ny576.out] at ho
             have n0_ := Aside0.mk (Kd.V_afterv (ok := (fun k_ => (P0_ k_ ∨ w.heap.size ≤ k_) ∧ some k_ ≠ (v580 : Value).ownBlock ∧ k_ ≠ gb559)) (by (with_reducible repeat (first | apply Kd.V_alloc | apply Kd.V_drewN | apply Kd.V_drew)); exact Kd.V_mono HO_0.out (fun _ hk => ⟨⟨hk.1.1.1, ⟨hk.2, hk.1.1.2⟩⟩, hk.1.2⟩)) hg hat)
             have n1_ := Aside0.mk (blk_grown (g := gb559) (o := .cells #[.int .i64 a1_0, .int .i64 a1_1, .int .i64 a1_2] 24 (0, 0)) (by (with_reducible repeat (first | refine blk_drewN ?_ _ | refine blk_drew ?_ | refine blk_alloc ?_ _)); exact BK559.out) hg (Kd.R_ne HO575.out BK559.out (by decide)))
             have n2_ := Aside0.mk (Kd.V_afterv (ok := (fun k_ => (P0_ k_ ∨ w.heap.size ≤ k_) ∧ some k_ ≠ (v580 : Value).ownBlock ∧ k_ ≠ gb559)) (by (with_reducible repeat (first | apply Kd.V_alloc | apply Kd.V_drewN | apply Kd.V_drew)); exact Kd.V_mono HO571.out (fun _ hk => ⟨⟨hk.1.1.1, ⟨hk.2, hk.1.1.2⟩⟩, hk.1.2⟩)) hg hat)
             have n3_ := Aside0.mk (Kd.R_after (ok := (fun k_ => (w.heap.size ≤ k_))) (by (with_reducible repeat (first | apply Kd.R_alloc | apply Kd.R_drewN | apply Kd.R_drew)); exact Kd.R_mono HO581.out (fun _ hk => ⟨hk.1.1, hk.2⟩)) hg hat)
             have n4_ := Aside0.mk (hb)
             have n5_ := Aside0.mk (ho)
             clear HO_0
             clear BK559
             clear HO571
             clear HO581
             clear HB
             clear HO575
             have HO_0 := n0_
             have BK559 := n1_
             have HO571 := n2_
             have HO581 := n3_
             have HB := n4_
             have HO578 := n5_
             clear n0_ n1_ n2_ n3_ n4_ n5_
             clear ho hb hg hat
             refine hK.out _ _ ⟨(blk_cell BK559.out 0).trans rfl, (blk_cell BK559.out 1).trans rfl, (blk_cell BK559.out 2).trans rfl⟩ (fun hHeld => ?_)
             clear hK K
             refine norm_ (a' := ?_) ?_ ?_
             rotate_left
             ·show Act.put _ (some 40) _ = _
              simp only [Act.put, List.setIfInBounds_toArray, List.set_cons_zero, List.set_cons_succ, i64_w, i32_w]
              rfl
             exact norm_ (by simp only [putAll, Act.put, List.setIfInBounds_toArray, List.set_cons_zero, List.set_cons_succ]) (hCont (v574, v577, v580) _ ⟨hHeld, (by (with_reducible repeat (first | apply Kd.V_alloc | apply Kd.V_drewN | apply Kd.V_drew)); exact Kd.V_mono HO571.out (fun _ hk => ⟨hk.1.1, ⟨hk.2, ⟨hk.1.2.1, hk.1.2.2⟩⟩⟩)), (by (with_reducible repeat (first | apply Kd.R_alloc | apply Kd.R_drewN | apply Kd.R_drew)); exact HO578.out), (by (with_reducible repeat (first | apply Kd.R_alloc | apply Kd.R_drewN | apply Kd.R_drew)); exact HO581.out), (by (with_reducible repeat (first | apply Kd.V_alloc | apply Kd.V_drewN | apply Kd.V_drew)); exact Kd.V_mono HO_0.out (fun _ hk => ⟨hk.1.1, ⟨hk.2, ⟨hk.1.2.1, hk.1.2.2⟩⟩⟩)), (by (with_reducible repeat (first | refine blk_drewN ?_ _ | refine blk_drew ?_ | refine blk_alloc ?_ _)); exact BK559.out), (by repeat (first | (with_reducible first | exact HB.out | apply below_alloc | apply pw_below_drewN | apply below_drew1 | refine below_set ?_ GE559.out) | exact HB.out))⟩)
           ·skip
            refine Kd.R_lit_step (Kd.int .u64) _ 32 ?hg (N := 42) ?hd (xs := ([a3] : List Int)) (inner := [.int .u64 a3]) (ok := fun _ => True) (okp := fun _ => True) ?hr ?hp (fun _ hk => hk) trivial (Below.refl _ _) (Nat.le_refl _) (by simp) ?_; (case hd => rfl); (case hg => rfl); (case hr => first | (go_simp; done) | (go_simp; rfl)); (case hp => exact (Reps.one (show Kd.M (Kd.int .u64) _ _ _ a3 [.int .u64 a3] from rfl) (Reps.none _ _)))
            intro v580 w42 ho43 hb hg_ hnew_
            clear hg_ hnew_
            (first | rw [← Ny579.out] at ho43 | (simp only [Int.reduceToNat] at ho43; rw [← Ny579.out] at ho43))
            have n0_ := Aside0.mk (Kd.V_elder' (by (with_reducible repeat (first | apply Kd.V_alloc | apply Kd.V_drewN | apply Kd.V_drew)); exact HO_0.out) (Kd.R_base ho43) hb)
            have n1_ := Aside0.mk (Kd.V_elder' (by (with_reducible repeat (first | apply Kd.V_alloc | apply Kd.V_drewN | apply Kd.V_drew)); exact HO571.out) (Kd.R_base ho43) hb)
            have n2_ := Aside0.mk (Kd.R_lower (Kd.R_newM (M := fun k_ => (w.heap.size ≤ k_)) ho43 (below_size (by repeat (first | (with_reducible first | exact HB.out | apply below_alloc | apply pw_below_drewN | apply below_drew1 | refine below_set ?_ GE559.out) | exact HB.out))) (fun k_ h_ => h_)) (below_size (by repeat (first | (with_reducible first | exact HB.out | apply below_alloc | apply pw_below_drewN | apply below_drew1 | refine below_set ?_ GE559.out) | exact HB.out))))
            have n3_ := Aside0.mk (blk_below (g := gb559) (o := .cells #[.int .i64 a1_0, .int .i64 a1_1, .int .i64 a1_2] 24 (0, 0)) (by (with_reducible repeat (first | refine blk_drewN ?_ _ | refine blk_drew ?_ | refine blk_alloc ?_ _)); exact BK559.out) hb)
            have n4_ := Aside0.mk (below_step (by repeat (first | (with_reducible first | exact HB.out | apply below_alloc | apply pw_below_drewN | apply below_drew1 | refine below_set ?_ GE559.out) | exact HB.out)) hb)
            clear HO_0
            clear HO571
            clear BK559
            clear HB
            have HO_0 := n0_
            have HO571 := n1_
            have HO581 := n2_
            have BK559 := n3_
            have HB := n4_
            clear n0_ n1_ n2_ n3_ n4_
            clear hb ho43
            refine hK.out _ _ ⟨(blk_cell BK559.out 0).trans rfl, (blk_cell BK559.out 1).trans rfl, (blk_cell BK559.out 2).trans rfl⟩ (fun hHeld => ?_)
            clear hK K
            refine norm_ (a' := ?_) ?_ ?_
            rotate_left
            ·show Act.put _ (some 42) _ = _
             simp only [Act.put, List.setIfInBounds_toArray, List.set_cons_zero, List.set_cons_succ, i64_w, i32_w]
             rfl
            refine one_ (i := 7) (N := some 38) #[true, true, true, true, true, true, true, true, true, false, true, true, false, true, false, false, false, false] rfl rfl (one_of HT_.out (by kernel_rfl)) (by decide) (fun K hK => ?_)
            refine Kd.R_lit_step (Kd.int .u64) _ 32 ?hg (N := 38) ?hd (xs := ([] : List Int)) (inner := []) (ok := fun _ => True) (okp := fun _ => True) ?hr ?hp (fun _ hk => hk) trivial (Below.refl _ _) (Nat.le_refl _) (by simp) ?_; (case hd => rfl); (case hg => rfl); (case hr => first | (go_simp; done) | (go_simp; rfl)); (case hp => exact (Reps.none _ _))
            intro v574 w44 ho45 hb hg_ hnew_
            clear hg_ hnew_
            (first | rw [← Ny573.out] at ho45 | (simp only [Int.reduceToNat] at ho45; rw [← Ny573.out] at ho45))
            have n0_ := Aside0.mk (Kd.V_elder' (by (with_reducible repeat (first | apply Kd.V_alloc | apply Kd.V_drewN | apply Kd.V_drew)); exact HO_0.out) (Kd.R_base ho45) hb)
            have n1_ := Aside0.mk (Kd.V_elder' (by (with_reducible repeat (first | apply Kd.V_alloc | apply Kd.V_drewN | apply Kd.V_drew)); exact HO571.out) (Kd.R_base ho45) hb)
            have n2_ := Aside0.mk (Kd.R_elder' (by (with_reducible repeat (first | apply Kd.R_alloc | apply Kd.R_drewN | apply Kd.R_drew)); exact HO581.out) (Kd.R_base ho45) hb)
            have n3_ := Aside0.mk (Kd.R_lower (Kd.R_new' (Kd.R_newM (M := fun k_ => (w.heap.size ≤ k_)) ho45 (below_size (by repeat (first | (with_reducible first | exact HB.out | apply below_alloc | apply pw_below_drewN | apply below_drew1 | refine below_set ?_ GE559.out) | exact HB.out))) (fun k_ h_ => h_)) (Kd.R_lt (by (with_reducible repeat (first | apply Kd.R_alloc | apply Kd.R_drewN | apply Kd.R_drew)); exact HO581.out))) (below_size (by repeat (first | (with_reducible first | exact HB.out | apply below_alloc | apply pw_below_drewN | apply below_drew1 | refine below_set ?_ GE559.out) | exact HB.out))))
            have n4_ := Aside0.mk (blk_below (g := gb559) (o := .cells #[.int .i64 a1_0, .int .i64 a1_1, .int .i64 a1_2] 24 (0, 0)) (by (with_reducible repeat (first | refine blk_drewN ?_ _ | refine blk_drew ?_ | refine blk_alloc ?_ _)); exact BK559.out) hb)
            have n5_ := Aside0.mk (below_step (by repeat (first | (with_reducible first | exact HB.out | apply below_alloc | apply pw_below_drewN | apply below_drew1 | refine below_set ?_ GE559.out) | exact HB.out)) hb)
            clear HO_0
            clear HO571
            clear HO581
            clear BK559
            clear HB
            have HO_0 := n0_
            have HO571 := n1_
            have HO581 := n2_
            have HO575 := n3_
            have BK559 := n4_
            have HB := n5_
            clear n0_ n1_ n2_ n3_ n4_ n5_
            clear hb ho45
            refine hK.out _ _ ⟨(blk_cell BK559.out 0).trans rfl, (blk_cell BK559.out 1).trans rfl, (blk_cell BK559.out 2).trans rfl⟩ (fun hHeld => ?_)
            clear hK K
            refine norm_ (a' := ?_) ?_ ?_
            rotate_left
            ·show Act.put _ (some 38) _ = _
             simp only [Act.put, List.setIfInBounds_toArray, List.set_cons_zero, List.set_cons_succ, i64_w, i32_w]
             rfl
            refine one_ (i := 9) (N := some 40) #[true, true, true, true, true, true, true, true, true, true, true, true, false, true, false, false, false, false] rfl rfl (one_of HT_.out (by kernel_rfl)) (by decide) (fun K hK => ?_)
            refine Kd.R_append_rows_step (Kd.int .u64) (w0 := w) w.heap.size (by rfl) (.tmp 38) (.tmp 39) 22 32 (.int .u64 0) 8 rfl Tryd.underlying22 info32 rfl (by decide) (by omega) v574 y573 l0 _ _ _ (fun k_ => (w.heap.size ≤ k_) ∧ some k_ ≠ (v580 : Value).ownBlock) (fun _ => False) rfl rfl ?aO ?aR (fun _ _ h => h) (fun _ h => h.elim) ?aF ?aB ?aS ?aL ?_
            (case aR => repeat (first | exact (Kd.V_reads' HO_0.out).2.2 | (with_reducible refine Kd.C_alloc ?_ _) | (with_reducible refine Kd.C_drewN ?_ _) | (with_reducible refine Kd.C_drew ?_)))
            (case aB => exact (by repeat (first | (with_reducible first | exact HB.out | apply below_alloc | apply pw_below_drewN | apply below_drew1 | refine below_set ?_ GE559.out) | exact HB.out)))
            (case aF => exact (fun k_ hk => ⟨(Nat.le_trans (below_size (by repeat (first | (with_reducible first | exact HB.out | apply below_alloc | apply pw_below_drewN | apply below_drew1 | refine below_set ?_ GE559.out) | exact HB.out))) hk), Kd.fresh' (Kd.R_lt (by (with_reducible repeat (first | apply Kd.R_alloc | apply Kd.R_drewN | apply Kd.R_drew)); exact HO581.out)) k_ hk⟩))
            (case aO => exact (by (with_reducible repeat (first | apply Kd.R_alloc | apply Kd.R_drewN | apply Kd.R_drew)); exact Kd.R_mono HO575.out (fun _ hk => ⟨hk.1.1, hk.2⟩)))
            (case aS => exact (below_size (by repeat (first | (with_reducible first | exact HB.out | apply below_alloc | apply pw_below_drewN | apply below_drew1 | refine below_set ?_ GE559.out) | exact HB.out))))
            (case aL => have := LMc36.out; omega)
            intro v577 w46 ho hb hg hat
            rw [← Ny576.out] at ho
            have n0_ := Aside0.mk (Kd.V_afterv (ok := (fun k_ => (P0_ k_ ∨ w.heap.size ≤ k_) ∧ some k_ ≠ (v580 : Value).ownBlock ∧ k_ ≠ gb559)) (by (with_reducible repeat (first | apply Kd.V_alloc | apply Kd.V_drewN | apply Kd.V_drew)); exact Kd.V_mono HO_0.out (fun _ hk => ⟨⟨hk.1.1.1, ⟨hk.1.2, hk.1.1.2⟩⟩, hk.2⟩)) hg hat)
            have n1_ := Aside0.mk (blk_grown (g := gb559) (o := .cells #[.int .i64 a1_0, .int .i64 a1_1, .int .i64 a1_2] 24 (0, 0)) (by (with_reducible repeat (first | refine blk_drewN ?_ _ | refine blk_drew ?_ | refine blk_alloc ?_ _)); exact BK559.out) hg (Kd.R_ne HO575.out BK559.out (by decide)))
            have n2_ := Aside0.mk (Kd.V_afterv (ok := (fun k_ => (P0_ k_ ∨ w.heap.size ≤ k_) ∧ some k_ ≠ (v580 : Value).ownBlock ∧ k_ ≠ gb559)) (by (with_reducible repeat (first | apply Kd.V_alloc | apply Kd.V_drewN | apply Kd.V_drew)); exact Kd.V_mono HO571.out (fun _ hk => ⟨⟨hk.1.1.1, ⟨hk.1.2, hk.1.1.2⟩⟩, hk.2⟩)) hg hat)
            have n3_ := Aside0.mk (Kd.R_after (ok := (fun k_ => (w.heap.size ≤ k_))) (by (with_reducible repeat (first | apply Kd.R_alloc | apply Kd.R_drewN | apply Kd.R_drew)); exact Kd.R_mono HO581.out (fun _ hk => ⟨hk.1.1, hk.2⟩)) hg hat)
            have n4_ := Aside0.mk (hb)
            have n5_ := Aside0.mk (ho)
            clear HO_0
            clear BK559
            clear HO571
            clear HO581
            clear HB
            clear HO575
            have HO_0 := n0_
            have BK559 := n1_
            have HO571 := n2_
            have HO581 := n3_
            have HB := n4_
            have HO578 := n5_
            clear n0_ n1_ n2_ n3_ n4_ n5_
            clear ho hb hg hat
            refine hK.out _ _ ⟨(blk_cell BK559.out 0).trans rfl, (blk_cell BK559.out 1).trans rfl, (blk_cell BK559.out 2).trans rfl⟩ (fun hHeld => ?_)
            clear hK K
            refine norm_ (a' := ?_) ?_ ?_
            rotate_left
            ·show Act.put _ (some 40) _ = _
             simp only [Act.put, List.setIfInBounds_toArray, List.set_cons_zero, List.set_cons_succ, i64_w, i32_w]
             rfl
            exact norm_ (by simp only [putAll, Act.put, List.setIfInBounds_toArray, List.set_cons_zero, List.set_cons_succ]) (hCont (v574, v577, v580) _ ⟨hHeld, (by (with_reducible repeat (first | apply Kd.V_alloc | apply Kd.V_drewN | apply Kd.V_drew)); exact Kd.V_mono HO571.out (fun _ hk => ⟨hk.1.1, ⟨hk.2, ⟨hk.1.2.1, hk.1.2.2⟩⟩⟩)), (by (with_reducible repeat (first | apply Kd.R_alloc | apply Kd.R_drewN | apply Kd.R_drew)); exact HO578.out), (by (with_reducible repeat (first | apply Kd.R_alloc | apply Kd.R_drewN | apply Kd.R_drew)); exact HO581.out), (by (with_reducible repeat (first | apply Kd.V_alloc | apply Kd.V_drewN | apply Kd.V_drew)); exact Kd.V_mono HO_0.out (fun _ hk => ⟨hk.1.1, ⟨hk.2, ⟨hk.1.2.1, hk.1.2.2⟩⟩⟩)), (by (with_reducible repeat (first | refine blk_drewN ?_ _ | refine blk_drew ?_ | refine blk_alloc ?_ _)); exact BK559.out), (by repeat (first | (with_reducible first | exact HB.out | apply below_alloc | apply pw_below_drewN | apply below_drew1 | refine below_set ?_ GE559.out) | exact HB.out))⟩)
          rintro ⟨v574, v577, v580⟩ w47 ⟨hS_, h0_, h1_, h2_, h3_, h4_, h5_⟩
          have n0_ : Aside0 (Kd.V (Kd.int .u64) 32 w47 w.heap.size (fun k_ => (P0_ k_ ∨ w.heap.size ≤ k_) ∧ some k_ ≠ (v577 : Value).ownBlock ∧ some k_ ≠ (v580 : Value).ownBlock ∧ k_ ≠ gb559) (.slice A0 y567.length c0) y567) := ⟨h0_⟩
          have n1_ : Aside0 (Kd.R (Kd.int .u64) 32 w47 w.heap.size (fun k_ => (w.heap.size ≤ k_) ∧ some k_ ≠ (v580 : Value).ownBlock) v577 y576) := ⟨h1_⟩
          have n2_ : Aside0 (Kd.R (Kd.int .u64) 32 w47 w.heap.size (fun k_ => (w.heap.size ≤ k_) ∧ some k_ ≠ (v577 : Value).ownBlock) v580 y579) := ⟨h2_⟩
          have n3_ : Aside0 (Kd.V (Kd.int .u64) 32 w47 w.heap.size (fun k_ => (P0_ k_ ∨ w.heap.size ≤ k_) ∧ some k_ ≠ (v577 : Value).ownBlock ∧ some k_ ≠ (v580 : Value).ownBlock ∧ k_ ≠ gb559) (.slice A0 l0.length c0) l0) := ⟨h3_⟩
          have n4_ : Aside0 (w47.heap[gb559]? = some (.cells #[.int .i64 a1_0, .int .i64 a1_1, .int .i64 a1_2] 24 (0, 0))) := ⟨h4_⟩
          have n5_ : Aside0 (Below w.heap.size w w47) := ⟨h5_⟩
          clear HO_0
          clear BK559
          clear HB
          clear h0_ h1_ h2_ h3_ h4_ h5_
          have HO571 := n0_
          have HO578 := n1_
          have HO581 := n2_
          have HO_0 := n3_
          have BK559 := n4_
          have HB := n5_
          clear n0_ n1_ n2_ n3_ n4_ n5_
          have hHeld : w47.cell? ⟨gb559, 0, none⟩ = some (.int .i64 a1_0) ∧ w47.cell? ⟨gb559, 1, none⟩ = some (.int .i64 a1_1) ∧ w47.cell? ⟨gb559, 2, none⟩ = some (.int .i64 a1_2) := hS_
          obtain ⟨Ao49, co49, eo49⟩ := Kd.R_slice HO581.out
          (first | subst eo49 | (injection eo49 with f1_ f2_ f3_; have f4_ := f1_.symm; have f5_ := f3_.symm; clear f1_ f2_ f3_; subst f4_; subst f5_))
          refine norm_ (a' := ?_) ?_ ?_
          rotate_left
          ·simp only [putAll, Act.put, List.setIfInBounds_toArray, List.set_cons_zero, List.set_cons_succ]
           rfl
          refine one_ (i := 12) (N := some 43) #[true, true, true, true, true, true, true, true, true, true, true, true, true, true, false, false, false, false] rfl rfl (one_of HT_.out (by kernel_rfl)) (by decide) (fun K hK => ?_)
          refine Kd.R_append_rows_step (Kd.int .u64) (w0 := w) w.heap.size (by rfl) (.tmp 40) (.tmp 42) 22 32 (.int .u64 0) 8 rfl Tryd.underlying22 info32 rfl (by decide) (by omega) v577 y576 y579 _ _ _ (fun k_ => (w.heap.size ≤ k_) ∧ some k_ ≠ (.slice Ao49 y579.length co49 : Value).ownBlock) (fun _ => False) rfl rfl ?aO ?aR (fun _ _ h => h) (fun _ h => h.elim) ?aF ?aB ?aS ?aL ?_
          (case aR => repeat (first | exact (Kd.R_reads' HO581.out).2.2 | (with_reducible refine Kd.C_alloc ?_ _) | (with_reducible refine Kd.C_drewN ?_ _) | (with_reducible refine Kd.C_drew ?_)))
          (case aB => exact (by repeat (first | (with_reducible first | exact HB.out | apply below_alloc | apply pw_below_drewN | apply below_drew1 | refine below_set ?_ GE559.out) | exact HB.out)))
          (case aF => exact (fun k_ hk => ⟨(Nat.le_trans (below_size (by repeat (first | (with_reducible first | exact HB.out | apply below_alloc | apply pw_below_drewN | apply below_drew1 | refine below_set ?_ GE559.out) | exact HB.out))) hk), Kd.fresh' (Kd.R_lt (by (with_reducible repeat (first | apply Kd.R_alloc | apply Kd.R_drewN | apply Kd.R_drew)); exact HO581.out)) k_ hk⟩))
          (case aO => exact (by (with_reducible repeat (first | apply Kd.R_alloc | apply Kd.R_drewN | apply Kd.R_drew)); exact HO578.out))
          (case aS => exact (below_size (by repeat (first | (with_reducible first | exact HB.out | apply below_alloc | apply pw_below_drewN | apply below_drew1 | refine below_set ?_ GE559.out) | exact HB.out))))
          (case aL => have := LMc37.out; omega)
          intro v583 w48 ho hb hg hat
          rw [← Ny582.out] at ho
          have n0_ := Aside0.mk (Kd.V_afterv (ok := (fun k_ => (P0_ k_ ∨ w.heap.size ≤ k_) ∧ some k_ ≠ (.slice Ao49 y579.length co49 : Value).ownBlock ∧ k_ ≠ gb559)) (by (with_reducible repeat (first | apply Kd.V_alloc | apply Kd.V_drewN | apply Kd.V_drew)); exact Kd.V_mono HO_0.out (fun _ hk => ⟨⟨hk.1, ⟨hk.2.2.1, hk.2.2.2⟩⟩, hk.2.1⟩)) hg hat)
          have n1_ := Aside0.mk (blk_grown (g := gb559) (o := .cells #[.int .i64 a1_0, .int .i64 a1_1, .int .i64 a1_2] 24 (0, 0)) (by (with_reducible repeat (first | refine blk_drewN ?_ _ | refine blk_drew ?_ | refine blk_alloc ?_ _)); exact BK559.out) hg (Kd.R_ne HO578.out BK559.out (by decide)))
          have n2_ := Aside0.mk (Kd.V_afterv (ok := (fun k_ => (P0_ k_ ∨ w.heap.size ≤ k_) ∧ some k_ ≠ (.slice Ao49 y579.length co49 : Value).ownBlock ∧ k_ ≠ gb559)) (by (with_reducible repeat (first | apply Kd.V_alloc | apply Kd.V_drewN | apply Kd.V_drew)); exact Kd.V_mono HO571.out (fun _ hk => ⟨⟨hk.1, ⟨hk.2.2.1, hk.2.2.2⟩⟩, hk.2.1⟩)) hg hat)
          have n3_ := Aside0.mk (Kd.R_after (ok := (fun k_ => (w.heap.size ≤ k_))) (by (with_reducible repeat (first | apply Kd.R_alloc | apply Kd.R_drewN | apply Kd.R_drew)); exact HO581.out) hg hat)
          have n4_ := Aside0.mk (hb)
          have n5_ := Aside0.mk (ho)
          clear HO_0
          clear BK559
          clear HO571
          clear HO581
          clear HB
          clear HO578
          have HO_0 := n0_
          have BK559 := n1_
          have HO571 := n2_
          have HO581 := n3_
          have HB := n4_
          have HO584 := n5_
          clear n0_ n1_ n2_ n3_ n4_ n5_
          clear ho hb hg hat
          obtain ⟨Ao50, co50, eo50⟩ := Kd.R_slice HO584.out
          (first | subst eo50 | (injection eo50 with f1_ f2_ f3_; have f4_ := f1_.symm; have f5_ := f3_.symm; clear f1_ f2_ f3_; subst f4_; subst f5_))
          refine hK.out _ _ ⟨(blk_cell BK559.out 0).trans rfl, (blk_cell BK559.out 1).trans rfl, (blk_cell BK559.out 2).trans rfl⟩ (fun hHeld => ?_)
          clear hK K
          refine norm_ (a' := ?_) ?_ ?_
          rotate_left
          ·show Act.put _ (some 43) _ = _
           simp only [Act.put, List.setIfInBounds_toArray, List.set_cons_zero, List.set_cons_succ, i64_w, i32_w]
           rfl
          refine one_ (i := 14) (N := some 45) #[true, true, true, true, true, true, true, true, true, true, true, true, true, true, true, false, false, false] rfl rfl (one_of HT_.out (by kernel_rfl)) (by decide) (fun K hK => ?_)
          refine goes_ Tryd.func10 (by kernel_rfl) rfl #[.slice Ao50 y582.length co50, .agg #[.int .i64 a1_0, .int .i64 a1_1, .int .i64 a1_2]] (by rfl) rfl rfl (by (try simp only [List.map_toArray, List.map_cons, List.map_nil]); first | done | rfl | (simp only [List.length_drop, List.length_take]; rfl)) ?_
          with_reducible refine (canoncheck_Words.calls kj4 _ _ y582 a1_0 a1_1 a1_2 t585 _ ?side1 ?side2 A38.out ?tab).mono ?_
          (case tab => exact HTAB.out.below (by repeat (first | (with_reducible first | exact HB.out | apply below_alloc | apply pw_below_drewN | apply below_drew1 | refine below_set ?_ GE559.out) | exact HB.out)))
          (case side1 => repeat (first | exact (Kd.R_reads' HO584.out).2.2 | (with_reducible refine Kd.C_alloc ?_ _) | (with_reducible refine Kd.C_drewN ?_ _) | (with_reducible refine Kd.C_drew ?_)))
          (case side2 => exact (Kd.R_reads' HO584.out).2.1)
          rintro e w51 ⟨rfl, hb⟩
          refine ⟨_, rfl, ?_⟩
          have n0_ := Aside0.mk (Kd.V_below (by (with_reducible repeat (first | apply Kd.V_alloc | apply Kd.V_drewN | apply Kd.V_drew)); exact HO_0.out) hb)
          have n1_ := Aside0.mk (Kd.V_below (by (with_reducible repeat (first | apply Kd.V_alloc | apply Kd.V_drewN | apply Kd.V_drew)); exact HO571.out) hb)
          have n2_ := Aside0.mk (Kd.R_below (by (with_reducible repeat (first | apply Kd.R_alloc | apply Kd.R_drewN | apply Kd.R_drew)); exact HO581.out) hb)
          have n3_ := Aside0.mk (Kd.R_below (by (with_reducible repeat (first | apply Kd.R_alloc | apply Kd.R_drewN | apply Kd.R_drew)); exact HO584.out) hb)
          have n4_ := Aside0.mk (blk_below (g := gb559) (o := .cells #[.int .i64 a1_0, .int .i64 a1_1, .int .i64 a1_2] 24 (0, 0)) (by (with_reducible repeat (first | refine blk_drewN ?_ _ | refine blk_drew ?_ | refine blk_alloc ?_ _)); exact BK559.out) hb)
          have n5_ := Aside0.mk (below_step (by repeat (first | (with_reducible first | exact HB.out | apply below_alloc | apply pw_below_drewN | apply below_drew1 | refine below_set ?_ GE559.out) | exact HB.out)) hb)
          clear HO_0
          clear HO571
          clear HO581
          clear HO584
          clear BK559
          clear HB
          have HO_0 := n0_
          have HO571 := n1_
          have HO581 := n2_
          have HO584 := n3_
          have BK559 := n4_
          have HB := n5_
          clear n0_ n1_ n2_ n3_ n4_ n5_
          (try clear hb)
          (try clear hb2)
          (try clear hk)
          (try clear hi)
          refine hK.out _ _ ⟨(blk_cell BK559.out 0).trans rfl, (blk_cell BK559.out 1).trans rfl, (blk_cell BK559.out 2).trans rfl⟩ (fun hHeld => ?_)
          clear hK K
          refine norm_ (a' := ?_) ?_ ?_
          rotate_left
          ·show Act.put _ (some 45) _ = _
           simp only [Act.put, List.setIfInBounds_toArray, List.set_cons_zero, List.set_cons_succ, i64_w, i32_w]
           rfl
          refine pure_ (i := 15) (N := some 46) (v := ?_) (a' := ?_) #[true, true, true, true, true, true, true, true, true, true, true, true, true, true, true, true, false, false] rfl rfl (any_of HT_.out (by kernel_rfl)) (fun _ _ _ h => h) (Or.inl ⟨by rfl, ?_⟩) ?_ ?_
          rotate_left
          ·intro w'
           go_simp
           with_reducible rfl
          rotate_left
          ·simp only [Act.put, List.setIfInBounds_toArray, List.set_cons_zero, List.set_cons_succ, i64_w, i32_w]
           rfl
          refine pure_ (i := 16) (N := some 47) (v := ?_) (a' := ?_) #[true, true, true, true, true, true, true, true, true, true, true, true, true, true, true, true, true, false] rfl rfl (any_of HT_.out (by kernel_rfl)) (fun _ _ _ h => h) (Or.inl ⟨by rfl, ?_⟩) ?_ ?_
          rotate_left
          ·intro w'
           go_simp
           with_reducible rfl
          rotate_left
          ·simp only [Act.put, List.setIfInBounds_toArray, List.set_cons_zero, List.set_cons_succ, i64_w, i32_w]
           rfl
          refine pure_ (i := 17) (N := some 8) (v := ?_) (a' := ?_) #[true, true, true, true, true, true, true, true, true, true, true, true, true, true, true, true, true, true] rfl rfl (any_of HT_.out (by kernel_rfl)) (fun _ _ _ h => h) (Or.inl ⟨by rfl, ?_⟩) ?_ ?_
          rotate_left
          ·intro w'
           go_simp
           with_reducible rfl
          rotate_left
          ·simp only [Act.put, List.setIfInBounds_toArray, List.set_cons_zero, List.set_cons_succ, i64_w, i32_w]
           rfl
          refine done_ (done_of HT_.out (by kernel_rfl)) ?_
          try go_wp2
          go_ret
          exact ⟨by first | rfl | (simp [errW_none, errW_some] <;> rfl) | (simp only [← hji31]; first | rfl | (simp [errW_none, errW_some] <;> rfl)) | (simp [*, errW_none, errW_some] <;> rfl), by repeat (first | (with_reducible first | exact HB.out | apply below_alloc | apply pw_below_drewN | apply below_drew1 | refine below_set ?_ GE559.out) | exact HB.out)⟩
         ·rw [if_neg c37] at H
          exact absurd H (by simp)
        ·rw [if_neg c36] at H
         exact absurd H (by simp)
      ·rw [if_neg c33] at H
       exact absurd H (by simp)
     ·rw [if_neg c32] at H
      exact absurd H (by simp)
end Go.Proofs.YtidglmocekghmaaDoor.Pr
end
section
namespace Go.Proofs.YtidglmocekghmaaDoor.Pr
theorem wd_append {s t : List Int} {i : Nat} (h : i < s.length) : wd (s ++ t) i = wd s i := by
  unfold wd
  simp [List.getElem?_append_left h]
theorem objM_append {s t : List Int} {a : Nat} {off : Int} {n nx : Nat} (h : objM s a off n nx = true) : objM (s ++ t) a off n nx = true := by
  have := objM_in h
  unfold objM
  simp
  omega
theorem anyM_append {s t : List Int} {size : Nat} : ∀ k a, (∀ i, i < k → a + i * size < s.length) → anyM (s ++ t) size k a = anyM s size k a
  | 0, _, _ => rfl
  | k + 1, a, h => by
    have h0 := h 0 (by omega)
    rw [anyM, anyM, wd_append (by omega), anyM_append k (a + size) (fun i hi => by have := h (i + 1) (by omega); rw [Nat.add_mul] at this; omega)]
theorem restM_append {s t : List Int} {e c : Int} {nx n : Nat} (h : nx + n ≤ s.length) : restM (s ++ t) e c nx n = restM s e c nx n := by
  unfold restM
  have e1 : ((s ++ t).drop nx).take n = (s.drop nx).take n := by
    rw [List.drop_append_of_le_length (by omega), List.take_append_of_le_length (by simp; omega)]
  rw [e1]
def Loc (n : Nat) (v v' : Nat → Nat → Nat → Option (Nat × Nat)) : Prop := ∀ a nx m r, a < n → v a nx m = some r → v' a nx m = some r
theorem ptrsM_loc {N : Nat} {v v' : Nat → Nat → Nat → Option (Nat × Nat)} (hv : Loc N v v') : ∀ n a nx m r, a + n ≤ N → ptrsM v n a nx m = some r → ptrsM v' n a nx m = some r
  | 0, _, _, _, _, _, h => h
  | n + 1, a, nx, m, r, ha, h => by
    rw [ptrsM] at h ⊢
    cases h1 : v a nx m with
    | none => rw [h1] at h; cases h
    | some q =>
      rw [h1] at h
      rw [hv a nx m q (by omega) h1]
      exact ptrsM_loc hv n _ _ _ _ (by omega) h
theorem elemsM_loc {N : Nat} {v v' : Nat → Nat → Nat → Option (Nat × Nat)} (hv : Loc N v v') (p size : Nat) : ∀ k a nx m r, (∀ i, i < k → a + i * size + p ≤ N) → elemsM v p size k a nx m = some r → elemsM v' p size k a nx m = some r
  | 0, _, _, _, _, _, h => h
  | k + 1, a, nx, m, r, ha, h => by
    rw [elemsM] at h ⊢
    cases h1 : ptrsM v p a nx m with
    | none => rw [h1] at h; cases h
    | some q =>
      rw [h1] at h
      rw [ptrsM_loc hv p a nx m q (by have := ha 0 (by omega); omega) h1]
      exact elemsM_loc hv p size k _ _ _ _ (fun i hi => by have := ha (i + 1) (by omega); rw [Nat.add_mul] at this; omega) h
theorem structM_loc {s t : List Int} {v v' : Nat → Nat → Nat → Option (Nat × Nat)} (hv : Loc s.length v v') {a : Nat} {w : Int} {nx m : Nat} {r : Nat × Nat} (h : structM s v a w nx m = some r) : structM (s ++ t) v' a w nx m = some r := by
  unfold structM at h ⊢
  dsimp only at h ⊢
  generalize (dataW w).toNat = d at h ⊢
  generalize (ptrsW w).toNat = p at h ⊢
  by_cases h0 : d + p = 0
  · rw [if_pos h0] at h ⊢; exact h
  · rw [if_neg h0] at h ⊢
    by_cases h1 : objM s a (offW w) (d + p) nx = true
    · have hl := (objM_in h1).2
      rw [if_pos h1] at h
      rw [if_pos (objM_append h1)]
      by_cases h2 : d + p ≤ m
      · rw [if_pos h2] at h ⊢
        have e1 : lastM (s ++ t) nx d = lastM s nx d := by
          unfold lastM
          by_cases hd : d = 0
          · simp [hd]
          · rw [wd_append (by omega)]
        rw [e1]
        by_cases h3 : lastM s nx d = true
        · rw [if_pos h3] at h ⊢
          have e2 : (decide (p = 0) || decide (wd (s ++ t) (nx + d + p - 1) ≠ 0)) = (decide (p = 0) || decide (wd s (nx + d + p - 1) ≠ 0)) := by
            by_cases hp : p = 0
            · simp [hp]
            · rw [wd_append (by omega)]
          rw [e2]
          by_cases h4 : (decide (p = 0) || decide (wd s (nx + d + p - 1) ≠ 0)) = true
          · rw [if_pos h4] at h ⊢
            exact ptrsM_loc hv _ _ _ _ _ (by omega) h
          · rw [if_neg h4] at h; cases h
        · rw [if_neg h3] at h; cases h
      · rw [if_neg h2] at h; cases h
    · rw [if_neg h1] at h; cases h
theorem row_le {k K sz c : Nat} (hk : k < K) (h : K * sz = c) : k * sz + sz ≤ c := by
  have : (k + 1) * sz ≤ K * sz := Nat.mul_le_mul_right _ hk
  rw [Nat.add_mul] at this
  omega
theorem tag_nums {t w : Int} (h : kindW t = 0 ∧ 0 ≤ offW t ∧ offW t * (dataW t + ptrsW t) = cntW w) : (offW t).toNat * ((dataW t).toNat + (ptrsW t).toNat) = (cntW w).toNat := by
  obtain ⟨_, h1, h2⟩ := h
  have hd := dataW_bd t
  have hp := ptrsW_bd t
  obtain ⟨k, hk⟩ : ∃ k : Nat, offW t = k := ⟨(offW t).toNat, by omega⟩
  obtain ⟨d, hd'⟩ : ∃ k : Nat, dataW t = k := ⟨(dataW t).toNat, by omega⟩
  obtain ⟨p, hp'⟩ : ∃ k : Nat, ptrsW t = k := ⟨(ptrsW t).toNat, by omega⟩
  rw [hk, hd', hp'] at h2 ⊢
  have e : cntW w = ((k * (d + p) : Nat) : Int) := by rw [← h2]; simp
  rw [e]
  simp only [Int.toNat_natCast]
theorem compM_loc {s t : List Int} {v v' : Nat → Nat → Nat → Option (Nat × Nat)} (hv : Loc s.length v v') {a : Nat} {w : Int} {nx m : Nat} {r : Nat × Nat} (h : compM s v a w nx m = some r) : compM (s ++ t) v' a w nx m = some r := by
  unfold compM at h ⊢
  dsimp only at h ⊢
  by_cases h1 : objM s a (offW w) ((cntW w).toNat + 1) nx = true
  · have hl := (objM_in h1).2
    rw [if_pos h1] at h
    rw [if_pos (objM_append h1), wd_append (by omega)]
    by_cases h2 : kindW (wd s nx) = 0 ∧ 0 ≤ offW (wd s nx) ∧ offW (wd s nx) * (dataW (wd s nx) + ptrsW (wd s nx)) = cntW w
    · have hn := tag_nums h2
      rw [if_pos h2] at h ⊢
      generalize (cntW w).toNat = c at h hn hl ⊢
      generalize (dataW (wd s nx)).toNat = d at h hn ⊢
      generalize (ptrsW (wd s nx)).toNat = p at h hn ⊢
      generalize (offW (wd s nx)).toNat = K at h hn ⊢
      by_cases h3 : c + 1 ≤ m
      · rw [if_pos h3] at h ⊢
        by_cases h4 : d + p = 0
        · rw [if_pos h4] at h ⊢; exact h
        · rw [if_neg h4] at h ⊢
          have e1 : (decide (d = 0) || anyM (s ++ t) (d + p) K (nx + 1 + d - 1)) = (decide (d = 0) || anyM s (d + p) K (nx + 1 + d - 1)) := by
            by_cases hd : d = 0
            · simp [hd]
            · rw [anyM_append K _ (fun i hi => by have := row_le hi hn; omega)]
          have e2 : (decide (p = 0) || anyM (s ++ t) (d + p) K (nx + 1 + (d + p) - 1)) = (decide (p = 0) || anyM s (d + p) K (nx + 1 + (d + p) - 1)) := by
            by_cases hp : p = 0
            · simp [hp]
            · rw [anyM_append K _ (fun i hi => by have := row_le hi hn; omega)]
          rw [e1, e2]
          by_cases h5 : ((decide (d = 0) || anyM s (d + p) K (nx + 1 + d - 1)) && (decide (p = 0) || anyM s (d + p) K (nx + 1 + (d + p) - 1))) = true
          · rw [if_pos h5] at h ⊢
            exact elemsM_loc hv _ _ _ _ _ _ _ (fun i hi => by have := row_le hi hn; omega) h
          · rw [if_neg h5] at h; cases h
      · rw [if_neg h3] at h; cases h
    · rw [if_neg h2] at h; cases h
  · rw [if_neg h1] at h; cases h
theorem listM_loc {s t : List Int} {v v' : Nat → Nat → Nat → Option (Nat × Nat)} (hv : Loc s.length v v') {a : Nat} {w : Int} {nx m : Nat} {r : Nat × Nat} (h : listM s v a w nx m = some r) : listM (s ++ t) v' a w nx m = some r := by
  unfold listM at h ⊢
  by_cases h7 : elemW w = 7
  · rw [if_pos h7] at h ⊢
    exact compM_loc hv h
  · rw [if_neg h7] at h ⊢
    dsimp only at h ⊢
    generalize (wordsE (elemW w) (cntW w)).toNat = n at h ⊢
    by_cases h1 : objM s a (offW w) n nx = true
    · have hl := (objM_in h1).2
      rw [if_pos h1] at h
      rw [if_pos (objM_append h1)]
      by_cases h2 : n ≤ m
      · rw [if_pos h2] at h ⊢
        by_cases h6 : elemW w = 6
        · rw [if_pos h6] at h ⊢
          exact ptrsM_loc hv _ _ _ _ _ hl h
        · rw [if_neg h6] at h ⊢
          rw [restM_append hl]
          exact h
      · rw [if_neg h2] at h; cases h
    · rw [if_neg h1] at h; cases h
theorem visM_loc (s t : List Int) : ∀ f, Loc s.length (visM s f) (visM (s ++ t) f)
  | 0 => fun a nx m r ha h => by
    unfold visM at h ⊢
    rw [wd_append ha]; exact h
  | f + 1 => fun a nx m r ha h => by
    have ih := visM_loc s t f
    unfold visM at h ⊢
    rw [wd_append ha]
    by_cases h0 : wd s a = 0
    · rw [if_pos h0] at h ⊢; exact h
    · rw [if_neg h0] at h ⊢
      by_cases h1 : kindW (wd s a) = 0
      · rw [if_pos h1] at h ⊢
        exact structM_loc ih h
      · rw [if_neg h1] at h ⊢
        by_cases h2 : kindW (wd s a) = 1
        · rw [if_pos h2] at h ⊢
          exact listM_loc ih h
        · rw [if_neg h2] at h; cases h
theorem wordsM_append {s t : List Int} {D Wd : Int} (h : wordsM s D Wd = true) (ht : t ≠ []) : wordsM (s ++ t) D Wd = false := by
  unfold wordsM at h ⊢
  rw [Bool.and_eq_true] at h
  obtain ⟨h0, h1⟩ := h
  have h0' : 0 < s.length := of_decide_eq_true h0
  cases hv : visM s D.toNat 0 1 Wd.toNat with
  | none => rw [hv] at h1; cases h1
  | some r =>
    rw [hv] at h1
    have h2 : r.1 = s.length := of_decide_eq_true h1
    rw [visM_loc s t _ 0 1 _ r h0' hv]
    have hl : 0 < t.length := List.length_pos_iff.2 ht
    simp
    omega
theorem wordsM_take {s : List Int} {D Wd : Int} (h : wordsM s D Wd = true) {k : Nat} (hk : k < s.length) : wordsM (s.take k) D Wd = false := by
  cases hw : wordsM (s.take k) D Wd with
  | false => rfl
  | true =>
    have := wordsM_append hw (t := s.drop k) (fun e => by have := congrArg List.length e; simp at this; omega)
    rw [List.take_append_drop, h] at this
    cases this
end Go.Proofs.YtidglmocekghmaaDoor.Pr
end
section
namespace Go.Proofs.YtidglmocekghmaaDoor.Pr
open Go.RowKit Go.Proofs.YtidglmocekghmaaDoorW.PrintWords Go.Proofs.YtidglmocekghmaaDoorW.PrintLast Go.Proofs.YtidglmocekghmaaDoorW.PrintMore
set_option linter.unusedVariables false
set_option linter.unusedSimpArgs false
theorem w64 {x : Int} (h0 : -9223372036854775808 ≤ x) (h1 : x ≤ 9223372036854775807) : wrap64 x = x := IntWalk.wrap64_in _ ⟨h0, h1⟩
theorem rdL_at (l : List (List Int)) (j : Nat) (h : j < l.length) : rd_L1 l (j : Int) = l[j] := by
  unfold rd_L1; simp [List.getD_eq_getElem?_getD, List.getElem?_eq_getElem h]
theorem ev_if {α : Type} {c : Prop} [Decidable c] {f g : Nat → Option α} {r : α} (h1 : c → Ev f r) (h2 : ¬ c → Ev g r) : Ev (fun k => if c then f k else g k) r := by
  by_cases h : c
  · exact (h1 h).congr fun k => by rw [if_pos h]
  · exact (h2 h).congr fun k => by rw [if_neg h]
def fewB (l : List (List Int)) : Bool := (l.all fun x => decide (x.length ≤ 300)) && decide (l.length ≤ 20)
theorem segs_few_ev (l : List (List Int)) (hl : l.length ≤ 4611686018427387904) : Ev (fun k => capnpref04_Few.f k l) (fewB l) := by
  have loop : ∀ d j : Nat, l.length - j = d → j ≤ l.length → (l.take j).all (fun x => decide (x.length ≤ 300)) = true → Ev (fun k => capnpref04_Few.l0 k l (j : Int)) (fewB l) := by
    intro d
    induction d with
    | zero =>
      intro j hd hj ha
      refine Ev.step (f := fun _ => some (fewB l)) (fun k => ?_) (Ev.now _)
      simp only [capnpref04_Few.l0]
      rw [if_neg (by omega)]
      rw [List.take_of_length_le (by omega)] at ha
      unfold fewB
      rw [ha, Bool.true_and]
      congr 1
      exact decide_eq_decide.2 (by omega)
    | succ d ihd =>
      intro j hd hj ha
      have hlt : j < l.length := by omega
      by_cases h3 : l[j].length ≤ 300
      · refine Ev.step (f := fun k => capnpref04_Few.l0 k l (wrap64 ((j : Int) + 1))) (fun k => ?_) ?_
        · simp only [capnpref04_Few.l0]
          rw [if_pos (by omega), if_pos (by omega), rdL_at _ _ hlt, if_neg (by omega)]
        · rw [w64 (by omega) (by omega)]
          have := ihd (j + 1) (by omega) (by omega) (by rw [List.take_succ_eq_append_getElem hlt, List.all_append, ha]; simp [h3])
          exact this
      · refine Ev.step (f := fun _ => some (fewB l)) (fun k => ?_) (Ev.now _)
        simp only [capnpref04_Few.l0]
        rw [if_pos (by omega), if_pos (by omega), rdL_at _ _ hlt, if_pos (by omega)]
        have : (l.all fun x => decide (x.length ≤ 300)) = false := by
          rw [Bool.eq_false_iff]
          intro h
          have := List.all_eq_true.1 h l[j] (List.getElem_mem hlt)
          exact h3 (of_decide_eq_true this)
        unfold fewB
        rw [this]; rfl
  exact loop l.length 0 (by omega) (by omega) (by simp)
def smallB (l : List (List Int)) (d w : Int) : Bool := decide (d ≤ 40) && (decide (w ≤ 2000) && fewB l)
theorem small_ev (l : List (List Int)) (d w o : Int) (hl : l.length ≤ 4611686018427387904) : Ev (fun k => capnpref12_Small.f k l d w o) (smallB l d w) := by
  unfold capnpref12_Small.f smallB
  by_cases h1 : d ≤ 40
  · by_cases h2 : w ≤ 2000
    · rw [decide_eq_true h1, decide_eq_true h2, Bool.true_and, Bool.true_and]
      refine Ev.congr (f := fun k => (capnpref04_Few.f k l).bind fun t => some t) (fun k => by rw [if_pos h1, if_pos h2]) ?_
      exact Ev.bind (segs_few_ev l hl) (Ev.now _)
    · rw [decide_eq_false h2, Bool.false_and, Bool.and_false]
      exact (Ev.now false).congr (fun k => by rw [if_pos h1, if_neg h2])
  · rw [decide_eq_false h1, Bool.false_and]
    exact (Ev.now false).congr (fun k => by rw [if_neg h1])
theorem smallB_one {l : List Int} {d w : Int} (h : smallB [l] d w = true) : d ≤ 40 ∧ w ≤ 2000 ∧ l.length ≤ 300 := by
  unfold smallB fewB at h
  simp at h
  exact ⟨h.1, h.2.1, h.2.2⟩
theorem words_ev (l : List Int) (d w o : Int) (h : okW l = true) (hd : d ≤ 40) (hw : w ≤ 2000) (r : Bool) (hr : wordsM l d w = r) : Ev (fun k => canoncheck_Words.f k l d w o) r := by
  unfold canoncheck_Words.f
  rw [if_pos h, if_pos (by omega), if_pos (by omega), hr]
  exact Ev.now _
theorem okW_of {l : List Int} (h : ∀ x ∈ l, 0 ≤ x ∧ x < 18446744073709551616) (hl : l.length ≤ 17592186040320) : okW l = true := by
  unfold okW
  rw [Bool.and_eq_true]
  exact ⟨List.all_eq_true.2 fun x hx => by simpa using h x hx, Nat.ble_eq_true_of_le hl⟩
theorem ends_true (l : List Int) (d w o cut x : Int) (hok : ∀ y ∈ l, 0 ≤ y ∧ y < 18446744073709551616) (hc0 : 0 ≤ cut) (hc1 : cut ≤ 255) (hx0 : 0 ≤ x) (hx1 : x < 18446744073709551616) :
    Ev (fun k => capnplaw16_CanoncheckEnds.f k l d w o cut x) true := by
  have early : Ev (fun k => capnplaw16_CanoncheckEnds.j0 k l cut x true d w o) true :=
    Ev.step (f := fun _ => some true) (fun k => by simp only [capnplaw16_CanoncheckEnds.j0]; rfl) (Ev.now _)
  refine Ev.congr (f := fun k => (capnpref12_Small.f k [l] d w o).bind fun t564 => (if t564 = true then ((canoncheck_Words.f k l d w o).bind fun t565 => (capnplaw16_CanoncheckEnds.j0 k l cut x (!t565) d w o)) else (capnplaw16_CanoncheckEnds.j0 k l cut x true d w o))) (fun k => rfl) ?_
  refine Ev.bind (small_ev [l] d w o (by simp)) (ev_if (fun hs => ?_) (fun _ => early))
  obtain ⟨hd, hw, hl3⟩ := smallB_one hs
  refine Ev.bind (words_ev l d w o (okW_of hok (Nat.le_trans hl3 (by decide))) hd hw _ rfl) ?_
  cases hv : wordsM l d w with
  | false => exact early
  | true =>
    have hlp : 0 < l.length := by
      unfold wordsM at hv
      rw [Bool.and_eq_true] at hv
      exact of_decide_eq_true hv.1
    have hm : Int.tmod (wrap64 cut) (l.length : Int) = cut % (l.length : Int) := by
      rw [w64 (by omega) (by omega), Int.tmod_eq_emod_of_nonneg hc0]
    have hm0 : 0 ≤ cut % (l.length : Int) := Int.emod_nonneg _ (by omega)
    have hm1 : cut % (l.length : Int) < (l.length : Int) := Int.emod_lt_of_pos _ (by omega)
    have c1 : wordsM (l.take (cut % (l.length : Int)).toNat) d w = false := wordsM_take hv (by omega)
    have c2 : wordsM (l ++ [x]) d w = false := wordsM_append hv (by simp)
    have ok1 : okW (l.take (cut % (l.length : Int)).toNat) = true := okW_of (fun y hy => hok y (List.mem_of_mem_take hy)) (by simp; omega)
    have ok2 : okW (l ++ [x]) = true := okW_of (fun y hy => by
      rcases List.mem_append.1 hy with h | h
      · exact hok y h
      · rw [List.mem_singleton.1 h]; exact ⟨hx0, hx1⟩) (by simp; omega)
    refine Ev.step (f := fun k => (canoncheck_Words.f k (l.take (cut % (l.length : Int)).toNat) d w o).bind fun t572 => (if t572 = true then (none) else ((canoncheck_Words.f k (l ++ [x]) d w o).bind fun t585 => (some (!t585))))) (fun k => ?_) ?_
    · simp only [capnplaw16_CanoncheckEnds.j0, hm]
      rw [if_neg (by simp), if_neg (by omega), if_pos hm0, if_pos (by omega)]
      simp only [Option.bind_some, List.nil_append, List.length_nil, List.length_cons]
      rw [if_pos (by omega), if_pos (by omega)]
    · refine Ev.bind (words_ev _ d w o ok1 hd hw _ c1) ?_
      refine Ev.congr (f := fun k => (canoncheck_Words.f k (l ++ [x]) d w o).bind fun t585 => (some (!t585))) (fun k => by rw [if_neg (by simp)]) ?_
      exact Ev.bind (words_ev _ d w o ok2 hd hw _ c2) (Ev.now _)
end Go.Proofs.YtidglmocekghmaaDoor.Pr
end
section
namespace Go.Proofs.YtidglmocekghmaaDoor.canoncheckEnds
open Go.ChangeShapes Go.WideShapes Go.ChangeAt Go.RowKit Go.Joins
set_option linter.unusedVariables false
set_option linter.unusedSimpArgs false
theorem own : ownKnob Tryd.prog.godebug = none := by kernel_rfl
theorem laidOut : laidOutB Tryd.prog = true := by kernel_rfl
set_option maxRecDepth 100000 in
theorem contract (H : Type) (enc : TypeId × Value → H) (W : World) (base : Nat) (args : Array Value) (ds gs : List (DataW H)) (before : List MemPlace)
    (hval0 : ∀ (j : Nat) t v, Tryd.f7.params[j]? = some t → args[j]? = some v → Value.okWide Tryd.prog W .any base t v)
    (hW : DataW.Whole enc Tryd.prog Tryd.f7.params.toList Rows.canoncheckEndsSpec.vars false W args.toList ds gs before) (hL0 : laidMetH Tryd.prog Rows.canoncheckEndsRow.laid W) :
    Calls Tryd.prog 7 args W fun e W' => ∃ v, e = .returned v ∧ Rows.canoncheckEndsSpec.post enc Tryd.prog Tryd.f7 false true false false W args v W' := by
  have hL : laidMetH Tryd.prog TabD.laidL W := hL0
  have hval : ∀ (j : Nat) t v, Tryd.f7.params[j]? = some t → args[j]? = some v → Value.okWide Tryd.prog W .any base t v := hval0
  have hW' := hW
  obtain ⟨p, q, hA0, hV, rfl, hfz, hnd⟩ := hW
  have hA : DataW.TrodAll enc Tryd.prog W 0 (fun _ => true) true Tryd.f7.params.toList args.toList ds p := hA0
  rw [Tryd.params7] at hA hval
  obtain ⟨v0, vs0, d0, ds0, p0, q0, hargs, rfl, rfl, h0, r0⟩ := trodAll_cons hA
  obtain ⟨v1, vs1, d1, ds1, p1, q1, rfl, rfl, rfl, h1, r1⟩ := trodAll_cons r0
  obtain ⟨v2, vs2, d2, ds2, p2, q2, rfl, rfl, rfl, h2, r2⟩ := trodAll_cons r1
  obtain ⟨v3, vs3, d3, ds3, p3, q3, rfl, rfl, rfl, h3, r3⟩ := trodAll_cons r2
  obtain ⟨rfl, rfl, rfl⟩ := trodAll_nil r3
  obtain rfl : args = #[v0, v1, v2, v3] := by cases args; simp_all
  obtain ⟨rfl, rfl⟩ := trodVars_none hV
  have k0 := h0
  have lt0 : ∀ x ∈ p0, x.block < W.heap.size := by obtain ⟨m, hm⟩ := k0; exact DataW.trod_lt m _ _ _ hm
  obtain ⟨x0, y0, z0, rfl⟩ := okWide_slice Tryd.underlying22 (hval 0 22 v0 rfl rfl)
  obtain ⟨fuel0, hf0⟩ := h0
  obtain ⟨A0, c0, a0, e0, l0, g0, ok0⟩ := TabD.words_in hf0
  have e0' : [Value.slice x0 y0 z0] = [Value.slice A0 a0.length c0] := e0
  simp only [List.cons.injEq, Value.slice.injEq, and_true] at e0'
  obtain ⟨rfl, rfl, rfl⟩ := e0'
  clear e0 hf0
  have k1 := h1
  have lt1 : ∀ x ∈ p1, x.block < W.heap.size := by obtain ⟨m, hm⟩ := k1; exact DataW.trod_lt m _ _ _ hm
  obtain ⟨a1_0, a1_1, a1_2, rfl, w1_0, w1_1, w1_2⟩ : ∃ x0 x1 x2 : Int, v1 = .agg #[.int .i64 x0, .int .i64 x1, .int .i64 x2] ∧ (Lit.int .i64 x0).wf = true ∧ (Lit.int .i64 x1).wf = true ∧ (Lit.int .i64 x2).wf = true := by
    obtain ⟨c0, c1, c2, y0, y1, y2, m, rfl, _, _, e0, e1, e2⟩ := open_agg3 Tryd.underlying24 (by kernel_rfl) (by kernel_rfl) (hval 1 24 v1 rfl rfl) h1
    obtain ⟨x0, g0, _, z0⟩ := DataW.trod_int Tryd.underlying3 e0
    simp at g0
    subst g0
    obtain ⟨x1, g1, _, z1⟩ := DataW.trod_int Tryd.underlying3 e1
    simp at g1
    subst g1
    obtain ⟨x2, g2, _, z2⟩ := DataW.trod_int Tryd.underlying3 e2
    simp at g2
    subst g2
    exact ⟨x0, x1, x2, rfl, z0, z1, z2⟩
  have k2 := h2
  have lt2 : ∀ x ∈ p2, x.block < W.heap.size := by obtain ⟨m, hm⟩ := k2; exact DataW.trod_lt m _ _ _ hm
  obtain ⟨a2, rfl, _, _, w2⟩ := open_int Tryd.underlying5 (hval 2 5 v2 rfl rfl) h2
  have k3 := h3
  have lt3 : ∀ x ∈ p3, x.block < W.heap.size := by obtain ⟨m, hm⟩ := k3; exact DataW.trod_lt m _ _ _ hm
  obtain ⟨a3, rfl, _, _, w3⟩ := open_int Tryd.underlying32 (hval 3 32 v3 rfl rfl) h3
  clear hA0 hval0 hL0
  refine (let ⟨k, hk⟩ := (Pr.ends_true a0 a1_0 a1_1 a1_2 a2 a3 ok0 (TabD.u8_range w2).1 (TabD.u8_range w2).2 (TabD.word_range w3).1 (TabD.word_range w3).2).rounds; Pr.capnplaw16_CanoncheckEnds.calls k (fun _ => True) x0 z0 a0 a1_0 a1_1 a1_2 a2 a3 true W (TabD.tabs hL) (Pr.V_ints g0 l0) hk).mono fun e W' ⟨he, bel⟩ => ?_
  subst he
  exact ⟨_, rfl, _, _, _, [], _, [], hW', trodAll_mk1 (shut_bool Tryd.underlying4 _), (trodAll_cons_mk (Below.trod laidOut (by kernel_rfl) (of_decide_eq_true (by kernel_rfl)) k0 bel lt0) (trodAll_cons_mk (Below.trod laidOut (by kernel_rfl) (of_decide_eq_true (by kernel_rfl)) k1 bel lt1) (trodAll_cons_mk (Below.trod laidOut (by kernel_rfl) (of_decide_eq_true (by kernel_rfl)) k2 bel lt2) (trodAll_cons_mk (Below.trod laidOut (by kernel_rfl) (of_decide_eq_true (by kernel_rfl)) k3 bel lt3) trodAll_mk0)))), rfl, bel.frame _, fun h => by cases h⟩
theorem laid_met (os : Os) : laidMetH Tryd.prog Rows.canoncheckEndsRow.laid ((World.doorLaid Tryd.prog 600 os).forCall (fun _ _ => 0) ⟨#[], #[.slice none 0 0, .agg #[.int .i64 0, .int .i64 0, .int .i64 0], .int .u8 0, .int .u64 0], []⟩).memory :=
  laidMetH_of_parts3 (fuel := 8) (laidMet_of_run' 8 (by kernel_rfl) (by kernel_rfl)) (by kernel_rfl) (by kernel_rfl)
theorem reads (os : Os) {H : Type} (enc : TypeId × Value → H) : ∃ places, DataW.whole enc Tryd.prog ((World.doorLaid Tryd.prog 600 os).forCall (fun _ _ => 0) ⟨#[], #[.slice none 0 0, .agg #[.int .i64 0, .int .i64 0, .int .i64 0], .int .u8 0, .int .u64 0], []⟩).memory Tryd.f7.params.toList Rows.canoncheckEndsSpec.vars false (#[.slice none 0 0, .agg #[.int .i64 0, .int .i64 0, .int .i64 0], .int .u8 0, .int .u64 0] : Array Value).toList 10 = some ([.nil, .agg [.lit (.int .i64 0), .lit (.int .i64 0), .lit (.int .i64 0)], .lit (.int .u8 0), .lit (.int .u64 0)], [], places) :=
  ⟨[], by kernel_rfl⟩
set_option maxRecDepth 100000 in
theorem lifted (os : Os) (started : os.Started) (H : Type) (enc : TypeId × Value → H) (F : Stop.Interp) :
    ReturnsInHanded {} Tryd.checked os 7 .any ((OpenSpec.ofChange Rows.canoncheckEndsSpec).preRow enc Tryd.prog Tryd.f7 Rows.canoncheckEndsRow.domain false Rows.canoncheckEndsRow.laid) (((OpenSpec.ofChange Rows.canoncheckEndsSpec).at F).post enc Tryd.prog Tryd.f7 false true false false) := by
  obtain ⟨places, hx⟩ := reads os enc
  refine returnsInHanded_of_row (C := Tryd.checked) (s := (OpenSpec.ofChange Rows.canoncheckEndsSpec)) own started (by kernel_rfl) Tryd.func7
    (witness_row_at (enc := enc) (C := Tryd.checked) false (World.doorLaid Tryd.prog 600 os) #[.slice none 0 0, .agg #[.int .i64 0, .int .i64 0, .int .i64 0], .int .u8 0, .int .u64 0] rfl (by kernel_rfl) (by kernel_rfl) (by kernel_rfl)
      (OpenSpec.preRow_of_cond 10 hx (by kernel_rfl) (fun k hk => by cases hk) (by kernel_rfl) (laid_met os))) ?_
  intro W base args ds gs before hval hW _ _ _ hL _ _
  exact contract H enc W base args ds gs before hval hW hL
theorem said : Rows.CanoncheckEndsSaid :=
  OpenClaim.holds_of_cond 7 Tryd.f7 rfl rfl rfl rfl rfl rfl rfl ⟨rfl, rfl, rfl, rfl, rfl⟩ rfl rfl rfl rfl rfl (by kernel_rfl) Tryd.func7 (by kernel_rfl)
    (of_decide_eq_true (by kernel_rfl)) (by unfold Func.isWrapper; first | (rw [if_pos (by decide +kernel)]; kernel_rfl) | (rw [if_neg (by decide +kernel)]; exact ⟨rfl, rfl⟩))
    (fun os started H enc _ F => by rw [OpenClaim.pre_eq_preRow]; exact lifted os started H enc F)
theorem plain (f : FuncId) (fn : Func) (hf : Tryd.pinned.checked.prog.funcNamed "capnp/capnplaw16.CanoncheckEnds" = some f) (hfn : Tryd.pinned.checked.prog.funcs[f]? = some fn) :
    true = Tryd.pinned.checked.prog.looks [] ∧ ∀ (j : Nat) t, fn.params[j]? = some t → Tryd.pinned.checked.prog.wantsStandIn t = false := by
  obtain rfl : f = 7 := Option.some.inj ((show Tryd.prog.funcNamed "capnp/capnplaw16.CanoncheckEnds" = some 7 by kernel_rfl).symm.trans hf) |>.symm
  obtain rfl : fn = Tryd.f7 := (Option.some.inj (Tryd.func7.symm.trans hfn)).symm
  refine ⟨by kernel_rfl, fun j t ht => ?_⟩
  rw [Tryd.params7] at ht
  have hm : t = 22 ∨ t = 24 ∨ t = 5 ∨ t = 32 := by have := Array.mem_of_getElem? ht; simp at this; omega
  rcases hm with rfl | rfl | rfl | rfl
  · exact (show Tryd.prog.wantsStandIn 22 = false by kernel_rfl)
  · exact (show Tryd.prog.wantsStandIn 24 = false by kernel_rfl)
  · exact (show Tryd.prog.wantsStandIn 5 = false by kernel_rfl)
  · exact (show Tryd.prog.wantsStandIn 32 = false by kernel_rfl)
theorem card : Rows.CanoncheckEndsCardSaid :=
  Claim7.holds_tied_plain_at .later [] _ _ _ _ said (fun _ h => by cases h) (by kernel_rfl) (fun _ h => by cases h) canoncheckEnds_row_tie rfl ⟨rfl, rfl⟩ (by kernel_rfl) rfl plain (by kernel_rfl)
#print axioms card
end Go.Proofs.YtidglmocekghmaaDoor.canoncheckEnds
namespace Go.Proofs.YtidglmocekghmaaDoor
theorem canoncheckEnds_holds : Rows.CanoncheckEndsCardSaid := canoncheckEnds.card
end Go.Proofs.YtidglmocekghmaaDoor
end
