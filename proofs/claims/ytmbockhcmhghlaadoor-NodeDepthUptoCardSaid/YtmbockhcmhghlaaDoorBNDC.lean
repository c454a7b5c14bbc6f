/- For every two nodes of bulk at most 1048576 together, the depth is at most the number of objects, both are 0 exactly for null, and a struct, a list of pointers and a composite list of the two have the sum of their objects plus one and the larger depth plus one: the law answers true and leaves its arguments as they were. -/
import Derived.Test.YtmbockhcmhghlaaDoorBNDB
import Derived.Below
import Derived.Deep.Draws
import Derived.Deep.AppendLies
import Derived.Maps.AppendAt
import Derived.OwnWalk
import Derived.Laws.BytesArg
import Derived.Laws.MakeOwn
import Derived.Laws.OwnMore
import Derived.Deep.OwnRows
import Derived.Tactics
import Derived.Lib.ConvBytes
import Derived.Laws.Slices
import Derived.WalkKit
import Derived.KernelRfl
import Derived.RowKit3
import Derived.Deep.LoopGhost
import Derived.Deep.QuietTactic
import Derived.BigQuiet
import Derived.WideLaws
import Derived.Deep.DeepCutAuto
import Derived.Deep.CutBlock
import Derived.Deep.RegionHeld3
import Derived.Laws.Rows
import Derived.Lib.AppendStr
import Derived.ArgAppend
import Derived.Laws.IdiomCopy
import Derived.RowKit
import Derived.OrdersHeld
import Derived.Laws.BitsLemmas
import Derived.Laws.StructEq
import Derived.SizedLaws
import Derived.ChangeSlices
import Derived.Test.YtmbockhcmhghlaaDoorProg
import Derived.Laws.AppendOwn
import Derived.WalkSpells
import Derived.Lib.Hide
import Derived.RangeFuncBox
import Derived.IntWalk
import Derived.OpenShut
import Derived.RangeFuncNested
import Derived.RangeFuncBound
import Derived.RangeFuncCalls
import Derived.RangeFuncLeaves
import Derived.Shelf.Abstract
import Derived.Shelf.RegionOpen
import Derived.OwnWalkIn
import Derived.TacticsInMore
import Derived.LoopNIn
import Derived.LoopIn
import Derived.Test.YtmbockhcmhghlaaDoorRows
import Derived.ProofKit
import Derived.ChangeOld
import Derived.Lib.SmallJoins
import Derived.DataReads
import Derived.Test.YtmbockhcmhghlaaDoorCards
import Derived.Test.YtmbockhcmhghlaaDoorTie
import Derived.ShutString
import Derived.JoinedCond
import Derived.Deep.DeepHandedRow
import Derived.Lib.LaidTab
section
namespace Go.Proofs.YtmbockhcmhghlaaDoor.Pr
open Go.RowKit Go.Proofs.YtmbockhcmhghlaaDoorW.PrintWords Go.Proofs.YtmbockhcmhghlaaDoorW.PrintLast Go.Proofs.YtmbockhcmhghlaaDoorW.PrintMore
set_option linter.unusedVariables false
set_option linter.unusedSimpArgs false
noncomputable section
open Classical
def node_Valid.f (_ : Nat) (a0 a1 a2 : Int) (l3 : List Int) (l4 : List S25) : Option Bool := if okT ⟨a0, a1, a2, l3, l4⟩ then some (tvalid ⟨a0, a1, a2, l3, l4⟩) else none
def node_Equal.f (_ : Nat) (a0 a1 a2 : Int) (l3 : List Int) (l4 : List S25) (b0 b1 b2 : Int) (m3 : List Int) (m4 : List S25) : Option Bool := if okT ⟨a0, a1, a2, l3, l4⟩ ∧ okT ⟨b0, b1, b2, m3, m4⟩ then some (eqT ⟨a0, a1, a2, l3, l4⟩ ⟨b0, b1, b2, m3, m4⟩) else none
def node_Depth.f (_ : Nat) (a0 a1 a2 : Int) (l3 : List Int) (l4 : List S25) : Option Int := if tvalid ⟨a0, a1, a2, l3, l4⟩ = true ∧ tsize ⟨a0, a1, a2, l3, l4⟩ ≤ 4611686018427387904 then some (tdepth ⟨a0, a1, a2, l3, l4⟩ : Int) else none
def node_Objects.f (_ : Nat) (a0 a1 a2 : Int) (l3 : List Int) (l4 : List S25) : Option Int := if tvalid ⟨a0, a1, a2, l3, l4⟩ = true ∧ tsize ⟨a0, a1, a2, l3, l4⟩ ≤ 4611686018427387904 then some (tobjs ⟨a0, a1, a2, l3, l4⟩ : Int) else none
theorem node_Valid.calls (k : Nat) (a0 a1 a2 : Int) (A3 : Option Addr) (c3 : Nat) (l3 : List Int) (A4 : Option Addr) (c4 : Nat) (l4 : List S25) (r : Bool) (w : World) (h3 : Kd.C (Kd.int .u8) w A3 l3.length l3) (g3 : l3.length ≤ c3) (h4 : Kd.C k25 w A4 l4.length l4) (g4 : l4.length ≤ c4)
    (h : node_Valid.f k a0 a1 a2 l3 l4 = some r) (ht : Ls.Tab w) :
    Calls Tryd.prog 10 #[.agg #[.int .i64 a0, .int .i64 a1, .int .i64 a2, .slice A3 l3.length c3, .slice A4 l4.length c4]] w fun e w' => e = .returned (.bool r) ∧ Below w.heap.size w w' := by
  unfold node_Valid.f at h
  split at h
  · rename_i hok
    cases h
    exact (valid_both _ ⟨a0, a1, a2, l3, l4⟩ (Nat.le_refl _) hok).1 A3 c3 A4 c4 w h3 g3 h4 g4 ht
  · cases h
theorem node_Equal.calls (k : Nat) (a0 a1 a2 : Int) (A3 : Option Addr) (c3 : Nat) (l3 : List Int) (A4 : Option Addr) (c4 : Nat) (l4 : List S25) (b0 b1 b2 : Int) (B3 : Option Addr) (d3 : Nat) (m3 : List Int) (B4 : Option Addr) (d4 : Nat) (m4 : List S25) (r : Bool) (w : World)
    (h3 : Kd.C (Kd.int .u8) w A3 l3.length l3) (g3 : l3.length ≤ c3) (h4 : Kd.C k25 w A4 l4.length l4) (g4 : l4.length ≤ c4) (k3 : Kd.C (Kd.int .u8) w B3 m3.length m3) (f3 : m3.length ≤ d3) (k4 : Kd.C k25 w B4 m4.length m4) (f4 : m4.length ≤ d4)
    (h : node_Equal.f k a0 a1 a2 l3 l4 b0 b1 b2 m3 m4 = some r) :
    Calls Tryd.prog 12 #[.agg #[.int .i64 a0, .int .i64 a1, .int .i64 a2, .slice A3 l3.length c3, .slice A4 l4.length c4], .agg #[.int .i64 b0, .int .i64 b1, .int .i64 b2, .slice B3 m3.length d3, .slice B4 m4.length d4]] w fun e w' => e = .returned (.bool r) ∧ Below w.heap.size w w' := by
  unfold node_Equal.f at h
  split at h
  · rename_i hok
    cases h
    exact nequal_all ⟨a0, a1, a2, l3, l4⟩ ⟨b0, b1, b2, m3, m4⟩ hok.1 hok.2 A3 c3 A4 c4 B3 d3 B4 d4 w h3 g3 h4 g4 k3 f3 k4 f4
  · cases h
theorem node_Depth.calls (k : Nat) (a0 a1 a2 : Int) (A3 : Option Addr) (c3 : Nat) (l3 : List Int) (A4 : Option Addr) (c4 : Nat) (l4 : List S25) (r : Int) (w : World) (h3 : Kd.C (Kd.int .u8) w A3 l3.length l3) (g3 : l3.length ≤ c3) (h4 : Kd.C k25 w A4 l4.length l4) (g4 : l4.length ≤ c4)
    (h : node_Depth.f k a0 a1 a2 l3 l4 = some r) :
    Calls Tryd.prog 14 #[.agg #[.int .i64 a0, .int .i64 a1, .int .i64 a2, .slice A3 l3.length c3, .slice A4 l4.length c4]] w fun e w' => e = .returned (.int .i64 r) ∧ Below w.heap.size w w' := by
  unfold node_Depth.f at h
  split at h
  · rename_i hok
    cases h
    exact depth_all _ ⟨a0, a1, a2, l3, l4⟩ (Nat.le_refl _) hok.1 hok.2 A3 c3 A4 c4 w h3 g3 h4 g4
  · cases h
theorem node_Objects.calls (k : Nat) (a0 a1 a2 : Int) (A3 : Option Addr) (c3 : Nat) (l3 : List Int) (A4 : Option Addr) (c4 : Nat) (l4 : List S25) (r : Int) (w : World) (h3 : Kd.C (Kd.int .u8) w A3 l3.length l3) (g3 : l3.length ≤ c3) (h4 : Kd.C k25 w A4 l4.length l4) (g4 : l4.length ≤ c4)
    (h : node_Objects.f k a0 a1 a2 l3 l4 = some r) :
    Calls Tryd.prog 16 #[.agg #[.int .i64 a0, .int .i64 a1, .int .i64 a2, .slice A3 l3.length c3, .slice A4 l4.length c4]] w fun e w' => e = .returned (.int .i64 r) ∧ Below w.heap.size w w' := by
  unfold node_Objects.f at h
  split at h
  · rename_i hok
    cases h
    exact objs_all _ ⟨a0, a1, a2, l3, l4⟩ (Nat.le_refl _) hok.1 hok.2 A3 c3 A4 c4 w h3 g3 h4 g4
  · cases h
end
end Go.Proofs.YtmbockhcmhghlaaDoor.Pr
end
section
namespace Go.Proofs.YtmbockhcmhghlaaDoor.Pr
open Go.RowKit Go.Proofs.YtmbockhcmhghlaaDoorW.PrintWords Go.Proofs.YtmbockhcmhghlaaDoorW.PrintLast Go.Proofs.YtmbockhcmhghlaaDoorW.PrintMore
set_option linter.unusedVariables false
set_option linter.unusedSimpArgs false
def capnplaw10_awake.f : Option Bool := some true
abbrev exZ : S25 := ⟨0, 0, 0, [], []⟩
abbrev exN : S25 := ⟨1, 0, 0, [], []⟩
abbrev exS : S25 := ⟨1, 0, 0, [], [z25]⟩
abbrev exE : S25 := ⟨1, 0, 0, [0, 0, 0, 0, 0, 0, 0, 0], [exS]⟩
abbrev exL : S25 := ⟨2, 7, 2, [], [exN, exE]⟩
abbrev exB : S25 := ⟨2, 1, 3, [7], []⟩
abbrev exD : S25 := ⟨2, 1, 3, [8], []⟩
abbrev exO : S25 := ⟨2, 7, 2, [], [exN, exZ]⟩
theorem ok_leaf (a0 a1 a2 : Int) (l3 : List Int) (h : ∀ x ∈ l3, 0 ≤ x ∧ x ≤ 255) : okT ⟨a0, a1, a2, l3, []⟩ := AllT.mk h (fun _ hx => by cases hx)
theorem ok_z : okT z25 := ok_leaf 0 0 0 [] (by decide)
theorem ok_s : okT exS := AllT.mk (by decide) (fun x hx => by rw [List.mem_singleton.1 hx]; exact ok_z)
theorem ok_e : okT exE := AllT.mk (by decide) (fun x hx => by rw [List.mem_singleton.1 hx]; exact ok_s)
theorem ok_n : okT exN := ok_leaf 1 0 0 [] (by decide)
theorem ok_two {a0 a1 a2 : Int} {x y : S25} (hx : okT x) (hy : okT y) : okT ⟨a0, a1, a2, [], [x, y]⟩ := AllT.mk (fun z hz => by cases hz) (fun z hz => by
  rcases List.mem_cons.1 hz with rfl | hz
  · exact hx
  · rw [List.mem_singleton.1 hz]; exact hy)
theorem ok_l : okT exL := ok_two ok_n ok_e
theorem ok_o : okT exO := ok_two ok_n ok_z
theorem ok_b : okT exB := ok_leaf 2 1 3 [7] (by decide)
theorem ok_d : okT exD := ok_leaf 2 1 3 [8] (by decide)
theorem val_f {k : Nat} {a0 a1 a2 : Int} {l3 : List Int} {l4 : List S25} (b : Bool) (ho : okT ⟨a0, a1, a2, l3, l4⟩) (hb : tvalid ⟨a0, a1, a2, l3, l4⟩ = b) : node_Valid.f k a0 a1 a2 l3 l4 = some b := by unfold node_Valid.f; rw [if_pos ho, hb]
theorem dep_f {k : Nat} {a0 a1 a2 : Int} {l3 : List Int} {l4 : List S25} (r : Int) (hv : tvalid ⟨a0, a1, a2, l3, l4⟩ = true) (hs : Nat.ble (tsize ⟨a0, a1, a2, l3, l4⟩) 4611686018427387904 = true) (hr : (tdepth ⟨a0, a1, a2, l3, l4⟩ : Int) = r) : node_Depth.f k a0 a1 a2 l3 l4 = some r := by unfold node_Depth.f; rw [if_pos ⟨hv, Nat.le_of_ble_eq_true hs⟩, hr]
theorem obj_f {k : Nat} {a0 a1 a2 : Int} {l3 : List Int} {l4 : List S25} (r : Int) (hv : tvalid ⟨a0, a1, a2, l3, l4⟩ = true) (hs : Nat.ble (tsize ⟨a0, a1, a2, l3, l4⟩) 4611686018427387904 = true) (hr : (tobjs ⟨a0, a1, a2, l3, l4⟩ : Int) = r) : node_Objects.f k a0 a1 a2 l3 l4 = some r := by unfold node_Objects.f; rw [if_pos ⟨hv, Nat.le_of_ble_eq_true hs⟩, hr]
theorem equ_f {k : Nat} {a0 a1 a2 : Int} {l3 : List Int} {l4 : List S25} {b0 b1 b2 : Int} {m3 : List Int} {m4 : List S25} (r : Bool) (ho : okT ⟨a0, a1, a2, l3, l4⟩) (hp : okT ⟨b0, b1, b2, m3, m4⟩) (hr : eqT ⟨a0, a1, a2, l3, l4⟩ ⟨b0, b1, b2, m3, m4⟩ = r) : node_Equal.f k a0 a1 a2 l3 l4 b0 b1 b2 m3 m4 = some r := by unfold node_Equal.f; rw [if_pos ⟨ho, hp⟩, hr]
theorem fx1 : node_Valid.f 0 0 0 0 [] [] = some true := val_f _ ok_z (by kernel_rfl)
theorem fx2 : node_Valid.f 0 1 0 0 [] [z25] = some true := val_f _ ok_s (by kernel_rfl)
theorem fx3 : node_Valid.f 0 2 7 2 [] [exN, exE] = some true := val_f _ ok_l (by kernel_rfl)
theorem fx4 : node_Valid.f 0 2 1 3 [7] [] = some true := val_f _ ok_b (by kernel_rfl)
theorem fx5 : node_Valid.f 0 2 1 3 [8] [] = some false := val_f _ ok_d (by kernel_rfl)
theorem fx6 : node_Valid.f 0 2 7 2 [] [exN, exZ] = some false := val_f _ ok_o (by kernel_rfl)
theorem fx7 : node_Valid.f 0 3 0 0 [] [] = some false := val_f _ (ok_leaf 3 0 0 [] (by decide)) (by kernel_rfl)
theorem fx8 : node_Valid.f 0 1 0 0 [0, 0, 0, 0] [] = some false := val_f _ (ok_leaf 1 0 0 [0, 0, 0, 0] (by decide)) (by kernel_rfl)
theorem fx9 : node_Depth.f 0 1 0 0 [] [z25] = some 1 := dep_f _ (by kernel_rfl) (by kernel_rfl) (by kernel_rfl)
theorem fx10 : node_Objects.f 0 1 0 0 [] [z25] = some 1 := obj_f _ (by kernel_rfl) (by kernel_rfl) (by kernel_rfl)
theorem fx11 : node_Depth.f 0 2 7 2 [] [exN, exE] = some 2 := dep_f _ (by kernel_rfl) (by kernel_rfl) (by kernel_rfl)
theorem fx12 : node_Objects.f 0 2 7 2 [] [exN, exE] = some 2 := obj_f _ (by kernel_rfl) (by kernel_rfl) (by kernel_rfl)
theorem fx13 : node_Depth.f 0 0 0 0 [] [] = some 0 := dep_f _ (by kernel_rfl) (by kernel_rfl) (by kernel_rfl)
theorem fx14 : node_Equal.f 0 2 7 2 [] [exN, exE] 2 7 2 [] [exN, exE] = some true := equ_f _ ok_l ok_l (eqT_true rfl)
theorem fx15 : node_Equal.f 0 2 7 2 [] [exN, exE] 2 1 3 [7] [] = some false := equ_f _ ok_l ok_b (eqT_false fun h => absurd (congrArg S25.f1 h) (by decide))
theorem fx16 : node_Equal.f 0 2 1 3 [7] [] 2 1 3 [8] [] = some false := equ_f _ ok_b ok_d (eqT_false fun h => absurd (congrArg S25.f3 h) (by decide))
theorem at_world {α : Type} {K : α → World → Prop} {a : α} {w : World} (h : ∀ W, W = w → K a W) : K a w := h w rfl
set_option maxRecDepth 100000 in
set_option maxHeartbeats 16000000 in
theorem capnplaw10_awake.calls (r : Bool) (w : World) (h : capnplaw10_awake.f = some r) (ht : Ls.Tab w) : Calls Tryd.prog 8 #[] w fun e w' => e = .returned (.bool r) ∧ Below w.heap.size w w' := by
  obtain rfl : true = r := Option.some.inj h
  clear h
  have mk1 : ∀ W : World, (Instr.makeSlice 23 (.int .i64 1) (.int .i64 1)).run Tryd.prog W = .ok (.slice (some ⟨W.heap.size, 0, none⟩) 1 1) (W.alloc (.cells #[.int .i64 0, .int .i64 0, .int .i64 0, .slice none 0 0, .slice none 0 0] 25)) := fun _ => by kernel_rfl
  have mk2 : ∀ W : World, (Instr.makeSlice 22 (.int .i64 8) (.int .i64 8)).run Tryd.prog W = .ok (.slice (some ⟨W.heap.size, 0, none⟩) 8 8) (W.alloc (.cells #[.int .u8 0, .int .u8 0, .int .u8 0, .int .u8 0, .int .u8 0, .int .u8 0, .int .u8 0, .int .u8 0] 5)) := fun _ => by kernel_rfl
  have mk3 : ∀ W : World, (Instr.makeSlice 22 (.int .i64 4) (.int .i64 4)).run Tryd.prog W = .ok (.slice (some ⟨W.heap.size, 0, none⟩) 4 4) (W.alloc (.cells #[.int .u8 0, .int .u8 0, .int .u8 0, .int .u8 0] 5)) := fun _ => by kernel_rfl
  have HT := Lib.hid ht
  clear ht
  have HB := Lib.hid (Below.refl w.heap.size w)
  go_enter Tryd.func8, Tryd.ntmps8
  go_upto_region 2 with fail
  refine wp_at (fun W1 hW => ?_)
  have hb : Below w.heap.size w W1 := by rw [hW]; repeat (first | exact Below.refl _ _ | refine Below.alloc ?_ (by first | exact Nat.le_refl _ | (simp <;> omega)) _)
  have nB6 : W1.heap[w.heap.size]? = some (.cells #[.int .i64 0, .int .i64 0, .int .i64 0, .slice none 0 0, .slice none 0 0] 25 (0, 0)) := by rw [hW]; repeat (first | exact heap_alloc_new _ _ | exact blk_new _ _ _ (by simp) | refine blk_alloc ?_ _)
  have nBS : W1.heap[w.heap.size + 1]? = some (.cells #[.int .i64 1, .int .i64 0, .int .i64 0, .slice none 0 0, .slice (some ⟨w.heap.size, 0, none⟩) 1 1] 25 (0, 0)) := by rw [hW]; repeat (first | exact heap_alloc_new _ _ | exact blk_new _ _ _ (by simp) | refine blk_alloc ?_ _)
  clear hW
  replace HT := Lib.hid (HT.out.below hb)
  replace HB := Lib.hid (below_step HB.out hb)
  clear hb
  have B6 := Lib.hid nB6
  clear nB6
  have BS := Lib.hid nBS
  clear nBS
  have l_BS : w.heap.size + 1 < W1.heap.size := blk_lt BS.out
  have q_BS_0 : W1.cell? ⟨w.heap.size + 1, 0, none⟩ = some (.int .i64 1) := (blk_cell BS.out 0).trans rfl
  have q_BS_1 : W1.cell? ⟨w.heap.size + 1, 1, none⟩ = some (.int .i64 0) := (blk_cell BS.out 1).trans rfl
  have q_BS_2 : W1.cell? ⟨w.heap.size + 1, 2, none⟩ = some (.int .i64 0) := (blk_cell BS.out 2).trans rfl
  have q_BS_3 : W1.cell? ⟨w.heap.size + 1, 3, none⟩ = some (.slice none 0 0) := (blk_cell BS.out 3).trans rfl
  have q_BS_4 : W1.cell? ⟨w.heap.size + 1, 4, none⟩ = some (.slice (some ⟨w.heap.size, 0, none⟩) 1 1) := (blk_cell BS.out 4).trans rfl
  refine start_ (n := 9) (S := fun w' => w'.cell? ⟨w.heap.size + 1, 0, none⟩ = some (.int .i64 1) ∧ w'.cell? ⟨w.heap.size + 1, 1, none⟩ = some (.int .i64 0) ∧ w'.cell? ⟨w.heap.size + 1, 2, none⟩ = some (.int .i64 0) ∧ w'.cell? ⟨w.heap.size + 1, 3, none⟩ = some (.slice none 0 0) ∧ w'.cell? ⟨w.heap.size + 1, 4, none⟩ = some (.slice (some ⟨w.heap.size, 0, none⟩) 1 1)) (ds := [8]) #[false, false, false, false, false, false, false, false, false] (by kernel_rfl) rfl rfl ⟨q_BS_0, q_BS_1, q_BS_2, q_BS_3, q_BS_4⟩ (fun hHeld => ?_)
  obtain ⟨wd, hwd⟩ : ∃ W, W = W1.drew := ⟨_, rfl⟩
  rw [← hwd] at hHeld ⊢
  have hb1d : Below W1.heap.size W1 wd := by rw [hwd]; exact (Below.refl _ _).drew
  clear hwd
  clear l_BS q_BS_0 q_BS_1 q_BS_2 q_BS_3 q_BS_4
  replace HT := Lib.hid (HT.out.below hb1d)
  replace HB := Lib.hid (below_step HB.out hb1d)
  replace B6 := Lib.hid (blk_below B6.out hb1d)
  replace BS := Lib.hid (blk_below BS.out hb1d)
  clear hb1d
  have l_BSd : w.heap.size + 1 < wd.heap.size := blk_lt BS.out
  have hbR := Below.refl wd.heap.size wd
  have qd_0 : wd.cell? ⟨w.heap.size + 1, 0, none⟩ = some (.int .i64 1) := (blk_cell BS.out 0).trans rfl
  have qd_1 : wd.cell? ⟨w.heap.size + 1, 1, none⟩ = some (.int .i64 0) := (blk_cell BS.out 1).trans rfl
  have qd_2 : wd.cell? ⟨w.heap.size + 1, 2, none⟩ = some (.int .i64 0) := (blk_cell BS.out 2).trans rfl
  have qd_3 : wd.cell? ⟨w.heap.size + 1, 3, none⟩ = some (.slice none 0 0) := (blk_cell BS.out 3).trans rfl
  have qd_4 : wd.cell? ⟨w.heap.size + 1, 4, none⟩ = some (.slice (some ⟨w.heap.size, 0, none⟩) 1 1) := (blk_cell BS.out 4).trans rfl
  refine pure_ (i := 0) (N := some 8) (v := ?_) (a' := ?_) #[true, false, false, false, false, false, false, false, false] rfl rfl (by kernel_rfl) (fun _ _ _ h => h) (Or.inl ⟨by rfl, ?_⟩) ?_ ?_
  rotate_left
  · intro w'
    go_simp
    with_reducible rfl
  rotate_left
  · simp only [Act.put, List.setIfInBounds_toArray, List.set_cons_zero, List.set_cons_succ, i64_w, i32_w]
    rfl
  refine take_ (i := 2) (N := some 10) (v := ?_) (a' := ?_) #[true, false, true, false, false, false, false, false, false] rfl rfl (by kernel_rfl) (fun _ _ _ h => h) (Or.inl ⟨by rfl, ?_⟩) hHeld ?_ ?_
  rotate_left
  · rintro w' ⟨s0, s1, s2, s3, s4⟩
    go_simp
    with_reducible rfl
  rotate_left
  · simp only [Act.put, List.setIfInBounds_toArray, List.set_cons_zero, List.set_cons_succ, i64_w, i32_w]
    rfl
  refine join_ (σ := Nat × Nat × Nat × Nat) 1 #[true, true, true, true, true, true, true, true, false] (fun s_ => [(9, .slice (some ⟨s_.1, 0, none⟩) 8 8), (11, .slice (some ⟨s_.2.1, 0, none⟩) 1 1), (12, .agg #[.int .i64 1, .int .i64 0, .int .i64 0, .slice (some ⟨s_.1, 0, none⟩) 8 8, .slice (some ⟨s_.2.1, 0, none⟩) 1 1]), (13, .slice (some ⟨s_.2.2.1, 0, none⟩) 2 2), (14, .agg #[.int .i64 2, .int .i64 7, .int .i64 2, .slice none 0 0, .slice (some ⟨s_.2.2.1, 0, none⟩) 2 2]), (2, .pointer (some ⟨s_.2.2.2, 0, none⟩))]) (fun s_ w' => (w'.cell? ⟨w.heap.size + 1, 0, none⟩ = some (.int .i64 1) ∧ w'.cell? ⟨w.heap.size + 1, 1, none⟩ = some (.int .i64 0) ∧ w'.cell? ⟨w.heap.size + 1, 2, none⟩ = some (.int .i64 0) ∧ w'.cell? ⟨w.heap.size + 1, 3, none⟩ = some (.slice none 0 0) ∧ w'.cell? ⟨w.heap.size + 1, 4, none⟩ = some (.slice (some ⟨w.heap.size, 0, none⟩) 1 1)) ∧ Below wd.heap.size wd w' ∧ wd.heap.size ≤ s_.2.2.2 ∧ Hid (w'.heap[s_.1]? = some (.cells #[(.int .u8 0), (.int .u8 0), (.int .u8 0), (.int .u8 0), (.int .u8 0), (.int .u8 0), (.int .u8 0), (.int .u8 0)] 5 (0, 0))) ∧ Hid (w'.heap[s_.2.1]? = some (.cells #[.int .i64 1, .int .i64 0, .int .i64 0, .slice none 0 0, .slice (some ⟨w.heap.size, 0, none⟩) 1 1] 25 (0, 0))) ∧ Hid (w'.heap[s_.2.2.1]? = some (.cells #[.int .i64 1, .int .i64 0, .int .i64 0, .slice none 0 0, .slice none 0 0, .int .i64 1, .int .i64 0, .int .i64 0, .slice (some ⟨s_.1, 0, none⟩) 8 8, .slice (some ⟨s_.2.1, 0, none⟩) 1 1] 25 (0, 0))) ∧ Hid (w'.heap[s_.2.2.2]? = some (.cells #[.int .i64 0, .int .i64 0, .int .i64 0, .slice none 0 0, .slice none 0 0] 25 (0, 0)))) ?_ ?_
  rotate_left
  · intro hCont
    refine three_ (i := 1) (j := 3) (k := 7) (Ni := some 9) (Nj := some 11) (Nk := some 2) #[true, true, true, false, false, false, false, false, false] #[true, false, true, true, false, false, false, false, false] #[true, false, true, false, false, false, false, true, false] rfl rfl rfl rfl rfl rfl (by kernel_rfl) (by decide) (by decide) (by decide) (fun K hK => ?_) (fun K hK => ?_) (fun K hK => ?_)
    · skip
      refine value_ (w1 := ?_) (v := ?_) (by rfl) rfl ?_ ?_
      rotate_left 2
      · go_simp
        constructor
        · rfl
        · rfl
      refine at_world (fun e1 he => ?_)
      have nD : e1.heap[wd.heap.size]? = some (.cells #[(.int .u8 0), (.int .u8 0), (.int .u8 0), (.int .u8 0), (.int .u8 0), (.int .u8 0), (.int .u8 0), (.int .u8 0)] 5 (0, 0)) := by rw [he]; exact heap_alloc_new _ _
      have hbE : Below wd.heap.size wd e1 := by rw [he]; exact (Below.refl _ _).alloc (Nat.le_refl _) _
      clear he
      have D9 := Lib.hid nD
      replace hbR := hbR.trans (hbE.mono hbR.size)
      clear nD hbE
      refine hK.out _ _ ⟨(hbR.cell (p := ⟨w.heap.size + 1, 0, none⟩) l_BSd).trans qd_0, (hbR.cell (p := ⟨w.heap.size + 1, 1, none⟩) l_BSd).trans qd_1, (hbR.cell (p := ⟨w.heap.size + 1, 2, none⟩) l_BSd).trans qd_2, (hbR.cell (p := ⟨w.heap.size + 1, 3, none⟩) l_BSd).trans qd_3, (hbR.cell (p := ⟨w.heap.size + 1, 4, none⟩) l_BSd).trans qd_4⟩ (fun hHeld => ?_)
      clear hK K
      refine norm_ (a' := ?_) ?_ ?_
      rotate_left
      · show Act.put _ (some 9) _ = _
        simp only [Act.put, List.setIfInBounds_toArray, List.set_cons_zero, List.set_cons_succ, i64_w, i32_w]
        rfl
      refine two_ (i := 3) (j := 7) (Ni := some 11) (Nj := some 2) #[true, true, true, true, false, false, false, false, false] #[true, true, true, false, false, false, false, true, false] rfl rfl rfl rfl (by kernel_rfl) (by decide) (by decide) (fun K hK => ?_) (fun K hK => ?_)
      · skip
        refine value_ (w1 := ?_) (v := ?_) (by rfl) rfl ?_ ?_
        rotate_left 2
        · go_simp
          constructor
          · rfl
          · rfl
        refine at_world (fun e2 he => ?_)
        have nD : e2.heap[e1.heap.size]? = some (.cells #[.int .i64 1, .int .i64 0, .int .i64 0, .slice none 0 0, .slice (some ⟨w.heap.size, 0, none⟩) 1 1] 25 (0, 0)) := by rw [he]; exact heap_alloc_new _ _
        have hbE : Below e1.heap.size e1 e2 := by rw [he]; exact (Below.refl _ _).alloc (Nat.le_refl _) _
        clear he
        replace D9 := Lib.hid (blk_below D9.out hbE)
        have D11 := Lib.hid nD
        replace hbR := hbR.trans (hbE.mono hbR.size)
        clear nD hbE
        refine hK.out _ _ ⟨(hbR.cell (p := ⟨w.heap.size + 1, 0, none⟩) l_BSd).trans qd_0, (hbR.cell (p := ⟨w.heap.size + 1, 1, none⟩) l_BSd).trans qd_1, (hbR.cell (p := ⟨w.heap.size + 1, 2, none⟩) l_BSd).trans qd_2, (hbR.cell (p := ⟨w.heap.size + 1, 3, none⟩) l_BSd).trans qd_3, (hbR.cell (p := ⟨w.heap.size + 1, 4, none⟩) l_BSd).trans qd_4⟩ (fun hHeld => ?_)
        clear hK K
        refine norm_ (a' := ?_) ?_ ?_
        rotate_left
        · show Act.put _ (some 11) _ = _
          simp only [Act.put, List.setIfInBounds_toArray, List.set_cons_zero, List.set_cons_succ, i64_w, i32_w]
          rfl
        refine pure_ (i := 4) (N := some 12) (v := ?_) (a' := ?_) #[true, true, true, true, true, false, false, false, false] rfl rfl (by kernel_rfl) (fun _ _ _ h => h) (Or.inl ⟨by rfl, ?_⟩) ?_ ?_
        rotate_left
        · intro w'
          go_simp
          with_reducible rfl
        rotate_left
        · simp only [Act.put, List.setIfInBounds_toArray, List.set_cons_zero, List.set_cons_succ, i64_w, i32_w]
          rfl
        refine two_ (i := 5) (j := 7) (Ni := some 13) (Nj := some 2) #[true, true, true, true, true, true, false, false, false] #[true, true, true, true, true, false, false, true, false] rfl rfl rfl rfl (by kernel_rfl) (by decide) (by decide) (fun K hK => ?_) (fun K hK => ?_)
        · skip
          refine value_ (w1 := ?_) (v := ?_) (by rfl) rfl ?_ ?_
          rotate_left 2
          · go_simp
            constructor
            · rfl
            · rfl
          refine at_world (fun e3 he => ?_)
          have nD : e3.heap[e2.heap.size]? = some (.cells #[.int .i64 1, .int .i64 0, .int .i64 0, .slice none 0 0, .slice none 0 0, .int .i64 1, .int .i64 0, .int .i64 0, .slice (some ⟨wd.heap.size, 0, none⟩) 8 8, .slice (some ⟨e1.heap.size, 0, none⟩) 1 1] 25 (0, 0)) := by rw [he]; exact heap_alloc_new _ _
          have hbE : Below e2.heap.size e2 e3 := by rw [he]; exact (Below.refl _ _).alloc (Nat.le_refl _) _
          clear he
          replace D9 := Lib.hid (blk_below D9.out hbE)
          replace D11 := Lib.hid (blk_below D11.out hbE)
          have D13 := Lib.hid nD
          replace hbR := hbR.trans (hbE.mono hbR.size)
          clear nD hbE
          refine hK.out _ _ ⟨(hbR.cell (p := ⟨w.heap.size + 1, 0, none⟩) l_BSd).trans qd_0, (hbR.cell (p := ⟨w.heap.size + 1, 1, none⟩) l_BSd).trans qd_1, (hbR.cell (p := ⟨w.heap.size + 1, 2, none⟩) l_BSd).trans qd_2, (hbR.cell (p := ⟨w.heap.size + 1, 3, none⟩) l_BSd).trans qd_3, (hbR.cell (p := ⟨w.heap.size + 1, 4, none⟩) l_BSd).trans qd_4⟩ (fun hHeld => ?_)
          clear hK K
          refine norm_ (a' := ?_) ?_ ?_
          rotate_left
          · show Act.put _ (some 13) _ = _
            simp only [Act.put, List.setIfInBounds_toArray, List.set_cons_zero, List.set_cons_succ, i64_w, i32_w]
            rfl
          refine pure_ (i := 6) (N := some 14) (v := ?_) (a' := ?_) #[true, true, true, true, true, true, true, false, false] rfl rfl (by kernel_rfl) (fun _ _ _ h => h) (Or.inl ⟨by rfl, ?_⟩) ?_ ?_
          rotate_left
          · intro w'
            go_simp
            with_reducible rfl
          rotate_left
          · simp only [Act.put, List.setIfInBounds_toArray, List.set_cons_zero, List.set_cons_succ, i64_w, i32_w]
            rfl
          refine one_ (i := 7) (N := some 2) #[true, true, true, true, true, true, true, true, false] rfl rfl (by kernel_rfl) (by decide) (fun K hK => ?_)
          refine value_ (w1 := ?_) (v := ?_) (by rfl) rfl ?_ ?_
          rotate_left 2
          · go_simp
            constructor
            · rfl
            · rfl
          refine at_world (fun e4 he => ?_)
          have nD : e4.heap[e3.heap.size]? = some (.cells #[.int .i64 0, .int .i64 0, .int .i64 0, .slice none 0 0, .slice none 0 0] 25 (0, 0)) := by rw [he]; exact heap_alloc_new _ _
          have hbE : Below e3.heap.size e3 e4 := by rw [he]; exact (Below.refl _ _).alloc (Nat.le_refl _) _
          clear he
          have hgl : wd.heap.size ≤ e3.heap.size := hbR.size
          replace D9 := Lib.hid (blk_below D9.out hbE)
          replace D11 := Lib.hid (blk_below D11.out hbE)
          replace D13 := Lib.hid (blk_below D13.out hbE)
          have Dl := Lib.hid nD
          replace hbR := hbR.trans (hbE.mono hbR.size)
          clear nD hbE
          refine hK.out _ _ ⟨(hbR.cell (p := ⟨w.heap.size + 1, 0, none⟩) l_BSd).trans qd_0, (hbR.cell (p := ⟨w.heap.size + 1, 1, none⟩) l_BSd).trans qd_1, (hbR.cell (p := ⟨w.heap.size + 1, 2, none⟩) l_BSd).trans qd_2, (hbR.cell (p := ⟨w.heap.size + 1, 3, none⟩) l_BSd).trans qd_3, (hbR.cell (p := ⟨w.heap.size + 1, 4, none⟩) l_BSd).trans qd_4⟩ (fun hHeld => ?_)
          clear hK K
          refine norm_ (a' := ?_) ?_ ?_
          rotate_left
          · show Act.put _ (some 2) _ = _
            simp only [Act.put, List.setIfInBounds_toArray, List.set_cons_zero, List.set_cons_succ, i64_w, i32_w]
            rfl
          exact norm_ (by simp only [putAll, Act.put, List.setIfInBounds_toArray, List.set_cons_zero, List.set_cons_succ]) (hCont (wd.heap.size, e1.heap.size, e2.heap.size, e3.heap.size) _ ⟨⟨(hbR.cell (p := ⟨w.heap.size + 1, 0, none⟩) l_BSd).trans qd_0, (hbR.cell (p := ⟨w.heap.size + 1, 1, none⟩) l_BSd).trans qd_1, (hbR.cell (p := ⟨w.heap.size + 1, 2, none⟩) l_BSd).trans qd_2, (hbR.cell (p := ⟨w.heap.size + 1, 3, none⟩) l_BSd).trans qd_3, (hbR.cell (p := ⟨w.heap.size + 1, 4, none⟩) l_BSd).trans qd_4⟩, hbR, hgl, D9, D11, D13, Dl⟩)
        · skip
          refine value_ (w1 := ?_) (v := ?_) (by rfl) rfl ?_ ?_
          rotate_left 2
          · go_simp
            constructor
            · rfl
            · rfl
          refine at_world (fun e3 he => ?_)
          have nD : e3.heap[e2.heap.size]? = some (.cells #[.int .i64 0, .int .i64 0, .int .i64 0, .slice none 0 0, .slice none 0 0] 25 (0, 0)) := by rw [he]; exact heap_alloc_new _ _
          have hbE : Below e2.heap.size e2 e3 := by rw [he]; exact (Below.refl _ _).alloc (Nat.le_refl _) _
          clear he
          have hgl : wd.heap.size ≤ e2.heap.size := hbR.size
          replace D9 := Lib.hid (blk_below D9.out hbE)
          replace D11 := Lib.hid (blk_below D11.out hbE)
          have Dl := Lib.hid nD
          replace hbR := hbR.trans (hbE.mono hbR.size)
          clear nD hbE
          refine hK.out _ _ ⟨(hbR.cell (p := ⟨w.heap.size + 1, 0, none⟩) l_BSd).trans qd_0, (hbR.cell (p := ⟨w.heap.size + 1, 1, none⟩) l_BSd).trans qd_1, (hbR.cell (p := ⟨w.heap.size + 1, 2, none⟩) l_BSd).trans qd_2, (hbR.cell (p := ⟨w.heap.size + 1, 3, none⟩) l_BSd).trans qd_3, (hbR.cell (p := ⟨w.heap.size + 1, 4, none⟩) l_BSd).trans qd_4⟩ (fun hHeld => ?_)
          clear hK K
          refine norm_ (a' := ?_) ?_ ?_
          rotate_left
          · show Act.put _ (some 2) _ = _
            simp only [Act.put, List.setIfInBounds_toArray, List.set_cons_zero, List.set_cons_succ, i64_w, i32_w]
            rfl
          refine one_ (i := 5) (N := some 13) #[true, true, true, true, true, true, false, true, false] rfl rfl (by kernel_rfl) (by decide) (fun K hK => ?_)
          refine value_ (w1 := ?_) (v := ?_) (by rfl) rfl ?_ ?_
          rotate_left 2
          · go_simp
            constructor
            · rfl
            · rfl
          refine at_world (fun e4 he => ?_)
          have nD : e4.heap[e3.heap.size]? = some (.cells #[.int .i64 1, .int .i64 0, .int .i64 0, .slice none 0 0, .slice none 0 0, .int .i64 1, .int .i64 0, .int .i64 0, .slice (some ⟨wd.heap.size, 0, none⟩) 8 8, .slice (some ⟨e1.heap.size, 0, none⟩) 1 1] 25 (0, 0)) := by rw [he]; exact heap_alloc_new _ _
          have hbE : Below e3.heap.size e3 e4 := by rw [he]; exact (Below.refl _ _).alloc (Nat.le_refl _) _
          clear he
          replace D9 := Lib.hid (blk_below D9.out hbE)
          replace D11 := Lib.hid (blk_below D11.out hbE)
          replace Dl := Lib.hid (blk_below Dl.out hbE)
          have D13 := Lib.hid nD
          replace hbR := hbR.trans (hbE.mono hbR.size)
          clear nD hbE
          refine hK.out _ _ ⟨(hbR.cell (p := ⟨w.heap.size + 1, 0, none⟩) l_BSd).trans qd_0, (hbR.cell (p := ⟨w.heap.size + 1, 1, none⟩) l_BSd).trans qd_1, (hbR.cell (p := ⟨w.heap.size + 1, 2, none⟩) l_BSd).trans qd_2, (hbR.cell (p := ⟨w.heap.size + 1, 3, none⟩) l_BSd).trans qd_3, (hbR.cell (p := ⟨w.heap.size + 1, 4, none⟩) l_BSd).trans qd_4⟩ (fun hHeld => ?_)
          clear hK K
          refine norm_ (a' := ?_) ?_ ?_
          rotate_left
          · show Act.put _ (some 13) _ = _
            simp only [Act.put, List.setIfInBounds_toArray, List.set_cons_zero, List.set_cons_succ, i64_w, i32_w]
            rfl
          refine pure_ (i := 6) (N := some 14) (v := ?_) (a' := ?_) #[true, true, true, true, true, true, true, true, false] rfl rfl (by kernel_rfl) (fun _ _ _ h => h) (Or.inl ⟨by rfl, ?_⟩) ?_ ?_
          rotate_left
          · intro w'
            go_simp
            with_reducible rfl
          rotate_left
          · simp only [Act.put, List.setIfInBounds_toArray, List.set_cons_zero, List.set_cons_succ, i64_w, i32_w]
            rfl
          exact norm_ (by simp only [putAll, Act.put, List.setIfInBounds_toArray, List.set_cons_zero, List.set_cons_succ]) (hCont (wd.heap.size, e1.heap.size, e3.heap.size, e2.heap.size) _ ⟨⟨(hbR.cell (p := ⟨w.heap.size + 1, 0, none⟩) l_BSd).trans qd_0, (hbR.cell (p := ⟨w.heap.size + 1, 1, none⟩) l_BSd).trans qd_1, (hbR.cell (p := ⟨w.heap.size + 1, 2, none⟩) l_BSd).trans qd_2, (hbR.cell (p := ⟨w.heap.size + 1, 3, none⟩) l_BSd).trans qd_3, (hbR.cell (p := ⟨w.heap.size + 1, 4, none⟩) l_BSd).trans qd_4⟩, hbR, hgl, D9, D11, D13, Dl⟩)
      · skip
        refine value_ (w1 := ?_) (v := ?_) (by rfl) rfl ?_ ?_
        rotate_left 2
        · go_simp
          constructor
          · rfl
          · rfl
        refine at_world (fun e2 he => ?_)
        have nD : e2.heap[e1.heap.size]? = some (.cells #[.int .i64 0, .int .i64 0, .int .i64 0, .slice none 0 0, .slice none 0 0] 25 (0, 0)) := by rw [he]; exact heap_alloc_new _ _
        have hbE : Below e1.heap.size e1 e2 := by rw [he]; exact (Below.refl _ _).alloc (Nat.le_refl _) _
        clear he
        have hgl : wd.heap.size ≤ e1.heap.size := hbR.size
        replace D9 := Lib.hid (blk_below D9.out hbE)
        have Dl := Lib.hid nD
        replace hbR := hbR.trans (hbE.mono hbR.size)
        clear nD hbE
        refine hK.out _ _ ⟨(hbR.cell (p := ⟨w.heap.size + 1, 0, none⟩) l_BSd).trans qd_0, (hbR.cell (p := ⟨w.heap.size + 1, 1, none⟩) l_BSd).trans qd_1, (hbR.cell (p := ⟨w.heap.size + 1, 2, none⟩) l_BSd).trans qd_2, (hbR.cell (p := ⟨w.heap.size + 1, 3, none⟩) l_BSd).trans qd_3, (hbR.cell (p := ⟨w.heap.size + 1, 4, none⟩) l_BSd).trans qd_4⟩ (fun hHeld => ?_)
        clear hK K
        refine norm_ (a' := ?_) ?_ ?_
        rotate_left
        · show Act.put _ (some 2) _ = _
          simp only [Act.put, List.setIfInBounds_toArray, List.set_cons_zero, List.set_cons_succ, i64_w, i32_w]
          rfl
        refine one_ (i := 3) (N := some 11) #[true, true, true, true, false, false, false, true, false] rfl rfl (by kernel_rfl) (by decide) (fun K hK => ?_)
        refine value_ (w1 := ?_) (v := ?_) (by rfl) rfl ?_ ?_
        rotate_left 2
        · go_simp
          constructor
          · rfl
          · rfl
        refine at_world (fun e3 he => ?_)
        have nD : e3.heap[e2.heap.size]? = some (.cells #[.int .i64 1, .int .i64 0, .int .i64 0, .slice none 0 0, .slice (some ⟨w.heap.size, 0, none⟩) 1 1] 25 (0, 0)) := by rw [he]; exact heap_alloc_new _ _
        have hbE : Below e2.heap.size e2 e3 := by rw [he]; exact (Below.refl _ _).alloc (Nat.le_refl _) _
        clear he
        replace D9 := Lib.hid (blk_below D9.out hbE)
        replace Dl := Lib.hid (blk_below Dl.out hbE)
        have D11 := Lib.hid nD
        replace hbR := hbR.trans (hbE.mono hbR.size)
        clear nD hbE
        refine hK.out _ _ ⟨(hbR.cell (p := ⟨w.heap.size + 1, 0, none⟩) l_BSd).trans qd_0, (hbR.cell (p := ⟨w.heap.size + 1, 1, none⟩) l_BSd).trans qd_1, (hbR.cell (p := ⟨w.heap.size + 1, 2, none⟩) l_BSd).trans qd_2, (hbR.cell (p := ⟨w.heap.size + 1, 3, none⟩) l_BSd).trans qd_3, (hbR.cell (p := ⟨w.heap.size + 1, 4, none⟩) l_BSd).trans qd_4⟩ (fun hHeld => ?_)
        clear hK K
        refine norm_ (a' := ?_) ?_ ?_
        rotate_left
        · show Act.put _ (some 11) _ = _
          simp only [Act.put, List.setIfInBounds_toArray, List.set_cons_zero, List.set_cons_succ, i64_w, i32_w]
          rfl
        refine pure_ (i := 4) (N := some 12) (v := ?_) (a' := ?_) #[true, true, true, true, true, false, false, true, false] rfl rfl (by kernel_rfl) (fun _ _ _ h => h) (Or.inl ⟨by rfl, ?_⟩) ?_ ?_
        rotate_left
        · intro w'
          go_simp
          with_reducible rfl
        rotate_left
        · simp only [Act.put, List.setIfInBounds_toArray, List.set_cons_zero, List.set_cons_succ, i64_w, i32_w]
          rfl
        refine one_ (i := 5) (N := some 13) #[true, true, true, true, true, true, false, true, false] rfl rfl (by kernel_rfl) (by decide) (fun K hK => ?_)
        refine value_ (w1 := ?_) (v := ?_) (by rfl) rfl ?_ ?_
        rotate_left 2
        · go_simp
          constructor
          · rfl
          · rfl
        refine at_world (fun e4 he => ?_)
        have nD : e4.heap[e3.heap.size]? = some (.cells #[.int .i64 1, .int .i64 0, .int .i64 0, .slice none 0 0, .slice none 0 0, .int .i64 1, .int .i64 0, .int .i64 0, .slice (some ⟨wd.heap.size, 0, none⟩) 8 8, .slice (some ⟨e2.heap.size, 0, none⟩) 1 1] 25 (0, 0)) := by rw [he]; exact heap_alloc_new _ _
        have hbE : Below e3.heap.size e3 e4 := by rw [he]; exact (Below.refl _ _).alloc (Nat.le_refl _) _
        clear he
        replace D9 := Lib.hid (blk_below D9.out hbE)
        replace Dl := Lib.hid (blk_below Dl.out hbE)
        replace D11 := Lib.hid (blk_below D11.out hbE)
        have D13 := Lib.hid nD
        replace hbR := hbR.trans (hbE.mono hbR.size)
        clear nD hbE
        refine hK.out _ _ ⟨(hbR.cell (p := ⟨w.heap.size + 1, 0, none⟩) l_BSd).trans qd_0, (hbR.cell (p := ⟨w.heap.size + 1, 1, none⟩) l_BSd).trans qd_1, (hbR.cell (p := ⟨w.heap.size + 1, 2, none⟩) l_BSd).trans qd_2, (hbR.cell (p := ⟨w.heap.size + 1, 3, none⟩) l_BSd).trans qd_3, (hbR.cell (p := ⟨w.heap.size + 1, 4, none⟩) l_BSd).trans qd_4⟩ (fun hHeld => ?_)
        clear hK K
        refine norm_ (a' := ?_) ?_ ?_
        rotate_left
        · show Act.put _ (some 13) _ = _
          simp only [Act.put, List.setIfInBounds_toArray, List.set_cons_zero, List.set_cons_succ, i64_w, i32_w]
          rfl
        refine pure_ (i := 6) (N := some 14) (v := ?_) (a' := ?_) #[true, true, true, true, true, true, true, true, false] rfl rfl (by kernel_rfl) (fun _ _ _ h => h) (Or.inl ⟨by rfl, ?_⟩) ?_ ?_
        rotate_left
        · intro w'
          go_simp
          with_reducible rfl
        rotate_left
        · simp only [Act.put, List.setIfInBounds_toArray, List.set_cons_zero, List.set_cons_succ, i64_w, i32_w]
          rfl
        exact norm_ (by simp only [putAll, Act.put, List.setIfInBounds_toArray, List.set_cons_zero, List.set_cons_succ]) (hCont (wd.heap.size, e2.heap.size, e3.heap.size, e1.heap.size) _ ⟨⟨(hbR.cell (p := ⟨w.heap.size + 1, 0, none⟩) l_BSd).trans qd_0, (hbR.cell (p := ⟨w.heap.size + 1, 1, none⟩) l_BSd).trans qd_1, (hbR.cell (p := ⟨w.heap.size + 1, 2, none⟩) l_BSd).trans qd_2, (hbR.cell (p := ⟨w.heap.size + 1, 3, none⟩) l_BSd).trans qd_3, (hbR.cell (p := ⟨w.heap.size + 1, 4, none⟩) l_BSd).trans qd_4⟩, hbR, hgl, D9, D11, D13, Dl⟩)
    · skip
      refine value_ (w1 := ?_) (v := ?_) (by rfl) rfl ?_ ?_
      rotate_left 2
      · go_simp
        constructor
        · rfl
        · rfl
      refine at_world (fun e1 he => ?_)
      have nD : e1.heap[wd.heap.size]? = some (.cells #[.int .i64 1, .int .i64 0, .int .i64 0, .slice none 0 0, .slice (some ⟨w.heap.size, 0, none⟩) 1 1] 25 (0, 0)) := by rw [he]; exact heap_alloc_new _ _
      have hbE : Below wd.heap.size wd e1 := by rw [he]; exact (Below.refl _ _).alloc (Nat.le_refl _) _
      clear he
      have D11 := Lib.hid nD
      replace hbR := hbR.trans (hbE.mono hbR.size)
      clear nD hbE
      refine hK.out _ _ ⟨(hbR.cell (p := ⟨w.heap.size + 1, 0, none⟩) l_BSd).trans qd_0, (hbR.cell (p := ⟨w.heap.size + 1, 1, none⟩) l_BSd).trans qd_1, (hbR.cell (p := ⟨w.heap.size + 1, 2, none⟩) l_BSd).trans qd_2, (hbR.cell (p := ⟨w.heap.size + 1, 3, none⟩) l_BSd).trans qd_3, (hbR.cell (p := ⟨w.heap.size + 1, 4, none⟩) l_BSd).trans qd_4⟩ (fun hHeld => ?_)
      clear hK K
      refine norm_ (a' := ?_) ?_ ?_
      rotate_left
      · show Act.put _ (some 11) _ = _
        simp only [Act.put, List.setIfInBounds_toArray, List.set_cons_zero, List.set_cons_succ, i64_w, i32_w]
        rfl
      refine two_ (i := 1) (j := 7) (Ni := some 9) (Nj := some 2) #[true, true, true, true, false, false, false, false, false] #[true, false, true, true, false, false, false, true, false] rfl rfl rfl rfl (by kernel_rfl) (by decide) (by decide) (fun K hK => ?_) (fun K hK => ?_)
      · skip
        refine value_ (w1 := ?_) (v := ?_) (by rfl) rfl ?_ ?_
        rotate_left 2
        · go_simp
          constructor
          · rfl
          · rfl
        refine at_world (fun e2 he => ?_)
        have nD : e2.heap[e1.heap.size]? = some (.cells #[(.int .u8 0), (.int .u8 0), (.int .u8 0), (.int .u8 0), (.int .u8 0), (.int .u8 0), (.int .u8 0), (.int .u8 0)] 5 (0, 0)) := by rw [he]; exact heap_alloc_new _ _
        have hbE : Below e1.heap.size e1 e2 := by rw [he]; exact (Below.refl _ _).alloc (Nat.le_refl _) _
        clear he
        replace D11 := Lib.hid (blk_below D11.out hbE)
        have D9 := Lib.hid nD
        replace hbR := hbR.trans (hbE.mono hbR.size)
        clear nD hbE
        refine hK.out _ _ ⟨(hbR.cell (p := ⟨w.heap.size + 1, 0, none⟩) l_BSd).trans qd_0, (hbR.cell (p := ⟨w.heap.size + 1, 1, none⟩) l_BSd).trans qd_1, (hbR.cell (p := ⟨w.heap.size + 1, 2, none⟩) l_BSd).trans qd_2, (hbR.cell (p := ⟨w.heap.size + 1, 3, none⟩) l_BSd).trans qd_3, (hbR.cell (p := ⟨w.heap.size + 1, 4, none⟩) l_BSd).trans qd_4⟩ (fun hHeld => ?_)
        clear hK K
        refine norm_ (a' := ?_) ?_ ?_
        rotate_left
        · show Act.put _ (some 9) _ = _
          simp only [Act.put, List.setIfInBounds_toArray, List.set_cons_zero, List.set_cons_succ, i64_w, i32_w]
          rfl
        refine pure_ (i := 4) (N := some 12) (v := ?_) (a' := ?_) #[true, true, true, true, true, false, false, false, false] rfl rfl (by kernel_rfl) (fun _ _ _ h => h) (Or.inl ⟨by rfl, ?_⟩) ?_ ?_
        rotate_left
        · intro w'
          go_simp
          with_reducible rfl
        rotate_left
        · simp only [Act.put, List.setIfInBounds_toArray, List.set_cons_zero, List.set_cons_succ, i64_w, i32_w]
          rfl
        refine two_ (i := 5) (j := 7) (Ni := some 13) (Nj := some 2) #[true, true, true, true, true, true, false, false, false] #[true, true, true, true, true, false, false, true, false] rfl rfl rfl rfl (by kernel_rfl) (by decide) (by decide) (fun K hK => ?_) (fun K hK => ?_)
        · skip
          refine value_ (w1 := ?_) (v := ?_) (by rfl) rfl ?_ ?_
          rotate_left 2
          · go_simp
            constructor
            · rfl
            · rfl
          refine at_world (fun e3 he => ?_)
          have nD : e3.heap[e2.heap.size]? = some (.cells #[.int .i64 1, .int .i64 0, .int .i64 0, .slice none 0 0, .slice none 0 0, .int .i64 1, .int .i64 0, .int .i64 0, .slice (some ⟨e1.heap.size, 0, none⟩) 8 8, .slice (some ⟨wd.heap.size, 0, none⟩) 1 1] 25 (0, 0)) := by rw [he]; exact heap_alloc_new _ _
          have hbE : Below e2.heap.size e2 e3 := by rw [he]; exact (Below.refl _ _).alloc (Nat.le_refl _) _
          clear he
          replace D11 := Lib.hid (blk_below D11.out hbE)
          replace D9 := Lib.hid (blk_below D9.out hbE)
          have D13 := Lib.hid nD
          replace hbR := hbR.trans (hbE.mono hbR.size)
          clear nD hbE
          refine hK.out _ _ ⟨(hbR.cell (p := ⟨w.heap.size + 1, 0, none⟩) l_BSd).trans qd_0, (hbR.cell (p := ⟨w.heap.size + 1, 1, none⟩) l_BSd).trans qd_1, (hbR.cell (p := ⟨w.heap.size + 1, 2, none⟩) l_BSd).trans qd_2, (hbR.cell (p := ⟨w.heap.size + 1, 3, none⟩) l_BSd).trans qd_3, (hbR.cell (p := ⟨w.heap.size + 1, 4, none⟩) l_BSd).trans qd_4⟩ (fun hHeld => ?_)
          clear hK K
          refine norm_ (a' := ?_) ?_ ?_
          rotate_left
          · show Act.put _ (some 13) _ = _
            simp only [Act.put, List.setIfInBounds_toArray, List.set_cons_zero, List.set_cons_succ, i64_w, i32_w]
            rfl
          refine pure_ (i := 6) (N := some 14) (v := ?_) (a' := ?_) #[true, true, true, true, true, true, true, false, false] rfl rfl (by kernel_rfl) (fun _ _ _ h => h) (Or.inl ⟨by rfl, ?_⟩) ?_ ?_
          rotate_left
          · intro w'
            go_simp
            with_reducible rfl
          rotate_left
          · simp only [Act.put, List.setIfInBounds_toArray, List.set_cons_zero, List.set_cons_succ, i64_w, i32_w]
            rfl
          refine one_ (i := 7) (N := some 2) #[true, true, true, true, true, true, true, true, false] rfl rfl (by kernel_rfl) (by decide) (fun K hK => ?_)
          refine value_ (w1 := ?_) (v := ?_) (by rfl) rfl ?_ ?_
          rotate_left 2
          · go_simp
            constructor
            · rfl
            · rfl
          refine at_world (fun e4 he => ?_)
          have nD : e4.heap[e3.heap.size]? = some (.cells #[.int .i64 0, .int .i64 0, .int .i64 0, .slice none 0 0, .slice none 0 0] 25 (0, 0)) := by rw [he]; exact heap_alloc_new _ _
          have hbE : Below e3.heap.size e3 e4 := by rw [he]; exact (Below.refl _ _).alloc (Nat.le_refl _) _
          clear he
          have hgl : wd.heap.size ≤ e3.heap.size := hbR.size
          replace D11 := Lib.hid (blk_below D11.out hbE)
          replace D9 := Lib.hid (blk_below D9.out hbE)
          replace D13 := Lib.hid (blk_below D13.out hbE)
          have Dl := Lib.hid nD
          replace hbR := hbR.trans (hbE.mono hbR.size)
          clear nD hbE
          refine hK.out _ _ ⟨(hbR.cell (p := ⟨w.heap.size + 1, 0, none⟩) l_BSd).trans qd_0, (hbR.cell (p := ⟨w.heap.size + 1, 1, none⟩) l_BSd).trans qd_1, (hbR.cell (p := ⟨w.heap.size + 1, 2, none⟩) l_BSd).trans qd_2, (hbR.cell (p := ⟨w.heap.size + 1, 3, none⟩) l_BSd).trans qd_3, (hbR.cell (p := ⟨w.heap.size + 1, 4, none⟩) l_BSd).trans qd_4⟩ (fun hHeld => ?_)
          clear hK K
          refine norm_ (a' := ?_) ?_ ?_
          rotate_left
          · show Act.put _ (some 2) _ = _
            simp only [Act.put, List.setIfInBounds_toArray, List.set_cons_zero, List.set_cons_succ, i64_w, i32_w]
            rfl
          exact norm_ (by simp only [putAll, Act.put, List.setIfInBounds_toArray, List.set_cons_zero, List.set_cons_succ]) (hCont (e1.heap.size, wd.heap.size, e2.heap.size, e3.heap.size) _ ⟨⟨(hbR.cell (p := ⟨w.heap.size + 1, 0, none⟩) l_BSd).trans qd_0, (hbR.cell (p := ⟨w.heap.size + 1, 1, none⟩) l_BSd).trans qd_1, (hbR.cell (p := ⟨w.heap.size + 1, 2, none⟩) l_BSd).trans qd_2, (hbR.cell (p := ⟨w.heap.size + 1, 3, none⟩) l_BSd).trans qd_3, (hbR.cell (p := ⟨w.heap.size + 1, 4, none⟩) l_BSd).trans qd_4⟩, hbR, hgl, D9, D11, D13, Dl⟩)
        · skip
          refine value_ (w1 := ?_) (v := ?_) (by rfl) rfl ?_ ?_
          rotate_left 2
          · go_simp
            constructor
            · rfl
            · rfl
          refine at_world (fun e3 he => ?_)
          have nD : e3.heap[e2.heap.size]? = some (.cells #[.int .i64 0, .int .i64 0, .int .i64 0, .slice none 0 0, .slice none 0 0] 25 (0, 0)) := by rw [he]; exact heap_alloc_new _ _
          have hbE : Below e2.heap.size e2 e3 := by rw [he]; exact (Below.refl _ _).alloc (Nat.le_refl _) _
          clear he
          have hgl : wd.heap.size ≤ e2.heap.size := hbR.size
          replace D11 := Lib.hid (blk_below D11.out hbE)
          replace D9 := Lib.hid (blk_below D9.out hbE)
          have Dl := Lib.hid nD
          replace hbR := hbR.trans (hbE.mono hbR.size)
          clear nD hbE
          refine hK.out _ _ ⟨(hbR.cell (p := ⟨w.heap.size + 1, 0, none⟩) l_BSd).trans qd_0, (hbR.cell (p := ⟨w.heap.size + 1, 1, none⟩) l_BSd).trans qd_1, (hbR.cell (p := ⟨w.heap.size + 1, 2, none⟩) l_BSd).trans qd_2, (hbR.cell (p := ⟨w.heap.size + 1, 3, none⟩) l_BSd).trans qd_3, (hbR.cell (p := ⟨w.heap.size + 1, 4, none⟩) l_BSd).trans qd_4⟩ (fun hHeld => ?_)
          clear hK K
          refine norm_ (a' := ?_) ?_ ?_
          rotate_left
          · show Act.put _ (some 2) _ = _
            simp only [Act.put, List.setIfInBounds_toArray, List.set_cons_zero, List.set_cons_succ, i64_w, i32_w]
            rfl
          refine one_ (i := 5) (N := some 13) #[true, true, true, true, true, true, false, true, false] rfl rfl (by kernel_rfl) (by decide) (fun K hK => ?_)
          refine value_ (w1 := ?_) (v := ?_) (by rfl) rfl ?_ ?_
          rotate_left 2
          · go_simp
            constructor
            · rfl
            · rfl
          refine at_world (fun e4 he => ?_)
          have nD : e4.heap[e3.heap.size]? = some (.cells #[.int .i64 1, .int .i64 0, .int .i64 0, .slice none 0 0, .slice none 0 0, .int .i64 1, .int .i64 0, .int .i64 0, .slice (some ⟨e1.heap.size, 0, none⟩) 8 8, .slice (some ⟨wd.heap.size, 0, none⟩) 1 1] 25 (0, 0)) := by rw [he]; exact heap_alloc_new _ _
          have hbE : Below e3.heap.size e3 e4 := by rw [he]; exact (Below.refl _ _).alloc (Nat.le_refl _) _
          clear he
          replace D11 := Lib.hid (blk_below D11.out hbE)
          replace D9 := Lib.hid (blk_below D9.out hbE)
          replace Dl := Lib.hid (blk_below Dl.out hbE)
          have D13 := Lib.hid nD
          replace hbR := hbR.trans (hbE.mono hbR.size)
          clear nD hbE
          refine hK.out _ _ ⟨(hbR.cell (p := ⟨w.heap.size + 1, 0, none⟩) l_BSd).trans qd_0, (hbR.cell (p := ⟨w.heap.size + 1, 1, none⟩) l_BSd).trans qd_1, (hbR.cell (p := ⟨w.heap.size + 1, 2, none⟩) l_BSd).trans qd_2, (hbR.cell (p := ⟨w.heap.size + 1, 3, none⟩) l_BSd).trans qd_3, (hbR.cell (p := ⟨w.heap.size + 1, 4, none⟩) l_BSd).trans qd_4⟩ (fun hHeld => ?_)
          clear hK K
          refine norm_ (a' := ?_) ?_ ?_
          rotate_left
          · show Act.put _ (some 13) _ = _
            simp only [Act.put, List.setIfInBounds_toArray, List.set_cons_zero, List.set_cons_succ, i64_w, i32_w]
            rfl
          refine pure_ (i := 6) (N := some 14) (v := ?_) (a' := ?_) #[true, true, true, true, true, true, true, true, false] rfl rfl (by kernel_rfl) (fun _ _ _ h => h) (Or.inl ⟨by rfl, ?_⟩) ?_ ?_
          rotate_left
          · intro w'
            go_simp
            with_reducible rfl
          rotate_left
          · simp only [Act.put, List.setIfInBounds_toArray, List.set_cons_zero, List.set_cons_succ, i64_w, i32_w]
            rfl
          exact norm_ (by simp only [putAll, Act.put, List.setIfInBounds_toArray, List.set_cons_zero, List.set_cons_succ]) (hCont (e1.heap.size, wd.heap.size, e3.heap.size, e2.heap.size) _ ⟨⟨(hbR.cell (p := ⟨w.heap.size + 1, 0, none⟩) l_BSd).trans qd_0, (hbR.cell (p := ⟨w.heap.size + 1, 1, none⟩) l_BSd).trans qd_1, (hbR.cell (p := ⟨w.heap.size + 1, 2, none⟩) l_BSd).trans qd_2, (hbR.cell (p := ⟨w.heap.size + 1, 3, none⟩) l_BSd).trans qd_3, (hbR.cell (p := ⟨w.heap.size + 1, 4, none⟩) l_BSd).trans qd_4⟩, hbR, hgl, D9, D11, D13, Dl⟩)
      · skip
        refine value_ (w1 := ?_) (v := ?_) (by rfl) rfl ?_ ?_
        rotate_left 2
        · go_simp
          constructor
          · rfl
          · rfl
        refine at_world (fun e2 he => ?_)
        have nD : e2.heap[e1.heap.size]? = some (.cells #[.int .i64 0, .int .i64 0, .int .i64 0, .slice none 0 0, .slice none 0 0] 25 (0, 0)) := by rw [he]; exact heap_alloc_new _ _
        have hbE : Below e1.heap.size e1 e2 := by rw [he]; exact (Below.refl _ _).alloc (Nat.le_refl _) _
        clear he
        have hgl : wd.heap.size ≤ e1.heap.size := hbR.size
        replace D11 := Lib.hid (blk_below D11.out hbE)
        have Dl := Lib.hid nD
        replace hbR := hbR.trans (hbE.mono hbR.size)
        clear nD hbE
        refine hK.out _ _ ⟨(hbR.cell (p := ⟨w.heap.size + 1, 0, none⟩) l_BSd).trans qd_0, (hbR.cell (p := ⟨w.heap.size + 1, 1, none⟩) l_BSd).trans qd_1, (hbR.cell (p := ⟨w.heap.size + 1, 2, none⟩) l_BSd).trans qd_2, (hbR.cell (p := ⟨w.heap.size + 1, 3, none⟩) l_BSd).trans qd_3, (hbR.cell (p := ⟨w.heap.size + 1, 4, none⟩) l_BSd).trans qd_4⟩ (fun hHeld => ?_)
        clear hK K
        refine norm_ (a' := ?_) ?_ ?_
        rotate_left
        · show Act.put _ (some 2) _ = _
          simp only [Act.put, List.setIfInBounds_toArray, List.set_cons_zero, List.set_cons_succ, i64_w, i32_w]
          rfl
        refine one_ (i := 1) (N := some 9) #[true, true, true, true, false, false, false, true, false] rfl rfl (by kernel_rfl) (by decide) (fun K hK => ?_)
        refine value_ (w1 := ?_) (v := ?_) (by rfl) rfl ?_ ?_
        rotate_left 2
        · go_simp
          constructor
          · rfl
          · rfl
        refine at_world (fun e3 he => ?_)
        have nD : e3.heap[e2.heap.size]? = some (.cells #[(.int .u8 0), (.int .u8 0), (.int .u8 0), (.int .u8 0), (.int .u8 0), (.int .u8 0), (.int .u8 0), (.int .u8 0)] 5 (0, 0)) := by rw [he]; exact heap_alloc_new _ _
        have hbE : Below e2.heap.size e2 e3 := by rw [he]; exact (Below.refl _ _).alloc (Nat.le_refl _) _
        clear he
        replace D11 := Lib.hid (blk_below D11.out hbE)
        replace Dl := Lib.hid (blk_below Dl.out hbE)
        have D9 := Lib.hid nD
        replace hbR := hbR.trans (hbE.mono hbR.size)
        clear nD hbE
        refine hK.out _ _ ⟨(hbR.cell (p := ⟨w.heap.size + 1, 0, none⟩) l_BSd).trans qd_0, (hbR.cell (p := ⟨w.heap.size + 1, 1, none⟩) l_BSd).trans qd_1, (hbR.cell (p := ⟨w.heap.size + 1, 2, none⟩) l_BSd).trans qd_2, (hbR.cell (p := ⟨w.heap.size + 1, 3, none⟩) l_BSd).trans qd_3, (hbR.cell (p := ⟨w.heap.size + 1, 4, none⟩) l_BSd).trans qd_4⟩ (fun hHeld => ?_)
        clear hK K
        refine norm_ (a' := ?_) ?_ ?_
        rotate_left
        · show Act.put _ (some 9) _ = _
          simp only [Act.put, List.setIfInBounds_toArray, List.set_cons_zero, List.set_cons_succ, i64_w, i32_w]
          rfl
        refine pure_ (i := 4) (N := some 12) (v := ?_) (a' := ?_) #[true, true, true, true, true, false, false, true, false] rfl rfl (by kernel_rfl) (fun _ _ _ h => h) (Or.inl ⟨by rfl, ?_⟩) ?_ ?_
        rotate_left
        · intro w'
          go_simp
          with_reducible rfl
        rotate_left
        · simp only [Act.put, List.setIfInBounds_toArray, List.set_cons_zero, List.set_cons_succ, i64_w, i32_w]
          rfl
        refine one_ (i := 5) (N := some 13) #[true, true, true, true, true, true, false, true, false] rfl rfl (by kernel_rfl) (by decide) (fun K hK => ?_)
        refine value_ (w1 := ?_) (v := ?_) (by rfl) rfl ?_ ?_
        rotate_left 2
        · go_simp
          constructor
          · rfl
          · rfl
        refine at_world (fun e4 he => ?_)
        have nD : e4.heap[e3.heap.size]? = some (.cells #[.int .i64 1, .int .i64 0, .int .i64 0, .slice none 0 0, .slice none 0 0, .int .i64 1, .int .i64 0, .int .i64 0, .slice (some ⟨e2.heap.size, 0, none⟩) 8 8, .slice (some ⟨wd.heap.size, 0, none⟩) 1 1] 25 (0, 0)) := by rw [he]; exact heap_alloc_new _ _
        have hbE : Below e3.heap.size e3 e4 := by rw [he]; exact (Below.refl _ _).alloc (Nat.le_refl _) _
        clear he
        replace D11 := Lib.hid (blk_below D11.out hbE)
        replace Dl := Lib.hid (blk_below Dl.out hbE)
        replace D9 := Lib.hid (blk_below D9.out hbE)
        have D13 := Lib.hid nD
        replace hbR := hbR.trans (hbE.mono hbR.size)
        clear nD hbE
        refine hK.out _ _ ⟨(hbR.cell (p := ⟨w.heap.size + 1, 0, none⟩) l_BSd).trans qd_0, (hbR.cell (p := ⟨w.heap.size + 1, 1, none⟩) l_BSd).trans qd_1, (hbR.cell (p := ⟨w.heap.size + 1, 2, none⟩) l_BSd).trans qd_2, (hbR.cell (p := ⟨w.heap.size + 1, 3, none⟩) l_BSd).trans qd_3, (hbR.cell (p := ⟨w.heap.size + 1, 4, none⟩) l_BSd).trans qd_4⟩ (fun hHeld => ?_)
        clear hK K
        refine norm_ (a' := ?_) ?_ ?_
        rotate_left
        · show Act.put _ (some 13) _ = _
          simp only [Act.put, List.setIfInBounds_toArray, List.set_cons_zero, List.set_cons_succ, i64_w, i32_w]
          rfl
        refine pure_ (i := 6) (N := some 14) (v := ?_) (a' := ?_) #[true, true, true, true, true, true, true, true, false] rfl rfl (by kernel_rfl) (fun _ _ _ h => h) (Or.inl ⟨by rfl, ?_⟩) ?_ ?_
        rotate_left
        · intro w'
          go_simp
          with_reducible rfl
        rotate_left
        · simp only [Act.put, List.setIfInBounds_toArray, List.set_cons_zero, List.set_cons_succ, i64_w, i32_w]
          rfl
        exact norm_ (by simp only [putAll, Act.put, List.setIfInBounds_toArray, List.set_cons_zero, List.set_cons_succ]) (hCont (e2.heap.size, wd.heap.size, e3.heap.size, e1.heap.size) _ ⟨⟨(hbR.cell (p := ⟨w.heap.size + 1, 0, none⟩) l_BSd).trans qd_0, (hbR.cell (p := ⟨w.heap.size + 1, 1, none⟩) l_BSd).trans qd_1, (hbR.cell (p := ⟨w.heap.size + 1, 2, none⟩) l_BSd).trans qd_2, (hbR.cell (p := ⟨w.heap.size + 1, 3, none⟩) l_BSd).trans qd_3, (hbR.cell (p := ⟨w.heap.size + 1, 4, none⟩) l_BSd).trans qd_4⟩, hbR, hgl, D9, D11, D13, Dl⟩)
    · skip
      refine value_ (w1 := ?_) (v := ?_) (by rfl) rfl ?_ ?_
      rotate_left 2
      · go_simp
        constructor
        · rfl
        · rfl
      refine at_world (fun e1 he => ?_)
      have nD : e1.heap[wd.heap.size]? = some (.cells #[.int .i64 0, .int .i64 0, .int .i64 0, .slice none 0 0, .slice none 0 0] 25 (0, 0)) := by rw [he]; exact heap_alloc_new _ _
      have hbE : Below wd.heap.size wd e1 := by rw [he]; exact (Below.refl _ _).alloc (Nat.le_refl _) _
      clear he
      have hgl : wd.heap.size ≤ wd.heap.size := hbR.size
      have Dl := Lib.hid nD
      replace hbR := hbR.trans (hbE.mono hbR.size)
      clear nD hbE
      refine hK.out _ _ ⟨(hbR.cell (p := ⟨w.heap.size + 1, 0, none⟩) l_BSd).trans qd_0, (hbR.cell (p := ⟨w.heap.size + 1, 1, none⟩) l_BSd).trans qd_1, (hbR.cell (p := ⟨w.heap.size + 1, 2, none⟩) l_BSd).trans qd_2, (hbR.cell (p := ⟨w.heap.size + 1, 3, none⟩) l_BSd).trans qd_3, (hbR.cell (p := ⟨w.heap.size + 1, 4, none⟩) l_BSd).trans qd_4⟩ (fun hHeld => ?_)
      clear hK K
      refine norm_ (a' := ?_) ?_ ?_
      rotate_left
      · show Act.put _ (some 2) _ = _
        simp only [Act.put, List.setIfInBounds_toArray, List.set_cons_zero, List.set_cons_succ, i64_w, i32_w]
        rfl
      refine two_ (i := 1) (j := 3) (Ni := some 9) (Nj := some 11) #[true, true, true, false, false, false, false, true, false] #[true, false, true, true, false, false, false, true, false] rfl rfl rfl rfl (by kernel_rfl) (by decide) (by decide) (fun K hK => ?_) (fun K hK => ?_)
      · skip
        refine value_ (w1 := ?_) (v := ?_) (by rfl) rfl ?_ ?_
        rotate_left 2
        · go_simp
          constructor
          · rfl
          · rfl
        refine at_world (fun e2 he => ?_)
        have nD : e2.heap[e1.heap.size]? = some (.cells #[(.int .u8 0), (.int .u8 0), (.int .u8 0), (.int .u8 0), (.int .u8 0), (.int .u8 0), (.int .u8 0), (.int .u8 0)] 5 (0, 0)) := by rw [he]; exact heap_alloc_new _ _
        have hbE : Below e1.heap.size e1 e2 := by rw [he]; exact (Below.refl _ _).alloc (Nat.le_refl _) _
        clear he
        replace Dl := Lib.hid (blk_below Dl.out hbE)
        have D9 := Lib.hid nD
        replace hbR := hbR.trans (hbE.mono hbR.size)
        clear nD hbE
        refine hK.out _ _ ⟨(hbR.cell (p := ⟨w.heap.size + 1, 0, none⟩) l_BSd).trans qd_0, (hbR.cell (p := ⟨w.heap.size + 1, 1, none⟩) l_BSd).trans qd_1, (hbR.cell (p := ⟨w.heap.size + 1, 2, none⟩) l_BSd).trans qd_2, (hbR.cell (p := ⟨w.heap.size + 1, 3, none⟩) l_BSd).trans qd_3, (hbR.cell (p := ⟨w.heap.size + 1, 4, none⟩) l_BSd).trans qd_4⟩ (fun hHeld => ?_)
        clear hK K
        refine norm_ (a' := ?_) ?_ ?_
        rotate_left
        · show Act.put _ (some 9) _ = _
          simp only [Act.put, List.setIfInBounds_toArray, List.set_cons_zero, List.set_cons_succ, i64_w, i32_w]
          rfl
        refine one_ (i := 3) (N := some 11) #[true, true, true, true, false, false, false, true, false] rfl rfl (by kernel_rfl) (by decide) (fun K hK => ?_)
        refine value_ (w1 := ?_) (v := ?_) (by rfl) rfl ?_ ?_
        rotate_left 2
        · go_simp
          constructor
          · rfl
          · rfl
        refine at_world (fun e3 he => ?_)
        have nD : e3.heap[e2.heap.size]? = some (.cells #[.int .i64 1, .int .i64 0, .int .i64 0, .slice none 0 0, .slice (some ⟨w.heap.size, 0, none⟩) 1 1] 25 (0, 0)) := by rw [he]; exact heap_alloc_new _ _
        have hbE : Below e2.heap.size e2 e3 := by rw [he]; exact (Below.refl _ _).alloc (Nat.le_refl _) _
        clear he
        replace Dl := Lib.hid (blk_below Dl.out hbE)
        replace D9 := Lib.hid (blk_below D9.out hbE)
        have D11 := Lib.hid nD
        replace hbR := hbR.trans (hbE.mono hbR.size)
        clear nD hbE
        refine hK.out _ _ ⟨(hbR.cell (p := ⟨w.heap.size + 1, 0, none⟩) l_BSd).trans qd_0, (hbR.cell (p := ⟨w.heap.size + 1, 1, none⟩) l_BSd).trans qd_1, (hbR.cell (p := ⟨w.heap.size + 1, 2, none⟩) l_BSd).trans qd_2, (hbR.cell (p := ⟨w.heap.size + 1, 3, none⟩) l_BSd).trans qd_3, (hbR.cell (p := ⟨w.heap.size + 1, 4, none⟩) l_BSd).trans qd_4⟩ (fun hHeld => ?_)
        clear hK K
        refine norm_ (a' := ?_) ?_ ?_
        rotate_left
        · show Act.put _ (some 11) _ = _
          simp only [Act.put, List.setIfInBounds_toArray, List.set_cons_zero, List.set_cons_succ, i64_w, i32_w]
          rfl
        refine pure_ (i := 4) (N := some 12) (v := ?_) (a' := ?_) #[true, true, true, true, true, false, false, true, false] rfl rfl (by kernel_rfl) (fun _ _ _ h => h) (Or.inl ⟨by rfl, ?_⟩) ?_ ?_
        rotate_left
        · intro w'
          go_simp
          with_reducible rfl
        rotate_left
        · simp only [Act.put, List.setIfInBounds_toArray, List.set_cons_zero, List.set_cons_succ, i64_w, i32_w]
          rfl
        refine one_ (i := 5) (N := some 13) #[true, true, true, true, true, true, false, true, false] rfl rfl (by kernel_rfl) (by decide) (fun K hK => ?_)
        refine value_ (w1 := ?_) (v := ?_) (by rfl) rfl ?_ ?_
        rotate_left 2
        · go_simp
          constructor
          · rfl
          · rfl
        refine at_world (fun e4 he => ?_)
        have nD : e4.heap[e3.heap.size]? = some (.cells #[.int .i64 1, .int .i64 0, .int .i64 0, .slice none 0 0, .slice none 0 0, .int .i64 1, .int .i64 0, .int .i64 0, .slice (some ⟨e1.heap.size, 0, none⟩) 8 8, .slice (some ⟨e2.heap.size, 0, none⟩) 1 1] 25 (0, 0)) := by rw [he]; exact heap_alloc_new _ _
        have hbE : Below e3.heap.size e3 e4 := by rw [he]; exact (Below.refl _ _).alloc (Nat.le_refl _) _
        clear he
        replace Dl := Lib.hid (blk_below Dl.out hbE)
        replace D9 := Lib.hid (blk_below D9.out hbE)
        replace D11 := Lib.hid (blk_below D11.out hbE)
        have D13 := Lib.hid nD
        replace hbR := hbR.trans (hbE.mono hbR.size)
        clear nD hbE
        refine hK.out _ _ ⟨(hbR.cell (p := ⟨w.heap.size + 1, 0, none⟩) l_BSd).trans qd_0, (hbR.cell (p := ⟨w.heap.size + 1, 1, none⟩) l_BSd).trans qd_1, (hbR.cell (p := ⟨w.heap.size + 1, 2, none⟩) l_BSd).trans qd_2, (hbR.cell (p := ⟨w.heap.size + 1, 3, none⟩) l_BSd).trans qd_3, (hbR.cell (p := ⟨w.heap.size + 1, 4, none⟩) l_BSd).trans qd_4⟩ (fun hHeld => ?_)
        clear hK K
        refine norm_ (a' := ?_) ?_ ?_
        rotate_left
        · show Act.put _ (some 13) _ = _
          simp only [Act.put, List.setIfInBounds_toArray, List.set_cons_zero, List.set_cons_succ, i64_w, i32_w]
          rfl
        refine pure_ (i := 6) (N := some 14) (v := ?_) (a' := ?_) #[true, true, true, true, true, true, true, true, false] rfl rfl (by kernel_rfl) (fun _ _ _ h => h) (Or.inl ⟨by rfl, ?_⟩) ?_ ?_
        rotate_left
        · intro w'
          go_simp
          with_reducible rfl
        rotate_left
        · simp only [Act.put, List.setIfInBounds_toArray, List.set_cons_zero, List.set_cons_succ, i64_w, i32_w]
          rfl
        exact norm_ (by simp only [putAll, Act.put, List.setIfInBounds_toArray, List.set_cons_zero, List.set_cons_succ]) (hCont (e1.heap.size, e2.heap.size, e3.heap.size, wd.heap.size) _ ⟨⟨(hbR.cell (p := ⟨w.heap.size + 1, 0, none⟩) l_BSd).trans qd_0, (hbR.cell (p := ⟨w.heap.size + 1, 1, none⟩) l_BSd).trans qd_1, (hbR.cell (p := ⟨w.heap.size + 1, 2, none⟩) l_BSd).trans qd_2, (hbR.cell (p := ⟨w.heap.size + 1, 3, none⟩) l_BSd).trans qd_3, (hbR.cell (p := ⟨w.heap.size + 1, 4, none⟩) l_BSd).trans qd_4⟩, hbR, hgl, D9, D11, D13, Dl⟩)
      · skip
        refine value_ (w1 := ?_) (v := ?_) (by rfl) rfl ?_ ?_
        rotate_left 2
        · go_simp
          constructor
          · rfl
          · rfl
        refine at_world (fun e2 he => ?_)
        have nD : e2.heap[e1.heap.size]? = some (.cells #[.int .i64 1, .int .i64 0, .int .i64 0, .slice none 0 0, .slice (some ⟨w.heap.size, 0, none⟩) 1 1] 25 (0, 0)) := by rw [he]; exact heap_alloc_new _ _
        have hbE : Below e1.heap.size e1 e2 := by rw [he]; exact (Below.refl _ _).alloc (Nat.le_refl _) _
        clear he
        replace Dl := Lib.hid (blk_below Dl.out hbE)
        have D11 := Lib.hid nD
        replace hbR := hbR.trans (hbE.mono hbR.size)
        clear nD hbE
        refine hK.out _ _ ⟨(hbR.cell (p := ⟨w.heap.size + 1, 0, none⟩) l_BSd).trans qd_0, (hbR.cell (p := ⟨w.heap.size + 1, 1, none⟩) l_BSd).trans qd_1, (hbR.cell (p := ⟨w.heap.size + 1, 2, none⟩) l_BSd).trans qd_2, (hbR.cell (p := ⟨w.heap.size + 1, 3, none⟩) l_BSd).trans qd_3, (hbR.cell (p := ⟨w.heap.size + 1, 4, none⟩) l_BSd).trans qd_4⟩ (fun hHeld => ?_)
        clear hK K
        refine norm_ (a' := ?_) ?_ ?_
        rotate_left
        · show Act.put _ (some 11) _ = _
          simp only [Act.put, List.setIfInBounds_toArray, List.set_cons_zero, List.set_cons_succ, i64_w, i32_w]
          rfl
        refine one_ (i := 1) (N := some 9) #[true, true, true, true, false, false, false, true, false] rfl rfl (by kernel_rfl) (by decide) (fun K hK => ?_)
        refine value_ (w1 := ?_) (v := ?_) (by rfl) rfl ?_ ?_
        rotate_left 2
        · go_simp
          constructor
          · rfl
          · rfl
        refine at_world (fun e3 he => ?_)
        have nD : e3.heap[e2.heap.size]? = some (.cells #[(.int .u8 0), (.int .u8 0), (.int .u8 0), (.int .u8 0), (.int .u8 0), (.int .u8 0), (.int .u8 0), (.int .u8 0)] 5 (0, 0)) := by rw [he]; exact heap_alloc_new _ _
        have hbE : Below e2.heap.size e2 e3 := by rw [he]; exact (Below.refl _ _).alloc (Nat.le_refl _) _
        clear he
        replace Dl := Lib.hid (blk_below Dl.out hbE)
        replace D11 := Lib.hid (blk_below D11.out hbE)
        have D9 := Lib.hid nD
        replace hbR := hbR.trans (hbE.mono hbR.size)
        clear nD hbE
        refine hK.out _ _ ⟨(hbR.cell (p := ⟨w.heap.size + 1, 0, none⟩) l_BSd).trans qd_0, (hbR.cell (p := ⟨w.heap.size + 1, 1, none⟩) l_BSd).trans qd_1, (hbR.cell (p := ⟨w.heap.size + 1, 2, none⟩) l_BSd).trans qd_2, (hbR.cell (p := ⟨w.heap.size + 1, 3, none⟩) l_BSd).trans qd_3, (hbR.cell (p := ⟨w.heap.size + 1, 4, none⟩) l_BSd).trans qd_4⟩ (fun hHeld => ?_)
        clear hK K
        refine norm_ (a' := ?_) ?_ ?_
        rotate_left
        · show Act.put _ (some 9) _ = _
          simp only [Act.put, List.setIfInBounds_toArray, List.set_cons_zero, List.set_cons_succ, i64_w, i32_w]
          rfl
        refine pure_ (i := 4) (N := some 12) (v := ?_) (a' := ?_) #[true, true, true, true, true, false, false, true, false] rfl rfl (by kernel_rfl) (fun _ _ _ h => h) (Or.inl ⟨by rfl, ?_⟩) ?_ ?_
        rotate_left
        · intro w'
          go_simp
          with_reducible rfl
        rotate_left
        · simp only [Act.put, List.setIfInBounds_toArray, List.set_cons_zero, List.set_cons_succ, i64_w, i32_w]
          rfl
        refine one_ (i := 5) (N := some 13) #[true, true, true, true, true, true, false, true, false] rfl rfl (by kernel_rfl) (by decide) (fun K hK => ?_)
        refine value_ (w1 := ?_) (v := ?_) (by rfl) rfl ?_ ?_
        rotate_left 2
        · go_simp
          constructor
          · rfl
          · rfl
        refine at_world (fun e4 he => ?_)
        have nD : e4.heap[e3.heap.size]? = some (.cells #[.int .i64 1, .int .i64 0, .int .i64 0, .slice none 0 0, .slice none 0 0, .int .i64 1, .int .i64 0, .int .i64 0, .slice (some ⟨e2.heap.size, 0, none⟩) 8 8, .slice (some ⟨e1.heap.size, 0, none⟩) 1 1] 25 (0, 0)) := by rw [he]; exact heap_alloc_new _ _
        have hbE : Below e3.heap.size e3 e4 := by rw [he]; exact (Below.refl _ _).alloc (Nat.le_refl _) _
        clear he
        replace Dl := Lib.hid (blk_below Dl.out hbE)
        replace D11 := Lib.hid (blk_below D11.out hbE)
        replace D9 := Lib.hid (blk_below D9.out hbE)
        have D13 := Lib.hid nD
        replace hbR := hbR.trans (hbE.mono hbR.size)
        clear nD hbE
        refine hK.out _ _ ⟨(hbR.cell (p := ⟨w.heap.size + 1, 0, none⟩) l_BSd).trans qd_0, (hbR.cell (p := ⟨w.heap.size + 1, 1, none⟩) l_BSd).trans qd_1, (hbR.cell (p := ⟨w.heap.size + 1, 2, none⟩) l_BSd).trans qd_2, (hbR.cell (p := ⟨w.heap.size + 1, 3, none⟩) l_BSd).trans qd_3, (hbR.cell (p := ⟨w.heap.size + 1, 4, none⟩) l_BSd).trans qd_4⟩ (fun hHeld => ?_)
        clear hK K
        refine norm_ (a' := ?_) ?_ ?_
        rotate_left
        · show Act.put _ (some 13) _ = _
          simp only [Act.put, List.setIfInBounds_toArray, List.set_cons_zero, List.set_cons_succ, i64_w, i32_w]
          rfl
        refine pure_ (i := 6) (N := some 14) (v := ?_) (a' := ?_) #[true, true, true, true, true, true, true, true, false] rfl rfl (by kernel_rfl) (fun _ _ _ h => h) (Or.inl ⟨by rfl, ?_⟩) ?_ ?_
        rotate_left
        · intro w'
          go_simp
          with_reducible rfl
        rotate_left
        · simp only [Act.put, List.setIfInBounds_toArray, List.set_cons_zero, List.set_cons_succ, i64_w, i32_w]
          rfl
        exact norm_ (by simp only [putAll, Act.put, List.setIfInBounds_toArray, List.set_cons_zero, List.set_cons_succ]) (hCont (e2.heap.size, e1.heap.size, e3.heap.size, wd.heap.size) _ ⟨⟨(hbR.cell (p := ⟨w.heap.size + 1, 0, none⟩) l_BSd).trans qd_0, (hbR.cell (p := ⟨w.heap.size + 1, 1, none⟩) l_BSd).trans qd_1, (hbR.cell (p := ⟨w.heap.size + 1, 2, none⟩) l_BSd).trans qd_2, (hbR.cell (p := ⟨w.heap.size + 1, 3, none⟩) l_BSd).trans qd_3, (hbR.cell (p := ⟨w.heap.size + 1, 4, none⟩) l_BSd).trans qd_4⟩, hbR, hgl, D9, D11, D13, Dl⟩)
  rintro ⟨g9, g11, g13, gl⟩ wj ⟨hS_, hbj, hgl, D9, D11, D13, Dl⟩
  dsimp only at D9 D11 D13 Dl hgl
  have hHeld : wj.cell? ⟨w.heap.size + 1, 0, none⟩ = some (.int .i64 1) ∧ wj.cell? ⟨w.heap.size + 1, 1, none⟩ = some (.int .i64 0) ∧ wj.cell? ⟨w.heap.size + 1, 2, none⟩ = some (.int .i64 0) ∧ wj.cell? ⟨w.heap.size + 1, 3, none⟩ = some (.slice none 0 0) ∧ wj.cell? ⟨w.heap.size + 1, 4, none⟩ = some (.slice (some ⟨w.heap.size, 0, none⟩) 1 1) := hS_
  clear hS_
  refine norm_ (a' := ?_) ?_ ?_
  rotate_left
  · simp only [putAll, Act.put, List.setIfInBounds_toArray, List.set_cons_zero, List.set_cons_succ]
    rfl
  refine last_ (i := 8) (N := none) #[true, true, true, true, true, true, true, true, true] rfl rfl (by kernel_rfl) (by decide) (fun K hK => ?_)
  have z0 : wj.cell? ⟨gl, 0, none⟩ = some (.int .i64 0) := (blk_cell Dl.out 0).trans rfl
  have z1 : wj.cell? ⟨gl, 1, none⟩ = some (.int .i64 0) := (blk_cell Dl.out 1).trans rfl
  have z2 : wj.cell? ⟨gl, 2, none⟩ = some (.int .i64 0) := (blk_cell Dl.out 2).trans rfl
  have z3 : wj.cell? ⟨gl, 3, none⟩ = some (.slice none 0 0) := (blk_cell Dl.out 3).trans rfl
  have z4 : wj.cell? ⟨gl, 4, none⟩ = some (.slice none 0 0) := (blk_cell Dl.out 4).trans rfl
  have y0 := blk_frozen Dl.out 0
  have y1 := blk_frozen Dl.out 1
  have y2 := blk_frozen Dl.out 2
  have y3 := blk_frozen Dl.out 3
  have y4 := blk_frozen Dl.out 4
  have lg := blk_lt Dl.out
  refine skip_ (w1 := ?_) (by rfl) rfl ?_ ?_
  rotate_left
  · go_simp
    rfl
  refine hK.out _ _ ?_
  clear hK K
  refine done_ (by kernel_rfl) ?_
  clear z0 z1 z2 z3 z4 y0 y1 y2 y3 y4 lg hHeld qd_0 qd_1 qd_2 qd_3 qd_4 hbR
  have n9 : g9 ≠ gl := by rintro rfl; have hh := D9.out.symm.trans Dl.out; simp at hh
  have n11 : g11 ≠ gl := by rintro rfl; have hh := D11.out.symm.trans Dl.out; simp at hh
  have n13 : g13 ≠ gl := by rintro rfl; have hh := D13.out.symm.trans Dl.out; simp at hh
  obtain ⟨wf, hwf⟩ : ∃ W, W = (((((wj.setCell ⟨gl, 0, none⟩ (.int .i64 2)).setCell ⟨gl, 1, none⟩ (.int .i64 7)).setCell ⟨gl, 2, none⟩ (.int .i64 2)).setCell ⟨gl, 3, none⟩ (.slice none 0 0)).setCell ⟨gl, 4, none⟩ (.slice (some ⟨g13, 0, none⟩) 2 2)) := ⟨_, rfl⟩
  rw [← hwf]
  have hb : Below wd.heap.size wd wf := by rw [hwf]; exact (((((hbj.setCell (p := ⟨gl, 0, none⟩) hgl _).setCell (p := ⟨gl, 1, none⟩) hgl _).setCell (p := ⟨gl, 2, none⟩) hgl _).setCell (p := ⟨gl, 3, none⟩) hgl _).setCell (p := ⟨gl, 4, none⟩) hgl _)
  have nL : wf.heap[gl]? = some (.cells #[.int .i64 2, .int .i64 7, .int .i64 2, .slice none 0 0, .slice (some ⟨g13, 0, none⟩) 2 2] 25 (0, 0)) := by rw [hwf]; exact (blk_put (blk_put (blk_put (blk_put (blk_put Dl.out 0 _ rfl) 1 _ rfl) 2 _ rfl) 3 _ rfl) 4 _ rfl)
  have m9 : wf.heap[g9]? = some (.cells #[(.int .u8 0), (.int .u8 0), (.int .u8 0), (.int .u8 0), (.int .u8 0), (.int .u8 0), (.int .u8 0), (.int .u8 0)] 5 (0, 0)) := by rw [hwf]; exact (Below.heap_setCell _ ⟨gl, 4, none⟩ _ _ n9).trans ((Below.heap_setCell _ ⟨gl, 3, none⟩ _ _ n9).trans ((Below.heap_setCell _ ⟨gl, 2, none⟩ _ _ n9).trans ((Below.heap_setCell _ ⟨gl, 1, none⟩ _ _ n9).trans ((Below.heap_setCell _ ⟨gl, 0, none⟩ _ _ n9).trans (D9.out)))))
  have m11 : wf.heap[g11]? = some (.cells #[.int .i64 1, .int .i64 0, .int .i64 0, .slice none 0 0, .slice (some ⟨w.heap.size, 0, none⟩) 1 1] 25 (0, 0)) := by rw [hwf]; exact (Below.heap_setCell _ ⟨gl, 4, none⟩ _ _ n11).trans ((Below.heap_setCell _ ⟨gl, 3, none⟩ _ _ n11).trans ((Below.heap_setCell _ ⟨gl, 2, none⟩ _ _ n11).trans ((Below.heap_setCell _ ⟨gl, 1, none⟩ _ _ n11).trans ((Below.heap_setCell _ ⟨gl, 0, none⟩ _ _ n11).trans (D11.out)))))
  have m13 : wf.heap[g13]? = some (.cells #[.int .i64 1, .int .i64 0, .int .i64 0, .slice none 0 0, .slice none 0 0, .int .i64 1, .int .i64 0, .int .i64 0, .slice (some ⟨g9, 0, none⟩) 8 8, .slice (some ⟨g11, 0, none⟩) 1 1] 25 (0, 0)) := by rw [hwf]; exact (Below.heap_setCell _ ⟨gl, 4, none⟩ _ _ n13).trans ((Below.heap_setCell _ ⟨gl, 3, none⟩ _ _ n13).trans ((Below.heap_setCell _ ⟨gl, 2, none⟩ _ _ n13).trans ((Below.heap_setCell _ ⟨gl, 1, none⟩ _ _ n13).trans ((Below.heap_setCell _ ⟨gl, 0, none⟩ _ _ n13).trans (D13.out)))))
  clear hwf n9 n11 n13 D9 D11 D13 Dl hbj l_BSd
  replace HT := Lib.hid (HT.out.below hb)
  replace HB := Lib.hid (below_step HB.out hb)
  replace B6 := Lib.hid (blk_below B6.out hb)
  replace BS := Lib.hid (blk_below BS.out hb)
  have BL := Lib.hid nL
  clear nL hb hgl
  have C1 : k25.C wf (some ⟨w.heap.size, 0, none⟩) 1 [z25] := C_node1 (K_nil wf 0 0 0) B6.out
  have KS : k25.K wf (⟨1, 0, 0, [], [z25]⟩ : S25) [.int .i64 1, .int .i64 0, .int .i64 0, .slice none 0 0, .slice (some ⟨w.heap.size, 0, none⟩) 1 1] := k25_mk wf (⟨1, 0, 0, [], [z25]⟩ : S25) (c3 := 0) (Nat.le_refl _) (Kd.C_nil _ _) (c4 := 1) (Nat.le_refl _) C1
  have C11 : k25.C wf (some ⟨g11, 0, none⟩) 1 [(⟨1, 0, 0, [], [z25]⟩ : S25)] := C_node1 KS m11
  have C9 := C_ints (xs := [0, 0, 0, 0, 0, 0, 0, 0]) (k := .u8) m9 (by decide)
  have K8 : k25.K wf (⟨1, 0, 0, [0, 0, 0, 0, 0, 0, 0, 0], [(⟨1, 0, 0, [], [z25]⟩ : S25)]⟩ : S25) [.int .i64 1, .int .i64 0, .int .i64 0, .slice (some ⟨g9, 0, none⟩) 8 8, .slice (some ⟨g11, 0, none⟩) 1 1] := k25_mk wf (⟨1, 0, 0, [0, 0, 0, 0, 0, 0, 0, 0], [(⟨1, 0, 0, [], [z25]⟩ : S25)]⟩ : S25) (c3 := 8) (Nat.le_refl _) C9 (c4 := 1) (Nat.le_refl _) C11
  have C13 : k25.C wf (some ⟨g13, 0, none⟩) 2 [(⟨1, 0, 0, [], []⟩ : S25), (⟨1, 0, 0, [0, 0, 0, 0, 0, 0, 0, 0], [(⟨1, 0, 0, [], [z25]⟩ : S25)]⟩ : S25)] := C_node2 (K_nil wf 1 0 0) K8 m13
  have HS4 := Lib.hid (C1)
  have H13 := Lib.hid (C13)
  clear C1 KS C11 C9 K8 C13 m9 m11 m13 B6
  have l_BL : gl < wf.heap.size := blk_lt BL.out
  have q_BL_0 : wf.cell? ⟨gl, 0, none⟩ = some (.int .i64 2) := (blk_cell BL.out 0).trans rfl
  have q_BL_1 : wf.cell? ⟨gl, 1, none⟩ = some (.int .i64 7) := (blk_cell BL.out 1).trans rfl
  have q_BL_2 : wf.cell? ⟨gl, 2, none⟩ = some (.int .i64 2) := (blk_cell BL.out 2).trans rfl
  have q_BL_3 : wf.cell? ⟨gl, 3, none⟩ = some (.slice none 0 0) := (blk_cell BL.out 3).trans rfl
  have q_BL_4 : wf.cell? ⟨gl, 4, none⟩ = some (.slice (some ⟨g13, 0, none⟩) 2 2) := (blk_cell BL.out 4).trans rfl
  go_upto_region 6 with fail
  clear l_BL q_BL_0 q_BL_1 q_BL_2 q_BL_3 q_BL_4
  refine wp_at (fun W6 hW => ?_)
  have hb : Below wf.heap.size wf W6 := by rw [hW]; repeat (first | exact Below.refl _ _ | refine Below.alloc ?_ (by first | exact Nat.le_refl _ | (simp <;> omega)) _)
  have nD7 : W6.heap[wf.heap.size]? = some (.cells #[.int .u8 7] 5 (0, 0)) := by rw [hW]; repeat (first | exact heap_alloc_new _ _ | exact blk_new _ _ _ (by simp) | refine blk_alloc ?_ _)
  have nBB : W6.heap[wf.heap.size + 1]? = some (.cells #[.int .i64 2, .int .i64 1, .int .i64 3, .slice (some ⟨wf.heap.size, 0, none⟩) 1 1, .slice none 0 0] 25 (0, 0)) := by rw [hW]; repeat (first | exact heap_alloc_new _ _ | exact blk_new _ _ _ (by simp) | refine blk_alloc ?_ _)
  have nBD : W6.heap[wf.heap.size + 1 + 1]? = some (.cells #[.int .i64 2, .int .i64 1, .int .i64 3, .slice (some ⟨wf.heap.size + 1 + 1 + 1, 0, none⟩) 1 1, .slice none 0 0] 25 (0, 0)) := by rw [hW]; repeat (first | exact heap_alloc_new _ _ | exact blk_new _ _ _ (by simp) | refine blk_alloc ?_ _)
  have nD8 : W6.heap[wf.heap.size + 1 + 1 + 1]? = some (.cells #[.int .u8 8] 5 (0, 0)) := by rw [hW]; repeat (first | exact heap_alloc_new _ _ | exact blk_new _ _ _ (by simp) | refine blk_alloc ?_ _)
  clear hW
  replace HT := Lib.hid (HT.out.below hb)
  replace HB := Lib.hid (below_step HB.out hb)
  replace HS4 := Lib.hid (Kd.C_below HS4.out hb)
  replace H13 := Lib.hid (Kd.C_below H13.out hb)
  replace BS := Lib.hid (blk_below BS.out hb)
  replace BL := Lib.hid (blk_below BL.out hb)
  clear hb
  have D7 := Lib.hid nD7
  clear nD7
  have BB := Lib.hid nBB
  clear nBB
  have BD := Lib.hid nBD
  clear nBD
  have D8 := Lib.hid nD8
  clear nD8
  have C7 := C_ints (xs := [7]) (k := .u8) D7.out (by decide)
  have C8 := C_ints (xs := [8]) (k := .u8) D8.out (by decide)
  have H7 := Lib.hid (C7)
  have H8 := Lib.hid (C8)
  clear C7 C8 D7 D8
  have l_BL : gl < W6.heap.size := blk_lt BL.out
  have q_BL_0 : W6.cell? ⟨gl, 0, none⟩ = some (.int .i64 2) := (blk_cell BL.out 0).trans rfl
  have q_BL_1 : W6.cell? ⟨gl, 1, none⟩ = some (.int .i64 7) := (blk_cell BL.out 1).trans rfl
  have q_BL_2 : W6.cell? ⟨gl, 2, none⟩ = some (.int .i64 2) := (blk_cell BL.out 2).trans rfl
  have q_BL_3 : W6.cell? ⟨gl, 3, none⟩ = some (.slice none 0 0) := (blk_cell BL.out 3).trans rfl
  have q_BL_4 : W6.cell? ⟨gl, 4, none⟩ = some (.slice (some ⟨g13, 0, none⟩) 2 2) := (blk_cell BL.out 4).trans rfl
  go_wp2_with fail
  clear l_BL q_BL_0 q_BL_1 q_BL_2 q_BL_3 q_BL_4
  refine calls_at (fun W8 hW => ?_)
  have hb : Below W6.heap.size W6 W8 := by rw [hW]; repeat (first | exact Below.refl _ _ | refine Below.alloc ?_ (by first | exact Nat.le_refl _ | (simp <;> omega)) _)
  have nBO : W8.heap[W6.heap.size]? = some (.cells #[.int .i64 2, .int .i64 7, .int .i64 2, .slice none 0 0, .slice (some ⟨W6.heap.size + 1, 0, none⟩) 2 2] 25 (0, 0)) := by rw [hW]; repeat (first | exact heap_alloc_new _ _ | exact blk_new _ _ _ (by simp) | refine blk_alloc ?_ _)
  have nDO : W8.heap[W6.heap.size + 1]? = some (.cells #[.int .i64 1, .int .i64 0, .int .i64 0, .slice none 0 0, .slice none 0 0, .int .i64 0, .int .i64 0, .int .i64 0, .slice none 0 0, .slice none 0 0] 25 (0, 0)) := by rw [hW]; repeat (first | exact heap_alloc_new _ _ | exact blk_new _ _ _ (by simp) | refine blk_alloc ?_ _)
  clear hW
  replace HT := Lib.hid (HT.out.below hb)
  replace HB := Lib.hid (below_step HB.out hb)
  replace HS4 := Lib.hid (Kd.C_below HS4.out hb)
  replace H13 := Lib.hid (Kd.C_below H13.out hb)
  replace H7 := Lib.hid (Kd.C_below H7.out hb)
  replace H8 := Lib.hid (Kd.C_below H8.out hb)
  replace BS := Lib.hid (blk_below BS.out hb)
  replace BL := Lib.hid (blk_below BL.out hb)
  replace BB := Lib.hid (blk_below BB.out hb)
  replace BD := Lib.hid (blk_below BD.out hb)
  clear hb
  have BO := Lib.hid nBO
  clear nBO
  have DO := Lib.hid nDO
  clear nDO
  have CO : k25.C W8 (some ⟨W6.heap.size + 1, 0, none⟩) 2 [exN, exZ] := C_node2 (K_nil W8 1 0 0) (K_nil W8 0 0 0) DO.out
  have HO := Lib.hid (CO)
  clear CO DO
  refine (node_Valid.calls 0 0 0 0 none 0 [] none 0 [] true _ (Kd.C_nil _ _) (Nat.le_refl _) (Kd.C_nil _ _) (Nat.le_refl _) fx1 HT.out).mono ?_
  rintro e w1 ⟨rfl, hb⟩
  replace HT := Lib.hid (HT.out.below hb)
  replace HB := Lib.hid (below_step HB.out hb)
  replace HS4 := Lib.hid (Kd.C_below HS4.out hb)
  replace H13 := Lib.hid (Kd.C_below H13.out hb)
  replace H7 := Lib.hid (Kd.C_below H7.out hb)
  replace H8 := Lib.hid (Kd.C_below H8.out hb)
  replace HO := Lib.hid (Kd.C_below HO.out hb)
  replace BS := Lib.hid (blk_below BS.out hb)
  replace BL := Lib.hid (blk_below BL.out hb)
  replace BB := Lib.hid (blk_below BB.out hb)
  replace BD := Lib.hid (blk_below BD.out hb)
  replace BO := Lib.hid (blk_below BO.out hb)
  clear hb
  have l_BS : w.heap.size + 1 < w1.heap.size := blk_lt BS.out
  have q_BS_0 : w1.cell? ⟨w.heap.size + 1, 0, none⟩ = some (.int .i64 1) := (blk_cell BS.out 0).trans rfl
  have q_BS_1 : w1.cell? ⟨w.heap.size + 1, 1, none⟩ = some (.int .i64 0) := (blk_cell BS.out 1).trans rfl
  have q_BS_2 : w1.cell? ⟨w.heap.size + 1, 2, none⟩ = some (.int .i64 0) := (blk_cell BS.out 2).trans rfl
  have q_BS_3 : w1.cell? ⟨w.heap.size + 1, 3, none⟩ = some (.slice none 0 0) := (blk_cell BS.out 3).trans rfl
  have q_BS_4 : w1.cell? ⟨w.heap.size + 1, 4, none⟩ = some (.slice (some ⟨w.heap.size, 0, none⟩) 1 1) := (blk_cell BS.out 4).trans rfl
  go_wp2_with fail
  clear l_BS q_BS_0 q_BS_1 q_BS_2 q_BS_3 q_BS_4
  refine (node_Valid.calls 0 1 0 0 none 0 [] _ 1 [z25] true _ (Kd.C_nil _ _) (Nat.le_refl _) HS4.out (Nat.le_refl _) fx2 HT.out).mono ?_
  rintro e w2 ⟨rfl, hb⟩
  replace HT := Lib.hid (HT.out.below hb)
  replace HB := Lib.hid (below_step HB.out hb)
  replace HS4 := Lib.hid (Kd.C_below HS4.out hb)
  replace H13 := Lib.hid (Kd.C_below H13.out hb)
  replace H7 := Lib.hid (Kd.C_below H7.out hb)
  replace H8 := Lib.hid (Kd.C_below H8.out hb)
  replace HO := Lib.hid (Kd.C_below HO.out hb)
  replace BS := Lib.hid (blk_below BS.out hb)
  replace BL := Lib.hid (blk_below BL.out hb)
  replace BB := Lib.hid (blk_below BB.out hb)
  replace BD := Lib.hid (blk_below BD.out hb)
  replace BO := Lib.hid (blk_below BO.out hb)
  clear hb
  have l_BL : gl < w2.heap.size := blk_lt BL.out
  have q_BL_0 : w2.cell? ⟨gl, 0, none⟩ = some (.int .i64 2) := (blk_cell BL.out 0).trans rfl
  have q_BL_1 : w2.cell? ⟨gl, 1, none⟩ = some (.int .i64 7) := (blk_cell BL.out 1).trans rfl
  have q_BL_2 : w2.cell? ⟨gl, 2, none⟩ = some (.int .i64 2) := (blk_cell BL.out 2).trans rfl
  have q_BL_3 : w2.cell? ⟨gl, 3, none⟩ = some (.slice none 0 0) := (blk_cell BL.out 3).trans rfl
  have q_BL_4 : w2.cell? ⟨gl, 4, none⟩ = some (.slice (some ⟨g13, 0, none⟩) 2 2) := (blk_cell BL.out 4).trans rfl
  go_wp2_with fail
  clear l_BL q_BL_0 q_BL_1 q_BL_2 q_BL_3 q_BL_4
  refine (node_Valid.calls 0 2 7 2 none 0 [] _ 2 [exN, exE] true _ (Kd.C_nil _ _) (Nat.le_refl _) H13.out (Nat.le_refl _) fx3 HT.out).mono ?_
  rintro e w3 ⟨rfl, hb⟩
  replace HT := Lib.hid (HT.out.below hb)
  replace HB := Lib.hid (below_step HB.out hb)
  replace HS4 := Lib.hid (Kd.C_below HS4.out hb)
  replace H13 := Lib.hid (Kd.C_below H13.out hb)
  replace H7 := Lib.hid (Kd.C_below H7.out hb)
  replace H8 := Lib.hid (Kd.C_below H8.out hb)
  replace HO := Lib.hid (Kd.C_below HO.out hb)
  replace BS := Lib.hid (blk_below BS.out hb)
  replace BL := Lib.hid (blk_below BL.out hb)
  replace BB := Lib.hid (blk_below BB.out hb)
  replace BD := Lib.hid (blk_below BD.out hb)
  replace BO := Lib.hid (blk_below BO.out hb)
  clear hb
  have l_BB : wf.heap.size + 1 < w3.heap.size := blk_lt BB.out
  have q_BB_0 : w3.cell? ⟨wf.heap.size + 1, 0, none⟩ = some (.int .i64 2) := (blk_cell BB.out 0).trans rfl
  have q_BB_1 : w3.cell? ⟨wf.heap.size + 1, 1, none⟩ = some (.int .i64 1) := (blk_cell BB.out 1).trans rfl
  have q_BB_2 : w3.cell? ⟨wf.heap.size + 1, 2, none⟩ = some (.int .i64 3) := (blk_cell BB.out 2).trans rfl
  have q_BB_3 : w3.cell? ⟨wf.heap.size + 1, 3, none⟩ = some (.slice (some ⟨wf.heap.size, 0, none⟩) 1 1) := (blk_cell BB.out 3).trans rfl
  have q_BB_4 : w3.cell? ⟨wf.heap.size + 1, 4, none⟩ = some (.slice none 0 0) := (blk_cell BB.out 4).trans rfl
  go_wp2_with fail
  clear l_BB q_BB_0 q_BB_1 q_BB_2 q_BB_3 q_BB_4
  refine (node_Valid.calls 0 2 1 3 _ 1 [7] none 0 [] true _ H7.out (Nat.le_refl _) (Kd.C_nil _ _) (Nat.le_refl _) fx4 HT.out).mono ?_
  rintro e w4 ⟨rfl, hb⟩
  replace HT := Lib.hid (HT.out.below hb)
  replace HB := Lib.hid (below_step HB.out hb)
  replace HS4 := Lib.hid (Kd.C_below HS4.out hb)
  replace H13 := Lib.hid (Kd.C_below H13.out hb)
  replace H7 := Lib.hid (Kd.C_below H7.out hb)
  replace H8 := Lib.hid (Kd.C_below H8.out hb)
  replace HO := Lib.hid (Kd.C_below HO.out hb)
  replace BS := Lib.hid (blk_below BS.out hb)
  replace BL := Lib.hid (blk_below BL.out hb)
  replace BB := Lib.hid (blk_below BB.out hb)
  replace BD := Lib.hid (blk_below BD.out hb)
  replace BO := Lib.hid (blk_below BO.out hb)
  clear hb
  have l_BD : wf.heap.size + 1 + 1 < w4.heap.size := blk_lt BD.out
  have q_BD_0 : w4.cell? ⟨wf.heap.size + 1 + 1, 0, none⟩ = some (.int .i64 2) := (blk_cell BD.out 0).trans rfl
  have q_BD_1 : w4.cell? ⟨wf.heap.size + 1 + 1, 1, none⟩ = some (.int .i64 1) := (blk_cell BD.out 1).trans rfl
  have q_BD_2 : w4.cell? ⟨wf.heap.size + 1 + 1, 2, none⟩ = some (.int .i64 3) := (blk_cell BD.out 2).trans rfl
  have q_BD_3 : w4.cell? ⟨wf.heap.size + 1 + 1, 3, none⟩ = some (.slice (some ⟨wf.heap.size + 1 + 1 + 1, 0, none⟩) 1 1) := (blk_cell BD.out 3).trans rfl
  have q_BD_4 : w4.cell? ⟨wf.heap.size + 1 + 1, 4, none⟩ = some (.slice none 0 0) := (blk_cell BD.out 4).trans rfl
  go_wp2_with fail
  clear l_BD q_BD_0 q_BD_1 q_BD_2 q_BD_3 q_BD_4
  refine (node_Valid.calls 0 2 1 3 _ 1 [8] none 0 [] false _ H8.out (Nat.le_refl _) (Kd.C_nil _ _) (Nat.le_refl _) fx5 HT.out).mono ?_
  rintro e w5 ⟨rfl, hb⟩
  replace HT := Lib.hid (HT.out.below hb)
  replace HB := Lib.hid (below_step HB.out hb)
  replace HS4 := Lib.hid (Kd.C_below HS4.out hb)
  replace H13 := Lib.hid (Kd.C_below H13.out hb)
  replace H7 := Lib.hid (Kd.C_below H7.out hb)
  replace H8 := Lib.hid (Kd.C_below H8.out hb)
  replace HO := Lib.hid (Kd.C_below HO.out hb)
  replace BS := Lib.hid (blk_below BS.out hb)
  replace BL := Lib.hid (blk_below BL.out hb)
  replace BB := Lib.hid (blk_below BB.out hb)
  replace BD := Lib.hid (blk_below BD.out hb)
  replace BO := Lib.hid (blk_below BO.out hb)
  clear hb
  have l_BO : W6.heap.size < w5.heap.size := blk_lt BO.out
  have q_BO_0 : w5.cell? ⟨W6.heap.size, 0, none⟩ = some (.int .i64 2) := (blk_cell BO.out 0).trans rfl
  have q_BO_1 : w5.cell? ⟨W6.heap.size, 1, none⟩ = some (.int .i64 7) := (blk_cell BO.out 1).trans rfl
  have q_BO_2 : w5.cell? ⟨W6.heap.size, 2, none⟩ = some (.int .i64 2) := (blk_cell BO.out 2).trans rfl
  have q_BO_3 : w5.cell? ⟨W6.heap.size, 3, none⟩ = some (.slice none 0 0) := (blk_cell BO.out 3).trans rfl
  have q_BO_4 : w5.cell? ⟨W6.heap.size, 4, none⟩ = some (.slice (some ⟨W6.heap.size + 1, 0, none⟩) 2 2) := (blk_cell BO.out 4).trans rfl
  go_wp2_with fail
  clear l_BO q_BO_0 q_BO_1 q_BO_2 q_BO_3 q_BO_4
  refine (node_Valid.calls 0 2 7 2 none 0 [] _ 2 [exN, exZ] false _ (Kd.C_nil _ _) (Nat.le_refl _) HO.out (Nat.le_refl _) fx6 HT.out).mono ?_
  rintro e w6 ⟨rfl, hb⟩
  replace HT := Lib.hid (HT.out.below hb)
  replace HB := Lib.hid (below_step HB.out hb)
  replace HS4 := Lib.hid (Kd.C_below HS4.out hb)
  replace H13 := Lib.hid (Kd.C_below H13.out hb)
  replace H7 := Lib.hid (Kd.C_below H7.out hb)
  replace H8 := Lib.hid (Kd.C_below H8.out hb)
  replace HO := Lib.hid (Kd.C_below HO.out hb)
  replace BS := Lib.hid (blk_below BS.out hb)
  replace BL := Lib.hid (blk_below BL.out hb)
  replace BB := Lib.hid (blk_below BB.out hb)
  replace BD := Lib.hid (blk_below BD.out hb)
  replace BO := Lib.hid (blk_below BO.out hb)
  clear hb
  go_wp2_with fail
  refine (node_Valid.calls 0 3 0 0 none 0 [] none 0 [] false _ (Kd.C_nil _ _) (Nat.le_refl _) (Kd.C_nil _ _) (Nat.le_refl _) fx7 HT.out).mono ?_
  rintro e w7 ⟨rfl, hb⟩
  replace HT := Lib.hid (HT.out.below hb)
  replace HB := Lib.hid (below_step HB.out hb)
  replace HS4 := Lib.hid (Kd.C_below HS4.out hb)
  replace H13 := Lib.hid (Kd.C_below H13.out hb)
  replace H7 := Lib.hid (Kd.C_below H7.out hb)
  replace H8 := Lib.hid (Kd.C_below H8.out hb)
  replace HO := Lib.hid (Kd.C_below HO.out hb)
  replace BS := Lib.hid (blk_below BS.out hb)
  replace BL := Lib.hid (blk_below BL.out hb)
  replace BB := Lib.hid (blk_below BB.out hb)
  replace BD := Lib.hid (blk_below BD.out hb)
  replace BO := Lib.hid (blk_below BO.out hb)
  clear hb
  go_wp2_with fail
  refine calls_at (fun W16 hW => ?_)
  have hb : Below w7.heap.size w7 W16 := by rw [hW]; repeat (first | exact Below.refl _ _ | refine Below.alloc ?_ (by first | exact Nat.le_refl _ | (simp <;> omega)) _)
  have nD4 : W16.heap[w7.heap.size]? = some (.cells #[.int .u8 0, .int .u8 0, .int .u8 0, .int .u8 0] 5 (0, 0)) := by rw [hW]; repeat (first | exact heap_alloc_new _ _ | exact blk_new _ _ _ (by simp) | refine blk_alloc ?_ _)
  clear hW
  replace HT := Lib.hid (HT.out.below hb)
  replace HB := Lib.hid (below_step HB.out hb)
  replace HS4 := Lib.hid (Kd.C_below HS4.out hb)
  replace H13 := Lib.hid (Kd.C_below H13.out hb)
  replace H7 := Lib.hid (Kd.C_below H7.out hb)
  replace H8 := Lib.hid (Kd.C_below H8.out hb)
  replace HO := Lib.hid (Kd.C_below HO.out hb)
  replace BS := Lib.hid (blk_below BS.out hb)
  replace BL := Lib.hid (blk_below BL.out hb)
  replace BB := Lib.hid (blk_below BB.out hb)
  replace BD := Lib.hid (blk_below BD.out hb)
  replace BO := Lib.hid (blk_below BO.out hb)
  clear hb
  have D4 := Lib.hid nD4
  clear nD4
  have C4 := C_ints (xs := [0, 0, 0, 0]) (k := .u8) D4.out (by decide)
  have H4 := Lib.hid (C4)
  clear C4 D4
  refine (node_Valid.calls 0 1 0 0 _ 4 [0, 0, 0, 0] none 0 [] false _ H4.out (Nat.le_refl _) (Kd.C_nil _ _) (Nat.le_refl _) fx8 HT.out).mono ?_
  rintro e w8 ⟨rfl, hb⟩
  replace HT := Lib.hid (HT.out.below hb)
  replace HB := Lib.hid (below_step HB.out hb)
  replace HS4 := Lib.hid (Kd.C_below HS4.out hb)
  replace H13 := Lib.hid (Kd.C_below H13.out hb)
  replace H7 := Lib.hid (Kd.C_below H7.out hb)
  replace H8 := Lib.hid (Kd.C_below H8.out hb)
  replace HO := Lib.hid (Kd.C_below HO.out hb)
  replace H4 := Lib.hid (Kd.C_below H4.out hb)
  replace BS := Lib.hid (blk_below BS.out hb)
  replace BL := Lib.hid (blk_below BL.out hb)
  replace BB := Lib.hid (blk_below BB.out hb)
  replace BD := Lib.hid (blk_below BD.out hb)
  replace BO := Lib.hid (blk_below BO.out hb)
  clear hb
  have l_BS : w.heap.size + 1 < w8.heap.size := blk_lt BS.out
  have q_BS_0 : w8.cell? ⟨w.heap.size + 1, 0, none⟩ = some (.int .i64 1) := (blk_cell BS.out 0).trans rfl
  have q_BS_1 : w8.cell? ⟨w.heap.size + 1, 1, none⟩ = some (.int .i64 0) := (blk_cell BS.out 1).trans rfl
  have q_BS_2 : w8.cell? ⟨w.heap.size + 1, 2, none⟩ = some (.int .i64 0) := (blk_cell BS.out 2).trans rfl
  have q_BS_3 : w8.cell? ⟨w.heap.size + 1, 3, none⟩ = some (.slice none 0 0) := (blk_cell BS.out 3).trans rfl
  have q_BS_4 : w8.cell? ⟨w.heap.size + 1, 4, none⟩ = some (.slice (some ⟨w.heap.size, 0, none⟩) 1 1) := (blk_cell BS.out 4).trans rfl
  go_wp2_with fail
  clear l_BS q_BS_0 q_BS_1 q_BS_2 q_BS_3 q_BS_4
  refine (node_Depth.calls 0 1 0 0 none 0 [] _ 1 [z25] 1 _ (Kd.C_nil _ _) (Nat.le_refl _) HS4.out (Nat.le_refl _) fx9).mono ?_
  rintro e w9 ⟨rfl, hb⟩
  replace HT := Lib.hid (HT.out.below hb)
  replace HB := Lib.hid (below_step HB.out hb)
  replace HS4 := Lib.hid (Kd.C_below HS4.out hb)
  replace H13 := Lib.hid (Kd.C_below H13.out hb)
  replace H7 := Lib.hid (Kd.C_below H7.out hb)
  replace H8 := Lib.hid (Kd.C_below H8.out hb)
  replace HO := Lib.hid (Kd.C_below HO.out hb)
  replace H4 := Lib.hid (Kd.C_below H4.out hb)
  replace BS := Lib.hid (blk_below BS.out hb)
  replace BL := Lib.hid (blk_below BL.out hb)
  replace BB := Lib.hid (blk_below BB.out hb)
  replace BD := Lib.hid (blk_below BD.out hb)
  replace BO := Lib.hid (blk_below BO.out hb)
  clear hb
  have l_BS : w.heap.size + 1 < w9.heap.size := blk_lt BS.out
  have q_BS_0 : w9.cell? ⟨w.heap.size + 1, 0, none⟩ = some (.int .i64 1) := (blk_cell BS.out 0).trans rfl
  have q_BS_1 : w9.cell? ⟨w.heap.size + 1, 1, none⟩ = some (.int .i64 0) := (blk_cell BS.out 1).trans rfl
  have q_BS_2 : w9.cell? ⟨w.heap.size + 1, 2, none⟩ = some (.int .i64 0) := (blk_cell BS.out 2).trans rfl
  have q_BS_3 : w9.cell? ⟨w.heap.size + 1, 3, none⟩ = some (.slice none 0 0) := (blk_cell BS.out 3).trans rfl
  have q_BS_4 : w9.cell? ⟨w.heap.size + 1, 4, none⟩ = some (.slice (some ⟨w.heap.size, 0, none⟩) 1 1) := (blk_cell BS.out 4).trans rfl
  go_wp2_with fail
  clear l_BS q_BS_0 q_BS_1 q_BS_2 q_BS_3 q_BS_4
  refine (node_Objects.calls 0 1 0 0 none 0 [] _ 1 [z25] 1 _ (Kd.C_nil _ _) (Nat.le_refl _) HS4.out (Nat.le_refl _) fx10).mono ?_
  rintro e w10 ⟨rfl, hb⟩
  replace HT := Lib.hid (HT.out.below hb)
  replace HB := Lib.hid (below_step HB.out hb)
  replace HS4 := Lib.hid (Kd.C_below HS4.out hb)
  replace H13 := Lib.hid (Kd.C_below H13.out hb)
  replace H7 := Lib.hid (Kd.C_below H7.out hb)
  replace H8 := Lib.hid (Kd.C_below H8.out hb)
  replace HO := Lib.hid (Kd.C_below HO.out hb)
  replace H4 := Lib.hid (Kd.C_below H4.out hb)
  replace BS := Lib.hid (blk_below BS.out hb)
  replace BL := Lib.hid (blk_below BL.out hb)
  replace BB := Lib.hid (blk_below BB.out hb)
  replace BD := Lib.hid (blk_below BD.out hb)
  replace BO := Lib.hid (blk_below BO.out hb)
  clear hb
  have l_BL : gl < w10.heap.size := blk_lt BL.out
  have q_BL_0 : w10.cell? ⟨gl, 0, none⟩ = some (.int .i64 2) := (blk_cell BL.out 0).trans rfl
  have q_BL_1 : w10.cell? ⟨gl, 1, none⟩ = some (.int .i64 7) := (blk_cell BL.out 1).trans rfl
  have q_BL_2 : w10.cell? ⟨gl, 2, none⟩ = some (.int .i64 2) := (blk_cell BL.out 2).trans rfl
  have q_BL_3 : w10.cell? ⟨gl, 3, none⟩ = some (.slice none 0 0) := (blk_cell BL.out 3).trans rfl
  have q_BL_4 : w10.cell? ⟨gl, 4, none⟩ = some (.slice (some ⟨g13, 0, none⟩) 2 2) := (blk_cell BL.out 4).trans rfl
  go_wp2_with fail
  clear l_BL q_BL_0 q_BL_1 q_BL_2 q_BL_3 q_BL_4
  refine (node_Depth.calls 0 2 7 2 none 0 [] _ 2 [exN, exE] 2 _ (Kd.C_nil _ _) (Nat.le_refl _) H13.out (Nat.le_refl _) fx11).mono ?_
  rintro e w11 ⟨rfl, hb⟩
  replace HT := Lib.hid (HT.out.below hb)
  replace HB := Lib.hid (below_step HB.out hb)
  replace HS4 := Lib.hid (Kd.C_below HS4.out hb)
  replace H13 := Lib.hid (Kd.C_below H13.out hb)
  replace H7 := Lib.hid (Kd.C_below H7.out hb)
  replace H8 := Lib.hid (Kd.C_below H8.out hb)
  replace HO := Lib.hid (Kd.C_below HO.out hb)
  replace H4 := Lib.hid (Kd.C_below H4.out hb)
  replace BS := Lib.hid (blk_below BS.out hb)
  replace BL := Lib.hid (blk_below BL.out hb)
  replace BB := Lib.hid (blk_below BB.out hb)
  replace BD := Lib.hid (blk_below BD.out hb)
  replace BO := Lib.hid (blk_below BO.out hb)
  clear hb
  have l_BL : gl < w11.heap.size := blk_lt BL.out
  have q_BL_0 : w11.cell? ⟨gl, 0, none⟩ = some (.int .i64 2) := (blk_cell BL.out 0).trans rfl
  have q_BL_1 : w11.cell? ⟨gl, 1, none⟩ = some (.int .i64 7) := (blk_cell BL.out 1).trans rfl
  have q_BL_2 : w11.cell? ⟨gl, 2, none⟩ = some (.int .i64 2) := (blk_cell BL.out 2).trans rfl
  have q_BL_3 : w11.cell? ⟨gl, 3, none⟩ = some (.slice none 0 0) := (blk_cell BL.out 3).trans rfl
  have q_BL_4 : w11.cell? ⟨gl, 4, none⟩ = some (.slice (some ⟨g13, 0, none⟩) 2 2) := (blk_cell BL.out 4).trans rfl
  go_wp2_with fail
  clear l_BL q_BL_0 q_BL_1 q_BL_2 q_BL_3 q_BL_4
  refine (node_Objects.calls 0 2 7 2 none 0 [] _ 2 [exN, exE] 2 _ (Kd.C_nil _ _) (Nat.le_refl _) H13.out (Nat.le_refl _) fx12).mono ?_
  rintro e w12 ⟨rfl, hb⟩
  replace HT := Lib.hid (HT.out.below hb)
  replace HB := Lib.hid (below_step HB.out hb)
  replace HS4 := Lib.hid (Kd.C_below HS4.out hb)
  replace H13 := Lib.hid (Kd.C_below H13.out hb)
  replace H7 := Lib.hid (Kd.C_below H7.out hb)
  replace H8 := Lib.hid (Kd.C_below H8.out hb)
  replace HO := Lib.hid (Kd.C_below HO.out hb)
  replace H4 := Lib.hid (Kd.C_below H4.out hb)
  replace BS := Lib.hid (blk_below BS.out hb)
  replace BL := Lib.hid (blk_below BL.out hb)
  replace BB := Lib.hid (blk_below BB.out hb)
  replace BD := Lib.hid (blk_below BD.out hb)
  replace BO := Lib.hid (blk_below BO.out hb)
  clear hb
  go_wp2_with fail
  refine (node_Depth.calls 0 0 0 0 none 0 [] none 0 [] 0 _ (Kd.C_nil _ _) (Nat.le_refl _) (Kd.C_nil _ _) (Nat.le_refl _) fx13).mono ?_
  rintro e w13 ⟨rfl, hb⟩
  replace HT := Lib.hid (HT.out.below hb)
  replace HB := Lib.hid (below_step HB.out hb)
  replace HS4 := Lib.hid (Kd.C_below HS4.out hb)
  replace H13 := Lib.hid (Kd.C_below H13.out hb)
  replace H7 := Lib.hid (Kd.C_below H7.out hb)
  replace H8 := Lib.hid (Kd.C_below H8.out hb)
  replace HO := Lib.hid (Kd.C_below HO.out hb)
  replace H4 := Lib.hid (Kd.C_below H4.out hb)
  replace BS := Lib.hid (blk_below BS.out hb)
  replace BL := Lib.hid (blk_below BL.out hb)
  replace BB := Lib.hid (blk_below BB.out hb)
  replace BD := Lib.hid (blk_below BD.out hb)
  replace BO := Lib.hid (blk_below BO.out hb)
  clear hb
  have l_BL : gl < w13.heap.size := blk_lt BL.out
  have q_BL_0 : w13.cell? ⟨gl, 0, none⟩ = some (.int .i64 2) := (blk_cell BL.out 0).trans rfl
  have q_BL_1 : w13.cell? ⟨gl, 1, none⟩ = some (.int .i64 7) := (blk_cell BL.out 1).trans rfl
  have q_BL_2 : w13.cell? ⟨gl, 2, none⟩ = some (.int .i64 2) := (blk_cell BL.out 2).trans rfl
  have q_BL_3 : w13.cell? ⟨gl, 3, none⟩ = some (.slice none 0 0) := (blk_cell BL.out 3).trans rfl
  have q_BL_4 : w13.cell? ⟨gl, 4, none⟩ = some (.slice (some ⟨g13, 0, none⟩) 2 2) := (blk_cell BL.out 4).trans rfl
  go_wp2_with fail
  clear l_BL q_BL_0 q_BL_1 q_BL_2 q_BL_3 q_BL_4
  refine (node_Equal.calls 0 2 7 2 none 0 [] _ 2 [exN, exE] 2 7 2 none 0 [] _ 2 [exN, exE] true _ (Kd.C_nil _ _) (Nat.le_refl _) H13.out (Nat.le_refl _) (Kd.C_nil _ _) (Nat.le_refl _) H13.out (Nat.le_refl _) fx14).mono ?_
  rintro e w14 ⟨rfl, hb⟩
  replace HT := Lib.hid (HT.out.below hb)
  replace HB := Lib.hid (below_step HB.out hb)
  replace HS4 := Lib.hid (Kd.C_below HS4.out hb)
  replace H13 := Lib.hid (Kd.C_below H13.out hb)
  replace H7 := Lib.hid (Kd.C_below H7.out hb)
  replace H8 := Lib.hid (Kd.C_below H8.out hb)
  replace HO := Lib.hid (Kd.C_below HO.out hb)
  replace H4 := Lib.hid (Kd.C_below H4.out hb)
  replace BS := Lib.hid (blk_below BS.out hb)
  replace BL := Lib.hid (blk_below BL.out hb)
  replace BB := Lib.hid (blk_below BB.out hb)
  replace BD := Lib.hid (blk_below BD.out hb)
  replace BO := Lib.hid (blk_below BO.out hb)
  clear hb
  have l_BL : gl < w14.heap.size := blk_lt BL.out
  have q_BL_0 : w14.cell? ⟨gl, 0, none⟩ = some (.int .i64 2) := (blk_cell BL.out 0).trans rfl
  have q_BL_1 : w14.cell? ⟨gl, 1, none⟩ = some (.int .i64 7) := (blk_cell BL.out 1).trans rfl
  have q_BL_2 : w14.cell? ⟨gl, 2, none⟩ = some (.int .i64 2) := (blk_cell BL.out 2).trans rfl
  have q_BL_3 : w14.cell? ⟨gl, 3, none⟩ = some (.slice none 0 0) := (blk_cell BL.out 3).trans rfl
  have q_BL_4 : w14.cell? ⟨gl, 4, none⟩ = some (.slice (some ⟨g13, 0, none⟩) 2 2) := (blk_cell BL.out 4).trans rfl
  have l_BB : wf.heap.size + 1 < w14.heap.size := blk_lt BB.out
  have q_BB_0 : w14.cell? ⟨wf.heap.size + 1, 0, none⟩ = some (.int .i64 2) := (blk_cell BB.out 0).trans rfl
  have q_BB_1 : w14.cell? ⟨wf.heap.size + 1, 1, none⟩ = some (.int .i64 1) := (blk_cell BB.out 1).trans rfl
  have q_BB_2 : w14.cell? ⟨wf.heap.size + 1, 2, none⟩ = some (.int .i64 3) := (blk_cell BB.out 2).trans rfl
  have q_BB_3 : w14.cell? ⟨wf.heap.size + 1, 3, none⟩ = some (.slice (some ⟨wf.heap.size, 0, none⟩) 1 1) := (blk_cell BB.out 3).trans rfl
  have q_BB_4 : w14.cell? ⟨wf.heap.size + 1, 4, none⟩ = some (.slice none 0 0) := (blk_cell BB.out 4).trans rfl
  go_wp2_with fail
  clear l_BL q_BL_0 q_BL_1 q_BL_2 q_BL_3 q_BL_4 l_BB q_BB_0 q_BB_1 q_BB_2 q_BB_3 q_BB_4
  refine (node_Equal.calls 0 2 7 2 none 0 [] _ 2 [exN, exE] 2 1 3 _ 1 [7] none 0 [] false _ (Kd.C_nil _ _) (Nat.le_refl _) H13.out (Nat.le_refl _) H7.out (Nat.le_refl _) (Kd.C_nil _ _) (Nat.le_refl _) fx15).mono ?_
  rintro e w15 ⟨rfl, hb⟩
  replace HT := Lib.hid (HT.out.below hb)
  replace HB := Lib.hid (below_step HB.out hb)
  replace HS4 := Lib.hid (Kd.C_below HS4.out hb)
  replace H13 := Lib.hid (Kd.C_below H13.out hb)
  replace H7 := Lib.hid (Kd.C_below H7.out hb)
  replace H8 := Lib.hid (Kd.C_below H8.out hb)
  replace HO := Lib.hid (Kd.C_below HO.out hb)
  replace H4 := Lib.hid (Kd.C_below H4.out hb)
  replace BS := Lib.hid (blk_below BS.out hb)
  replace BL := Lib.hid (blk_below BL.out hb)
  replace BB := Lib.hid (blk_below BB.out hb)
  replace BD := Lib.hid (blk_below BD.out hb)
  replace BO := Lib.hid (blk_below BO.out hb)
  clear hb
  have l_BB : wf.heap.size + 1 < w15.heap.size := blk_lt BB.out
  have q_BB_0 : w15.cell? ⟨wf.heap.size + 1, 0, none⟩ = some (.int .i64 2) := (blk_cell BB.out 0).trans rfl
  have q_BB_1 : w15.cell? ⟨wf.heap.size + 1, 1, none⟩ = some (.int .i64 1) := (blk_cell BB.out 1).trans rfl
  have q_BB_2 : w15.cell? ⟨wf.heap.size + 1, 2, none⟩ = some (.int .i64 3) := (blk_cell BB.out 2).trans rfl
  have q_BB_3 : w15.cell? ⟨wf.heap.size + 1, 3, none⟩ = some (.slice (some ⟨wf.heap.size, 0, none⟩) 1 1) := (blk_cell BB.out 3).trans rfl
  have q_BB_4 : w15.cell? ⟨wf.heap.size + 1, 4, none⟩ = some (.slice none 0 0) := (blk_cell BB.out 4).trans rfl
  have l_BD : wf.heap.size + 1 + 1 < w15.heap.size := blk_lt BD.out
  have q_BD_0 : w15.cell? ⟨wf.heap.size + 1 + 1, 0, none⟩ = some (.int .i64 2) := (blk_cell BD.out 0).trans rfl
  have q_BD_1 : w15.cell? ⟨wf.heap.size + 1 + 1, 1, none⟩ = some (.int .i64 1) := (blk_cell BD.out 1).trans rfl
  have q_BD_2 : w15.cell? ⟨wf.heap.size + 1 + 1, 2, none⟩ = some (.int .i64 3) := (blk_cell BD.out 2).trans rfl
  have q_BD_3 : w15.cell? ⟨wf.heap.size + 1 + 1, 3, none⟩ = some (.slice (some ⟨wf.heap.size + 1 + 1 + 1, 0, none⟩) 1 1) := (blk_cell BD.out 3).trans rfl
  have q_BD_4 : w15.cell? ⟨wf.heap.size + 1 + 1, 4, none⟩ = some (.slice none 0 0) := (blk_cell BD.out 4).trans rfl
  go_wp2_with fail
  clear l_BB q_BB_0 q_BB_1 q_BB_2 q_BB_3 q_BB_4 l_BD q_BD_0 q_BD_1 q_BD_2 q_BD_3 q_BD_4
  refine (node_Equal.calls 0 2 1 3 _ 1 [7] none 0 [] 2 1 3 _ 1 [8] none 0 [] false _ H7.out (Nat.le_refl _) (Kd.C_nil _ _) (Nat.le_refl _) H8.out (Nat.le_refl _) (Kd.C_nil _ _) (Nat.le_refl _) fx16).mono ?_
  rintro e w16 ⟨rfl, hb⟩
  replace HT := Lib.hid (HT.out.below hb)
  replace HB := Lib.hid (below_step HB.out hb)
  replace HS4 := Lib.hid (Kd.C_below HS4.out hb)
  replace H13 := Lib.hid (Kd.C_below H13.out hb)
  replace H7 := Lib.hid (Kd.C_below H7.out hb)
  replace H8 := Lib.hid (Kd.C_below H8.out hb)
  replace HO := Lib.hid (Kd.C_below HO.out hb)
  replace H4 := Lib.hid (Kd.C_below H4.out hb)
  replace BS := Lib.hid (blk_below BS.out hb)
  replace BL := Lib.hid (blk_below BL.out hb)
  replace BB := Lib.hid (blk_below BB.out hb)
  replace BD := Lib.hid (blk_below BD.out hb)
  replace BO := Lib.hid (blk_below BO.out hb)
  clear hb
  go_wp2
  go_ret
  exact ⟨rfl, HB.out⟩
end Go.Proofs.YtmbockhcmhghlaaDoor.Pr
end
section
namespace Go.Proofs.YtmbockhcmhghlaaDoor.Pr
open Go.RowKit Go.Proofs.YtmbockhcmhghlaaDoorW.PrintWords Go.Proofs.YtmbockhcmhghlaaDoorW.PrintLast Go.Proofs.YtmbockhcmhghlaaDoorW.PrintMore
set_option linter.unusedVariables false
set_option linter.unusedSimpArgs false
abbrev exs (x y : S25) : S25 := ⟨1, 0, 0, [], [x, y]⟩
abbrev exl (x y : S25) : S25 := ⟨2, 6, 2, [], [x, y]⟩
abbrev exc (x y : S25) : S25 := ⟨2, 7, 1, [], [exs x y]⟩
theorem exs_valid (x y : S25) (hx : tvalid x = true) (hy : tvalid y = true) : tvalid (exs x y) = true := by rw [tvalid_eq]; simp [tvalids, topV, hx, hy]
theorem exl_valid (x y : S25) (hx : tvalid x = true) (hy : tvalid y = true) : tvalid (exl x y) = true := by rw [tvalid_eq]; simp [tvalids, topV, hx, hy]
theorem exc_valid (x y : S25) (hx : tvalid x = true) (hy : tvalid y = true) : tvalid (exc x y) = true := by rw [tvalid_eq]; simp [tvalids, topV, exs_valid x y hx hy]
theorem ok_pair {a0 a1 a2 : Int} {x y : S25} (hx : okT x) (hy : okT y) : okT ⟨a0, a1, a2, [], [x, y]⟩ := ok_two hx hy
theorem ok_exc {x y : S25} (hx : okT x) (hy : okT y) : okT (exc x y) := AllT.mk (fun z hz => by cases hz) (fun z hz => by rw [List.mem_singleton.1 hz]; exact ok_pair hx hy)
theorem exs_size (x y : S25) (hx : tsize x ≤ 2000000) (hy : tsize y ≤ 2000000) : tsize (exs x y) ≤ 4611686018427387904 := by rw [tsize_eq]; simp only [tsizes, List.length_nil]; omega
theorem exl_size (x y : S25) (hx : tsize x ≤ 2000000) (hy : tsize y ≤ 2000000) : tsize (exl x y) ≤ 4611686018427387904 := by rw [tsize_eq]; simp only [tsizes, List.length_nil]; omega
theorem exc_size (x y : S25) (hx : tsize x ≤ 2000000) (hy : tsize y ≤ 2000000) : tsize (exc x y) ≤ 4611686018427387904 := by rw [tsize_eq]; simp only [tsizes, List.length_nil]; rw [tsize_eq]; simp only [tsizes, List.length_nil]; omega
theorem exc_targets (x y : S25) : ttargets (exc x y) = [x, y] := by unfold ttargets; rw [if_pos ⟨rfl, rfl⟩]; rfl
theorem exl_targets (x y : S25) : ttargets (exl x y) = [x, y] := by unfold ttargets; rw [if_neg (fun h => absurd h.2 (by simp))]
theorem exs_targets (x y : S25) : ttargets (exs x y) = [x, y] := by unfold ttargets; rw [if_neg (fun h => absurd h.1 (by simp))]
theorem ex_objs (x y : S25) (hx : tsize x ≤ 2000000) (hy : tsize y ≤ 2000000) (O O2 : Int) (h1 : (tobjs x : Int) = O) (h2 : (tobjs y : Int) = O2) : ((tobjs (exs x y) : Int) = wrap64 (wrap64 (1 + O) + O2)) ∧ ((tobjs (exl x y) : Int) = wrap64 (wrap64 (1 + O) + O2)) ∧ ((tobjs (exc x y) : Int) = wrap64 (wrap64 (1 + O) + O2)) := by
  have a1 := tobjs_size x
  have a2 := tobjs_size y
  rw [w64 (x := 1 + O) (by omega) (by omega), w64 (by omega) (by omega)]
  refine ⟨?_, ?_, ?_⟩
  · rw [tobjs_eq, if_neg (show ¬ (exs x y).f0 = 0 by simp), exs_targets]; simp only [tobjss]; omega
  · rw [tobjs_eq, if_neg (show ¬ (exl x y).f0 = 0 by simp), exl_targets]; simp only [tobjss]; omega
  · rw [tobjs_eq, if_neg (show ¬ (exc x y).f0 = 0 by simp), exc_targets]; simp only [tobjss]; omega
theorem ex_depth (x y : S25) (hx : tsize x ≤ 2000000) (hy : tsize y ≤ 2000000) (D D2 : Int) (h1 : (tdepth x : Int) = D) (h2 : (tdepth y : Int) = D2) : ((tdepth (exs x y) : Int) = wrap64 (1 + mx D D2)) ∧ ((tdepth (exl x y) : Int) = wrap64 (1 + mx D D2)) ∧ ((tdepth (exc x y) : Int) = wrap64 (1 + mx D D2)) := by
  have a1 := tobjs_size x
  have a2 := tobjs_size y
  have a3 := tdepth_objs x
  have a4 := tdepth_objs y
  have hm : mx D D2 = max D D2 := by unfold mx; split <;> omega
  rw [hm, w64 (by omega) (by omega)]
  refine ⟨?_, ?_, ?_⟩
  · rw [tdepth_eq, if_neg (show ¬ (exs x y).f0 = 0 by simp), exs_targets]; simp only [tdeeps]; omega
  · rw [tdepth_eq, if_neg (show ¬ (exl x y).f0 = 0 by simp), exl_targets]; simp only [tdeeps]; omega
  · rw [tdepth_eq, if_neg (show ¬ (exc x y).f0 = 0 by simp), exc_targets]; simp only [tdeeps]; omega
theorem dep_h {k : Nat} {a0 a1 a2 : Int} {l3 : List Int} {l4 : List S25} (r : Int) (hv : tvalid ⟨a0, a1, a2, l3, l4⟩ = true) (hs : tsize ⟨a0, a1, a2, l3, l4⟩ ≤ 4611686018427387904) (hr : (tdepth ⟨a0, a1, a2, l3, l4⟩ : Int) = r) : node_Depth.f k a0 a1 a2 l3 l4 = some r := by unfold node_Depth.f; rw [if_pos ⟨hv, hs⟩, hr]
theorem obj_h {k : Nat} {a0 a1 a2 : Int} {l3 : List Int} {l4 : List S25} (r : Int) (hv : tvalid ⟨a0, a1, a2, l3, l4⟩ = true) (hs : tsize ⟨a0, a1, a2, l3, l4⟩ ≤ 4611686018427387904) (hr : (tobjs ⟨a0, a1, a2, l3, l4⟩ : Int) = r) : node_Objects.f k a0 a1 a2 l3 l4 = some r := by unfold node_Objects.f; rw [if_pos ⟨hv, hs⟩, hr]
set_option maxRecDepth 100000 in
set_option maxHeartbeats 32000000 in
theorem depthlaw_calls (x0 x1 x2 : Int) (l3 : List Int) (l4 : List S25) (A3 : Option Addr) (c3 : Nat) (A4 : Option Addr) (c4 : Nat) (y0 y1 y2 : Int) (m3 : List Int) (m4 : List S25) (F3 : Option Addr) (f3 : Nat) (F4 : Option Addr) (f4 : Nat) (w : World) (HT0 : Ls.Tab w) (hok : okT ⟨x0, x1, x2, l3, l4⟩) (hs : tsize ⟨x0, x1, x2, l3, l4⟩ ≤ 2000000) (hok2 : okT ⟨y0, y1, y2, m3, m4⟩) (hs2 : tsize ⟨y0, y1, y2, m3, m4⟩ ≤ 2000000)
    (hr3 : Kd.C (Kd.int .u8) w A3 l3.length l3) (hc3 : l3.length ≤ c3) (hr4 : Kd.C k25 w A4 l4.length l4) (hc4 : l4.length ≤ c4)
    (hq3 : Kd.C (Kd.int .u8) w F3 m3.length m3) (hd3 : m3.length ≤ f3) (hq4 : Kd.C k25 w F4 m4.length m4) (hd4 : m4.length ≤ f4) :
    Calls Tryd.prog 5 #[.agg #[.int .i64 x0, .int .i64 x1, .int .i64 x2, .slice A3 l3.length c3, .slice A4 l4.length c4], .agg #[.int .i64 y0, .int .i64 y1, .int .i64 y2, .slice F3 m3.length f3, .slice F4 m4.length f4]] w fun e w' => e = .returned (.bool true) ∧ Below w.heap.size w w' := by
  obtain ⟨kfn, hf⟩ := (few_ev ⟨x0, x1, x2, l3, l4⟩ (by omega)).rounds
  obtain ⟨kvn, hv⟩ := (valid_ev ⟨x0, x1, x2, l3, l4⟩ hok (by omega)).rounds
  obtain ⟨bfn, efn⟩ : ∃ b, Hid (tfew ⟨x0, x1, x2, l3, l4⟩ = b) := ⟨_, rfl⟩
  obtain ⟨bvn, evn⟩ : ∃ b, Hid (tvalid ⟨x0, x1, x2, l3, l4⟩ = b) := ⟨_, rfl⟩
  rw [efn.out] at hf
  rw [evn.out] at hv
  have HFn := Lib.hid hf; have HVn := Lib.hid hv
  clear hf hv
  obtain ⟨kfm, hf⟩ := (few_ev ⟨y0, y1, y2, m3, m4⟩ (by omega)).rounds
  obtain ⟨kvm, hv⟩ := (valid_ev ⟨y0, y1, y2, m3, m4⟩ hok2 (by omega)).rounds
  obtain ⟨bfm, efm⟩ : ∃ b, Hid (tfew ⟨y0, y1, y2, m3, m4⟩ = b) := ⟨_, rfl⟩
  obtain ⟨bvm, evm⟩ : ∃ b, Hid (tvalid ⟨y0, y1, y2, m3, m4⟩ = b) := ⟨_, rfl⟩
  rw [efm.out] at hf
  rw [evm.out] at hv
  have HFm := Lib.hid hf; have HVm := Lib.hid hv
  clear hf hv
  have HR3 := Lib.hid (hr3)
  have HR4 := Lib.hid (hr4)
  have HQ3 := Lib.hid (hq3)
  have HQ4 := Lib.hid (hq4)
  have HB := Lib.hid (Below.refl w.heap.size w)
  have HT := Lib.hid HT0
  have HSZ := Lib.hid (And.intro hs hs2)
  clear HT0 hr3 hr4 hq3 hq4 hs hs2
  go_enter Tryd.func5, Tryd.ntmps5
  go_wp2_with fail
  refine calls_at (fun W0 hW => ?_)
  have hb : Below w.heap.size w W0 := by rw [hW]; repeat (first | exact Below.refl _ _ | refine Below.alloc ?_ (by first | exact Nat.le_refl _ | (simp <;> omega)) _)
  have nBN : W0.heap[w.heap.size]? = some (.cells #[.int .i64 x0, .int .i64 x1, .int .i64 x2, .slice A3 l3.length c3, .slice A4 l4.length c4] 25 (0, 0)) := by rw [hW]; repeat (first | exact heap_alloc_new _ _ | exact blk_new _ _ _ (by simp) | refine blk_alloc ?_ _)
  have nBM : W0.heap[w.heap.size + 1]? = some (.cells #[.int .i64 y0, .int .i64 y1, .int .i64 y2, .slice F3 m3.length f3, .slice F4 m4.length f4] 25 (0, 0)) := by rw [hW]; repeat (first | exact heap_alloc_new _ _ | exact blk_new _ _ _ (by simp) | refine blk_alloc ?_ _)
  clear hW
  replace HT := Lib.hid (HT.out.below hb)
  replace HR3 := Lib.hid (Kd.C_below HR3.out hb)
  replace HR4 := Lib.hid (Kd.C_below HR4.out hb)
  replace HQ3 := Lib.hid (Kd.C_below HQ3.out hb)
  replace HQ4 := Lib.hid (Kd.C_below HQ4.out hb)
  replace HB := Lib.hid (below_step HB.out hb)
  clear hb
  have BN := Lib.hid nBN
  clear nBN
  have BM := Lib.hid nBM
  clear nBM
  refine (capnplaw10_awake.calls true _ rfl HT.out).mono ?_
  rintro e w1 ⟨rfl, hb⟩
  replace HT := Lib.hid (HT.out.below hb)
  replace HR3 := Lib.hid (Kd.C_below HR3.out hb)
  replace HR4 := Lib.hid (Kd.C_below HR4.out hb)
  replace HQ3 := Lib.hid (Kd.C_below HQ3.out hb)
  replace HQ4 := Lib.hid (Kd.C_below HQ4.out hb)
  replace HB := Lib.hid (below_step HB.out hb)
  replace BN := Lib.hid (blk_below BN.out hb)
  replace BM := Lib.hid (blk_below BM.out hb)
  clear hb
  have l_BN : w.heap.size < w1.heap.size := blk_lt BN.out
  have q_BN_0 : w1.cell? ⟨w.heap.size, 0, none⟩ = some (.int .i64 x0) := (blk_cell BN.out 0).trans rfl
  have q_BN_1 : w1.cell? ⟨w.heap.size, 1, none⟩ = some (.int .i64 x1) := (blk_cell BN.out 1).trans rfl
  have q_BN_2 : w1.cell? ⟨w.heap.size, 2, none⟩ = some (.int .i64 x2) := (blk_cell BN.out 2).trans rfl
  have q_BN_3 : w1.cell? ⟨w.heap.size, 3, none⟩ = some (.slice A3 l3.length c3) := (blk_cell BN.out 3).trans rfl
  have q_BN_4 : w1.cell? ⟨w.heap.size, 4, none⟩ = some (.slice A4 l4.length c4) := (blk_cell BN.out 4).trans rfl
  go_wp2_with fail
  clear l_BN q_BN_0 q_BN_1 q_BN_2 q_BN_3 q_BN_4
  refine (capnpref10_Few.calls kfn x0 x1 x2 A3 c3 l3 A4 c4 l4 bfn _ HR3.out hc3 HR4.out hc4 HFn.out).mono ?_
  rintro e w2 ⟨rfl, hb⟩
  replace HT := Lib.hid (HT.out.below hb)
  replace HR3 := Lib.hid (Kd.C_below HR3.out hb)
  replace HR4 := Lib.hid (Kd.C_below HR4.out hb)
  replace HQ3 := Lib.hid (Kd.C_below HQ3.out hb)
  replace HQ4 := Lib.hid (Kd.C_below HQ4.out hb)
  replace HB := Lib.hid (below_step HB.out hb)
  replace BN := Lib.hid (blk_below BN.out hb)
  replace BM := Lib.hid (blk_below BM.out hb)
  clear hb
  cases bfn with
  | false =>
    go_wp2_with fail
    refine (capnplaw10_awake.calls true _ rfl HT.out).mono ?_
    rintro e w3 ⟨rfl, hb⟩
    replace HT := Lib.hid (HT.out.below hb)
    replace HR3 := Lib.hid (Kd.C_below HR3.out hb)
    replace HR4 := Lib.hid (Kd.C_below HR4.out hb)
    replace HQ3 := Lib.hid (Kd.C_below HQ3.out hb)
    replace HQ4 := Lib.hid (Kd.C_below HQ4.out hb)
    replace HB := Lib.hid (below_step HB.out hb)
    replace BN := Lib.hid (blk_below BN.out hb)
    replace BM := Lib.hid (blk_below BM.out hb)
    clear hb
    go_wp2
    go_ret
    exact ⟨rfl, HB.out⟩
  | true =>
    have l_BM : w.heap.size + 1 < w2.heap.size := blk_lt BM.out
    have q_BM_0 : w2.cell? ⟨w.heap.size + 1, 0, none⟩ = some (.int .i64 y0) := (blk_cell BM.out 0).trans rfl
    have q_BM_1 : w2.cell? ⟨w.heap.size + 1, 1, none⟩ = some (.int .i64 y1) := (blk_cell BM.out 1).trans rfl
    have q_BM_2 : w2.cell? ⟨w.heap.size + 1, 2, none⟩ = some (.int .i64 y2) := (blk_cell BM.out 2).trans rfl
    have q_BM_3 : w2.cell? ⟨w.heap.size + 1, 3, none⟩ = some (.slice F3 m3.length f3) := (blk_cell BM.out 3).trans rfl
    have q_BM_4 : w2.cell? ⟨w.heap.size + 1, 4, none⟩ = some (.slice F4 m4.length f4) := (blk_cell BM.out 4).trans rfl
    go_wp2_with fail
    clear l_BM q_BM_0 q_BM_1 q_BM_2 q_BM_3 q_BM_4
    refine (capnpref10_Few.calls kfm y0 y1 y2 F3 f3 m3 F4 f4 m4 bfm _ HQ3.out hd3 HQ4.out hd4 HFm.out).mono ?_
    rintro e w3 ⟨rfl, hb⟩
    replace HT := Lib.hid (HT.out.below hb)
    replace HR3 := Lib.hid (Kd.C_below HR3.out hb)
    replace HR4 := Lib.hid (Kd.C_below HR4.out hb)
    replace HQ3 := Lib.hid (Kd.C_below HQ3.out hb)
    replace HQ4 := Lib.hid (Kd.C_below HQ4.out hb)
    replace HB := Lib.hid (below_step HB.out hb)
    replace BN := Lib.hid (blk_below BN.out hb)
    replace BM := Lib.hid (blk_below BM.out hb)
    clear hb
    cases bfm with
    | false =>
      go_wp2_with fail
      refine (capnplaw10_awake.calls true _ rfl HT.out).mono ?_
      rintro e w4 ⟨rfl, hb⟩
      replace HT := Lib.hid (HT.out.below hb)
      replace HR3 := Lib.hid (Kd.C_below HR3.out hb)
      replace HR4 := Lib.hid (Kd.C_below HR4.out hb)
      replace HQ3 := Lib.hid (Kd.C_below HQ3.out hb)
      replace HQ4 := Lib.hid (Kd.C_below HQ4.out hb)
      replace HB := Lib.hid (below_step HB.out hb)
      replace BN := Lib.hid (blk_below BN.out hb)
      replace BM := Lib.hid (blk_below BM.out hb)
      clear hb
      go_wp2
      go_ret
      exact ⟨rfl, HB.out⟩
    | true =>
      have l_BN : w.heap.size < w3.heap.size := blk_lt BN.out
      have q_BN_0 : w3.cell? ⟨w.heap.size, 0, none⟩ = some (.int .i64 x0) := (blk_cell BN.out 0).trans rfl
      have q_BN_1 : w3.cell? ⟨w.heap.size, 1, none⟩ = some (.int .i64 x1) := (blk_cell BN.out 1).trans rfl
      have q_BN_2 : w3.cell? ⟨w.heap.size, 2, none⟩ = some (.int .i64 x2) := (blk_cell BN.out 2).trans rfl
      have q_BN_3 : w3.cell? ⟨w.heap.size, 3, none⟩ = some (.slice A3 l3.length c3) := (blk_cell BN.out 3).trans rfl
      have q_BN_4 : w3.cell? ⟨w.heap.size, 4, none⟩ = some (.slice A4 l4.length c4) := (blk_cell BN.out 4).trans rfl
      go_wp2_with fail
      clear l_BN q_BN_0 q_BN_1 q_BN_2 q_BN_3 q_BN_4
      refine (capnpref10_Valid.calls kvn x0 x1 x2 A3 c3 l3 A4 c4 l4 bvn _ HR3.out hc3 HR4.out hc4 HVn.out).mono ?_
      rintro e w4 ⟨rfl, hb⟩
      replace HT := Lib.hid (HT.out.below hb)
      replace HR3 := Lib.hid (Kd.C_below HR3.out hb)
      replace HR4 := Lib.hid (Kd.C_below HR4.out hb)
      replace HQ3 := Lib.hid (Kd.C_below HQ3.out hb)
      replace HQ4 := Lib.hid (Kd.C_below HQ4.out hb)
      replace HB := Lib.hid (below_step HB.out hb)
      replace BN := Lib.hid (blk_below BN.out hb)
      replace BM := Lib.hid (blk_below BM.out hb)
      clear hb
      cases bvn with
      | false =>
        go_wp2_with fail
        refine (capnplaw10_awake.calls true _ rfl HT.out).mono ?_
        rintro e w5 ⟨rfl, hb⟩
        replace HT := Lib.hid (HT.out.below hb)
        replace HR3 := Lib.hid (Kd.C_below HR3.out hb)
        replace HR4 := Lib.hid (Kd.C_below HR4.out hb)
        replace HQ3 := Lib.hid (Kd.C_below HQ3.out hb)
        replace HQ4 := Lib.hid (Kd.C_below HQ4.out hb)
        replace HB := Lib.hid (below_step HB.out hb)
        replace BN := Lib.hid (blk_below BN.out hb)
        replace BM := Lib.hid (blk_below BM.out hb)
        clear hb
        go_wp2
        go_ret
        exact ⟨rfl, HB.out⟩
      | true =>
        have l_BM : w.heap.size + 1 < w4.heap.size := blk_lt BM.out
        have q_BM_0 : w4.cell? ⟨w.heap.size + 1, 0, none⟩ = some (.int .i64 y0) := (blk_cell BM.out 0).trans rfl
        have q_BM_1 : w4.cell? ⟨w.heap.size + 1, 1, none⟩ = some (.int .i64 y1) := (blk_cell BM.out 1).trans rfl
        have q_BM_2 : w4.cell? ⟨w.heap.size + 1, 2, none⟩ = some (.int .i64 y2) := (blk_cell BM.out 2).trans rfl
        have q_BM_3 : w4.cell? ⟨w.heap.size + 1, 3, none⟩ = some (.slice F3 m3.length f3) := (blk_cell BM.out 3).trans rfl
        have q_BM_4 : w4.cell? ⟨w.heap.size + 1, 4, none⟩ = some (.slice F4 m4.length f4) := (blk_cell BM.out 4).trans rfl
        go_wp2_with fail
        clear l_BM q_BM_0 q_BM_1 q_BM_2 q_BM_3 q_BM_4
        refine (capnpref10_Valid.calls kvm y0 y1 y2 F3 f3 m3 F4 f4 m4 bvm _ HQ3.out hd3 HQ4.out hd4 HVm.out).mono ?_
        rintro e w5 ⟨rfl, hb⟩
        replace HT := Lib.hid (HT.out.below hb)
        replace HR3 := Lib.hid (Kd.C_below HR3.out hb)
        replace HR4 := Lib.hid (Kd.C_below HR4.out hb)
        replace HQ3 := Lib.hid (Kd.C_below HQ3.out hb)
        replace HQ4 := Lib.hid (Kd.C_below HQ4.out hb)
        replace HB := Lib.hid (below_step HB.out hb)
        replace BN := Lib.hid (blk_below BN.out hb)
        replace BM := Lib.hid (blk_below BM.out hb)
        clear hb
        cases bvm with
        | false =>
          go_wp2_with fail
          refine (capnplaw10_awake.calls true _ rfl HT.out).mono ?_
          rintro e w6 ⟨rfl, hb⟩
          replace HT := Lib.hid (HT.out.below hb)
          replace HR3 := Lib.hid (Kd.C_below HR3.out hb)
          replace HR4 := Lib.hid (Kd.C_below HR4.out hb)
          replace HQ3 := Lib.hid (Kd.C_below HQ3.out hb)
          replace HQ4 := Lib.hid (Kd.C_below HQ4.out hb)
          replace HB := Lib.hid (below_step HB.out hb)
          replace BN := Lib.hid (blk_below BN.out hb)
          replace BM := Lib.hid (blk_below BM.out hb)
          clear hb
          go_wp2
          go_ret
          exact ⟨rfl, HB.out⟩
        | true =>
          clear HFn HFm HVn HVm efn efm
          have hvn := evn.out; have hvm := evm.out; obtain ⟨hs, hs2⟩ := HSZ.out
          have hz := tobjs_eq ⟨x0, x1, x2, l3, l4⟩
          have hz2 := tdepth_eq ⟨x0, x1, x2, l3, l4⟩
          have hle := tdepth_objs ⟨x0, x1, x2, l3, l4⟩
          obtain ⟨D, hD⟩ : ∃ D : Int, (tdepth ⟨x0, x1, x2, l3, l4⟩ : Int) = D := ⟨_, rfl⟩
          obtain ⟨O, hO⟩ : ∃ D : Int, (tobjs ⟨x0, x1, x2, l3, l4⟩ : Int) = D := ⟨_, rfl⟩
          obtain ⟨D2, hD2⟩ : ∃ D : Int, (tdepth ⟨y0, y1, y2, m3, m4⟩ : Int) = D := ⟨_, rfl⟩
          obtain ⟨O2, hO2⟩ : ∃ D : Int, (tobjs ⟨y0, y1, y2, m3, m4⟩ : Int) = D := ⟨_, rfl⟩
          have HDA : Hid (node_Depth.f 0 x0 x1 x2 l3 l4 = some D) := Lib.hid (dep_h D hvn (by omega) hD)
          have HOA : Hid (node_Objects.f 0 x0 x1 x2 l3 l4 = some O) := Lib.hid (obj_h O hvn (by omega) hO)
          have HDB : Hid (node_Depth.f 0 y0 y1 y2 m3 m4 = some D2) := Lib.hid (dep_h D2 hvm (by omega) hD2)
          have HOB : Hid (node_Objects.f 0 y0 y1 y2 m3 m4 = some O2) := Lib.hid (obj_h O2 hvm (by omega) hO2)
          have HVS : Hid (node_Valid.f 0 1 0 0 [] [⟨x0, x1, x2, l3, l4⟩, ⟨y0, y1, y2, m3, m4⟩] = some true) := Lib.hid (val_f true (ok_pair hok hok2) (exs_valid _ _ hvn hvm))
          have HOS : Hid (node_Objects.f 0 1 0 0 [] [⟨x0, x1, x2, l3, l4⟩, ⟨y0, y1, y2, m3, m4⟩] = some (wrap64 (wrap64 (1 + O) + O2))) := Lib.hid (obj_h _ (exs_valid _ _ hvn hvm) (exs_size _ _ hs hs2) (ex_objs _ _ hs hs2 O O2 hO hO2).1)
          have HDS : Hid (node_Depth.f 0 1 0 0 [] [⟨x0, x1, x2, l3, l4⟩, ⟨y0, y1, y2, m3, m4⟩] = some (wrap64 (1 + mx D D2))) := Lib.hid (dep_h _ (exs_valid _ _ hvn hvm) (exs_size _ _ hs hs2) (ex_depth _ _ hs hs2 D D2 hD hD2).1)
          have HVL : Hid (node_Valid.f 0 2 6 2 [] [⟨x0, x1, x2, l3, l4⟩, ⟨y0, y1, y2, m3, m4⟩] = some true) := Lib.hid (val_f true (ok_pair hok hok2) (exl_valid _ _ hvn hvm))
          have HOL : Hid (node_Objects.f 0 2 6 2 [] [⟨x0, x1, x2, l3, l4⟩, ⟨y0, y1, y2, m3, m4⟩] = some (wrap64 (wrap64 (1 + O) + O2))) := Lib.hid (obj_h _ (exl_valid _ _ hvn hvm) (exl_size _ _ hs hs2) (ex_objs _ _ hs hs2 O O2 hO hO2).2.1)
          have HDL : Hid (node_Depth.f 0 2 6 2 [] [⟨x0, x1, x2, l3, l4⟩, ⟨y0, y1, y2, m3, m4⟩] = some (wrap64 (1 + mx D D2))) := Lib.hid (dep_h _ (exl_valid _ _ hvn hvm) (exl_size _ _ hs hs2) (ex_depth _ _ hs hs2 D D2 hD hD2).2.1)
          have HVC : Hid (node_Valid.f 0 2 7 1 [] [exs ⟨x0, x1, x2, l3, l4⟩ ⟨y0, y1, y2, m3, m4⟩] = some true) := Lib.hid (val_f true (ok_exc hok hok2) (exc_valid _ _ hvn hvm))
          have HOC : Hid (node_Objects.f 0 2 7 1 [] [exs ⟨x0, x1, x2, l3, l4⟩ ⟨y0, y1, y2, m3, m4⟩] = some (wrap64 (wrap64 (1 + O) + O2))) := Lib.hid (obj_h _ (exc_valid _ _ hvn hvm) (exc_size _ _ hs hs2) (ex_objs _ _ hs hs2 O O2 hO hO2).2.2)
          have HDC : Hid (node_Depth.f 0 2 7 1 [] [exs ⟨x0, x1, x2, l3, l4⟩ ⟨y0, y1, y2, m3, m4⟩] = some (wrap64 (1 + mx D D2))) := Lib.hid (dep_h _ (exc_valid _ _ hvn hvm) (exc_size _ _ hs hs2) (ex_depth _ _ hs hs2 D D2 hD hD2).2.2)
          have HLE : Hid (D ≤ O) := Lib.hid (by omega)
          have HZY : Hid (x0 = 0 → D = 0 ∧ O = 0) := Lib.hid (fun h => by
            simp only at hz hz2
            rw [if_pos h] at hz hz2
            exact ⟨by omega, by omega⟩)
          have HZN : Hid (¬ x0 = 0 → D ≠ 0 ∧ O ≠ 0) := Lib.hid (fun h => by
            simp only at hz hz2
            rw [if_neg h] at hz hz2
            exact ⟨by omega, by omega⟩)
          clear hz hz2 hle hD hO hD2 hO2 hvn hvm hs hs2 evn evm HSZ hok hok2
          have l_BN : w.heap.size < w5.heap.size := blk_lt BN.out
          have q_BN_0 : w5.cell? ⟨w.heap.size, 0, none⟩ = some (.int .i64 x0) := (blk_cell BN.out 0).trans rfl
          have q_BN_1 : w5.cell? ⟨w.heap.size, 1, none⟩ = some (.int .i64 x1) := (blk_cell BN.out 1).trans rfl
          have q_BN_2 : w5.cell? ⟨w.heap.size, 2, none⟩ = some (.int .i64 x2) := (blk_cell BN.out 2).trans rfl
          have q_BN_3 : w5.cell? ⟨w.heap.size, 3, none⟩ = some (.slice A3 l3.length c3) := (blk_cell BN.out 3).trans rfl
          have q_BN_4 : w5.cell? ⟨w.heap.size, 4, none⟩ = some (.slice A4 l4.length c4) := (blk_cell BN.out 4).trans rfl
          go_wp2_with fail
          clear l_BN q_BN_0 q_BN_1 q_BN_2 q_BN_3 q_BN_4
          refine (node_Depth.calls 0 x0 x1 x2 A3 c3 l3 A4 c4 l4 D _ HR3.out hc3 HR4.out hc4 HDA.out).mono ?_
          rintro e w6 ⟨rfl, hb⟩
          replace HT := Lib.hid (HT.out.below hb)
          replace HR3 := Lib.hid (Kd.C_below HR3.out hb)
          replace HR4 := Lib.hid (Kd.C_below HR4.out hb)
          replace HQ3 := Lib.hid (Kd.C_below HQ3.out hb)
          replace HQ4 := Lib.hid (Kd.C_below HQ4.out hb)
          replace HB := Lib.hid (below_step HB.out hb)
          replace BN := Lib.hid (blk_below BN.out hb)
          replace BM := Lib.hid (blk_below BM.out hb)
          clear hb
          have l_BN : w.heap.size < w6.heap.size := blk_lt BN.out
          have q_BN_0 : w6.cell? ⟨w.heap.size, 0, none⟩ = some (.int .i64 x0) := (blk_cell BN.out 0).trans rfl
          have q_BN_1 : w6.cell? ⟨w.heap.size, 1, none⟩ = some (.int .i64 x1) := (blk_cell BN.out 1).trans rfl
          have q_BN_2 : w6.cell? ⟨w.heap.size, 2, none⟩ = some (.int .i64 x2) := (blk_cell BN.out 2).trans rfl
          have q_BN_3 : w6.cell? ⟨w.heap.size, 3, none⟩ = some (.slice A3 l3.length c3) := (blk_cell BN.out 3).trans rfl
          have q_BN_4 : w6.cell? ⟨w.heap.size, 4, none⟩ = some (.slice A4 l4.length c4) := (blk_cell BN.out 4).trans rfl
          go_wp2_with fail
          clear l_BN q_BN_0 q_BN_1 q_BN_2 q_BN_3 q_BN_4
          refine (node_Objects.calls 0 x0 x1 x2 A3 c3 l3 A4 c4 l4 O _ HR3.out hc3 HR4.out hc4 HOA.out).mono ?_
          rintro e w7 ⟨rfl, hb⟩
          replace HT := Lib.hid (HT.out.below hb)
          replace HR3 := Lib.hid (Kd.C_below HR3.out hb)
          replace HR4 := Lib.hid (Kd.C_below HR4.out hb)
          replace HQ3 := Lib.hid (Kd.C_below HQ3.out hb)
          replace HQ4 := Lib.hid (Kd.C_below HQ4.out hb)
          replace HB := Lib.hid (below_step HB.out hb)
          replace BN := Lib.hid (blk_below BN.out hb)
          replace BM := Lib.hid (blk_below BM.out hb)
          clear hb
          have hle := HLE.out
          have hd_ : decide (O < D) = false := by simp; omega
          rcases Classical.em (x0 = 0) with e | e
          · obtain ⟨hd0, ho0⟩ := HZY.out e
            have hb1_ : (D == 0) = true := beq_iff_eq.2 hd0
            have hb2_ : (O == 0) = true := beq_iff_eq.2 ho0
            have hb3_ : (x0 == 0) = true := beq_iff_eq.2 e
            clear hd0 ho0 e HZY HZN HLE
            have l_BN : w.heap.size < w7.heap.size := blk_lt BN.out
            have q_BN_0 : w7.cell? ⟨w.heap.size, 0, none⟩ = some (.int .i64 x0) := (blk_cell BN.out 0).trans rfl
            have q_BN_1 : w7.cell? ⟨w.heap.size, 1, none⟩ = some (.int .i64 x1) := (blk_cell BN.out 1).trans rfl
            have q_BN_2 : w7.cell? ⟨w.heap.size, 2, none⟩ = some (.int .i64 x2) := (blk_cell BN.out 2).trans rfl
            have q_BN_3 : w7.cell? ⟨w.heap.size, 3, none⟩ = some (.slice A3 l3.length c3) := (blk_cell BN.out 3).trans rfl
            have q_BN_4 : w7.cell? ⟨w.heap.size, 4, none⟩ = some (.slice A4 l4.length c4) := (blk_cell BN.out 4).trans rfl
            have l_BM : w.heap.size + 1 < w7.heap.size := blk_lt BM.out
            have q_BM_0 : w7.cell? ⟨w.heap.size + 1, 0, none⟩ = some (.int .i64 y0) := (blk_cell BM.out 0).trans rfl
            have q_BM_1 : w7.cell? ⟨w.heap.size + 1, 1, none⟩ = some (.int .i64 y1) := (blk_cell BM.out 1).trans rfl
            have q_BM_2 : w7.cell? ⟨w.heap.size + 1, 2, none⟩ = some (.int .i64 y2) := (blk_cell BM.out 2).trans rfl
            have q_BM_3 : w7.cell? ⟨w.heap.size + 1, 3, none⟩ = some (.slice F3 m3.length f3) := (blk_cell BM.out 3).trans rfl
            have q_BM_4 : w7.cell? ⟨w.heap.size + 1, 4, none⟩ = some (.slice F4 m4.length f4) := (blk_cell BM.out 4).trans rfl
            go_upto_region 10 with fail
            clear l_BN q_BN_0 q_BN_1 q_BN_2 q_BN_3 q_BN_4 l_BM q_BM_0 q_BM_1 q_BM_2 q_BM_3 q_BM_4
            clear hd_ hb1_ hb2_ hb3_ hle
            refine wp_at (fun W9 hW => ?_)
            have hb : Below w7.heap.size w7 W9 := by rw [hW]; repeat (first | exact Below.refl _ _ | refine Below.alloc ?_ (by first | exact Nat.le_refl _ | (simp <;> omega)) _)
            have nR1 : W9.heap[w7.heap.size]? = some (.cells #[.int .i64 x0, .int .i64 x1, .int .i64 x2, .slice A3 l3.length c3, .slice A4 l4.length c4, .int .i64 y0, .int .i64 y1, .int .i64 y2, .slice F3 m3.length f3, .slice F4 m4.length f4] 25 (0, 0)) := by rw [hW]; exact blk_alloc (blk_alloc (blk_alloc (blk_alloc (blk_alloc (heap_alloc_new _ _) _) _) _) _) _
            have nBS : W9.heap[w7.heap.size + 1]? = some (.cells #[.int .i64 1, .int .i64 0, .int .i64 0, .slice none 0 0, .slice (some ⟨w7.heap.size, 0, none⟩) 2 2] 25 (0, 0)) := by rw [hW]; exact blk_alloc (blk_alloc (blk_alloc (blk_alloc (blk_new _ _ _ (by simp)) _) _) _) _
            have nR2 : W9.heap[w7.heap.size + 1 + 1]? = some (.cells #[.int .i64 x0, .int .i64 x1, .int .i64 x2, .slice A3 l3.length c3, .slice A4 l4.length c4, .int .i64 y0, .int .i64 y1, .int .i64 y2, .slice F3 m3.length f3, .slice F4 m4.length f4] 25 (0, 0)) := by rw [hW]; exact blk_alloc (blk_alloc (blk_alloc (blk_new _ _ _ (by simp)) _) _) _
            have nBL : W9.heap[w7.heap.size + 1 + 1 + 1]? = some (.cells #[.int .i64 2, .int .i64 6, .int .i64 2, .slice none 0 0, .slice (some ⟨w7.heap.size + 1 + 1, 0, none⟩) 2 2] 25 (0, 0)) := by rw [hW]; exact blk_alloc (blk_alloc (blk_new _ _ _ (by simp)) _) _
            have nR3 : W9.heap[w7.heap.size + 1 + 1 + 1 + 1]? = some (.cells #[.int .i64 1, .int .i64 0, .int .i64 0, .slice none 0 0, .slice (some ⟨w7.heap.size, 0, none⟩) 2 2] 25 (0, 0)) := by rw [hW]; exact blk_alloc (blk_new _ _ _ (by simp)) _
            have nBC : W9.heap[w7.heap.size + 1 + 1 + 1 + 1 + 1]? = some (.cells #[.int .i64 2, .int .i64 7, .int .i64 1, .slice none 0 0, .slice (some ⟨w7.heap.size + 1 + 1 + 1 + 1, 0, none⟩) 1 1] 25 (0, 0)) := by rw [hW]; exact blk_new _ _ _ (by simp)
            clear hW
            replace HT := Lib.hid (HT.out.below hb)
            replace HR3 := Lib.hid (Kd.C_below HR3.out hb)
            replace HR4 := Lib.hid (Kd.C_below HR4.out hb)
            replace HQ3 := Lib.hid (Kd.C_below HQ3.out hb)
            replace HQ4 := Lib.hid (Kd.C_below HQ4.out hb)
            replace HB := Lib.hid (below_step HB.out hb)
            replace BN := Lib.hid (blk_below BN.out hb)
            replace BM := Lib.hid (blk_below BM.out hb)
            clear hb
            have R1 := Lib.hid nR1
            clear nR1
            have BS := Lib.hid nBS
            clear nBS
            have R2 := Lib.hid nR2
            clear nR2
            have BL := Lib.hid nBL
            clear nBL
            have R3 := Lib.hid nR3
            clear nR3
            have BC := Lib.hid nBC
            clear nBC
            have C1 : k25.C W9 (some ⟨w7.heap.size, 0, none⟩) 2 [⟨x0, x1, x2, l3, l4⟩, ⟨y0, y1, y2, m3, m4⟩] := C_node2 (k25_mk W9 ⟨x0, x1, x2, l3, l4⟩ hc3 HR3.out hc4 HR4.out) (k25_mk W9 ⟨y0, y1, y2, m3, m4⟩ hd3 HQ3.out hd4 HQ4.out) R1.out
            have C2 : k25.C W9 (some ⟨w7.heap.size + 1 + 1, 0, none⟩) 2 [⟨x0, x1, x2, l3, l4⟩, ⟨y0, y1, y2, m3, m4⟩] := C_node2 (k25_mk W9 ⟨x0, x1, x2, l3, l4⟩ hc3 HR3.out hc4 HR4.out) (k25_mk W9 ⟨y0, y1, y2, m3, m4⟩ hd3 HQ3.out hd4 HQ4.out) R2.out
            have KS : k25.K W9 (exs ⟨x0, x1, x2, l3, l4⟩ ⟨y0, y1, y2, m3, m4⟩) [.int .i64 1, .int .i64 0, .int .i64 0, .slice none 0 0, .slice (some ⟨w7.heap.size, 0, none⟩) 2 2] := k25_mk W9 (exs ⟨x0, x1, x2, l3, l4⟩ ⟨y0, y1, y2, m3, m4⟩) (c3 := 0) (Nat.le_refl _) (Kd.C_nil _ _) (c4 := 2) (Nat.le_refl _) C1
            have C3 : k25.C W9 (some ⟨w7.heap.size + 1 + 1 + 1 + 1, 0, none⟩) 1 [(exs ⟨x0, x1, x2, l3, l4⟩ ⟨y0, y1, y2, m3, m4⟩)] := C_node1 KS R3.out
            have HC1 := Lib.hid (C1)
            have HC2 := Lib.hid (C2)
            have HC3 := Lib.hid (C3)
            clear C1 C2 C3 KS R1 R2 R3
            have l_BM : w.heap.size + 1 < W9.heap.size := blk_lt BM.out
            have q_BM_0 : W9.cell? ⟨w.heap.size + 1, 0, none⟩ = some (.int .i64 y0) := (blk_cell BM.out 0).trans rfl
            have q_BM_1 : W9.cell? ⟨w.heap.size + 1, 1, none⟩ = some (.int .i64 y1) := (blk_cell BM.out 1).trans rfl
            have q_BM_2 : W9.cell? ⟨w.heap.size + 1, 2, none⟩ = some (.int .i64 y2) := (blk_cell BM.out 2).trans rfl
            have q_BM_3 : W9.cell? ⟨w.heap.size + 1, 3, none⟩ = some (.slice F3 m3.length f3) := (blk_cell BM.out 3).trans rfl
            have q_BM_4 : W9.cell? ⟨w.heap.size + 1, 4, none⟩ = some (.slice F4 m4.length f4) := (blk_cell BM.out 4).trans rfl
            go_wp2_with fail
            clear l_BM q_BM_0 q_BM_1 q_BM_2 q_BM_3 q_BM_4
            refine (node_Objects.calls 0 y0 y1 y2 F3 f3 m3 F4 f4 m4 O2 _ HQ3.out hd3 HQ4.out hd4 HOB.out).mono ?_
            rintro e w8 ⟨rfl, hb⟩
            replace HT := Lib.hid (HT.out.below hb)
            replace HR3 := Lib.hid (Kd.C_below HR3.out hb)
            replace HR4 := Lib.hid (Kd.C_below HR4.out hb)
            replace HQ3 := Lib.hid (Kd.C_below HQ3.out hb)
            replace HQ4 := Lib.hid (Kd.C_below HQ4.out hb)
            replace HB := Lib.hid (below_step HB.out hb)
            replace HC1 := Lib.hid (Kd.C_below HC1.out hb)
            replace HC2 := Lib.hid (Kd.C_below HC2.out hb)
            replace HC3 := Lib.hid (Kd.C_below HC3.out hb)
            replace BN := Lib.hid (blk_below BN.out hb)
            replace BM := Lib.hid (blk_below BM.out hb)
            replace BS := Lib.hid (blk_below BS.out hb)
            replace BL := Lib.hid (blk_below BL.out hb)
            replace BC := Lib.hid (blk_below BC.out hb)
            clear hb
            have l_BM : w.heap.size + 1 < w8.heap.size := blk_lt BM.out
            have q_BM_0 : w8.cell? ⟨w.heap.size + 1, 0, none⟩ = some (.int .i64 y0) := (blk_cell BM.out 0).trans rfl
            have q_BM_1 : w8.cell? ⟨w.heap.size + 1, 1, none⟩ = some (.int .i64 y1) := (blk_cell BM.out 1).trans rfl
            have q_BM_2 : w8.cell? ⟨w.heap.size + 1, 2, none⟩ = some (.int .i64 y2) := (blk_cell BM.out 2).trans rfl
            have q_BM_3 : w8.cell? ⟨w.heap.size + 1, 3, none⟩ = some (.slice F3 m3.length f3) := (blk_cell BM.out 3).trans rfl
            have q_BM_4 : w8.cell? ⟨w.heap.size + 1, 4, none⟩ = some (.slice F4 m4.length f4) := (blk_cell BM.out 4).trans rfl
            go_wp2_with fail
            clear l_BM q_BM_0 q_BM_1 q_BM_2 q_BM_3 q_BM_4
            refine (node_Depth.calls 0 y0 y1 y2 F3 f3 m3 F4 f4 m4 D2 _ HQ3.out hd3 HQ4.out hd4 HDB.out).mono ?_
            rintro e w9 ⟨rfl, hb⟩
            replace HT := Lib.hid (HT.out.below hb)
            replace HR3 := Lib.hid (Kd.C_below HR3.out hb)
            replace HR4 := Lib.hid (Kd.C_below HR4.out hb)
            replace HQ3 := Lib.hid (Kd.C_below HQ3.out hb)
            replace HQ4 := Lib.hid (Kd.C_below HQ4.out hb)
            replace HB := Lib.hid (below_step HB.out hb)
            replace HC1 := Lib.hid (Kd.C_below HC1.out hb)
            replace HC2 := Lib.hid (Kd.C_below HC2.out hb)
            replace HC3 := Lib.hid (Kd.C_below HC3.out hb)
            replace BN := Lib.hid (blk_below BN.out hb)
            replace BM := Lib.hid (blk_below BM.out hb)
            replace BS := Lib.hid (blk_below BS.out hb)
            replace BL := Lib.hid (blk_below BL.out hb)
            replace BC := Lib.hid (blk_below BC.out hb)
            clear hb
            rcases Int.lt_or_le D D2 with hm | hm
            · have em : mx D D2 = D2 := by unfold mx; rw [if_pos hm]
              have t := HDS.out
              rw [em] at t
              replace HDS := Lib.hid t
              clear t
              have t := HDL.out
              rw [em] at t
              replace HDL := Lib.hid t
              clear t
              have t := HDC.out
              rw [em] at t
              replace HDC := Lib.hid t
              clear t
              clear em
              have hm_ : decide (D < D2) = true := by simp; omega
              have l_BS : w7.heap.size + 1 < w9.heap.size := blk_lt BS.out
              have q_BS_0 : w9.cell? ⟨w7.heap.size + 1, 0, none⟩ = some (.int .i64 1) := (blk_cell BS.out 0).trans rfl
              have q_BS_1 : w9.cell? ⟨w7.heap.size + 1, 1, none⟩ = some (.int .i64 0) := (blk_cell BS.out 1).trans rfl
              have q_BS_2 : w9.cell? ⟨w7.heap.size + 1, 2, none⟩ = some (.int .i64 0) := (blk_cell BS.out 2).trans rfl
              have q_BS_3 : w9.cell? ⟨w7.heap.size + 1, 3, none⟩ = some (.slice none 0 0) := (blk_cell BS.out 3).trans rfl
              have q_BS_4 : w9.cell? ⟨w7.heap.size + 1, 4, none⟩ = some (.slice (some ⟨w7.heap.size, 0, none⟩) 2 2) := (blk_cell BS.out 4).trans rfl
              go_wp2_with fail
              clear l_BS q_BS_0 q_BS_1 q_BS_2 q_BS_3 q_BS_4
              refine (node_Valid.calls 0 1 0 0 none 0 [] _ 2 [⟨x0, x1, x2, l3, l4⟩, ⟨y0, y1, y2, m3, m4⟩] (true) _ (Kd.C_nil _ _) (Nat.le_refl _) HC1.out (Nat.le_refl _) HVS.out HT.out).mono ?_
              rintro e w10 ⟨rfl, hb⟩
              replace HT := Lib.hid (HT.out.below hb)
              replace HR3 := Lib.hid (Kd.C_below HR3.out hb)
              replace HR4 := Lib.hid (Kd.C_below HR4.out hb)
              replace HQ3 := Lib.hid (Kd.C_below HQ3.out hb)
              replace HQ4 := Lib.hid (Kd.C_below HQ4.out hb)
              replace HB := Lib.hid (below_step HB.out hb)
              replace HC1 := Lib.hid (Kd.C_below HC1.out hb)
              replace HC2 := Lib.hid (Kd.C_below HC2.out hb)
              replace HC3 := Lib.hid (Kd.C_below HC3.out hb)
              replace BN := Lib.hid (blk_below BN.out hb)
              replace BM := Lib.hid (blk_below BM.out hb)
              replace BS := Lib.hid (blk_below BS.out hb)
              replace BL := Lib.hid (blk_below BL.out hb)
              replace BC := Lib.hid (blk_below BC.out hb)
              clear hb
              clear hm_ hm
              have l_BL : w7.heap.size + 1 + 1 + 1 < w10.heap.size := blk_lt BL.out
              have q_BL_0 : w10.cell? ⟨w7.heap.size + 1 + 1 + 1, 0, none⟩ = some (.int .i64 2) := (blk_cell BL.out 0).trans rfl
              have q_BL_1 : w10.cell? ⟨w7.heap.size + 1 + 1 + 1, 1, none⟩ = some (.int .i64 6) := (blk_cell BL.out 1).trans rfl
              have q_BL_2 : w10.cell? ⟨w7.heap.size + 1 + 1 + 1, 2, none⟩ = some (.int .i64 2) := (blk_cell BL.out 2).trans rfl
              have q_BL_3 : w10.cell? ⟨w7.heap.size + 1 + 1 + 1, 3, none⟩ = some (.slice none 0 0) := (blk_cell BL.out 3).trans rfl
              have q_BL_4 : w10.cell? ⟨w7.heap.size + 1 + 1 + 1, 4, none⟩ = some (.slice (some ⟨w7.heap.size + 1 + 1, 0, none⟩) 2 2) := (blk_cell BL.out 4).trans rfl
              go_wp2_with fail
              clear l_BL q_BL_0 q_BL_1 q_BL_2 q_BL_3 q_BL_4
              refine (node_Valid.calls 0 2 6 2 none 0 [] _ 2 [⟨x0, x1, x2, l3, l4⟩, ⟨y0, y1, y2, m3, m4⟩] (true) _ (Kd.C_nil _ _) (Nat.le_refl _) HC2.out (Nat.le_refl _) HVL.out HT.out).mono ?_
              rintro e w11 ⟨rfl, hb⟩
              replace HT := Lib.hid (HT.out.below hb)
              replace HR3 := Lib.hid (Kd.C_below HR3.out hb)
              replace HR4 := Lib.hid (Kd.C_below HR4.out hb)
              replace HQ3 := Lib.hid (Kd.C_below HQ3.out hb)
              replace HQ4 := Lib.hid (Kd.C_below HQ4.out hb)
              replace HB := Lib.hid (below_step HB.out hb)
              replace HC1 := Lib.hid (Kd.C_below HC1.out hb)
              replace HC2 := Lib.hid (Kd.C_below HC2.out hb)
              replace HC3 := Lib.hid (Kd.C_below HC3.out hb)
              replace BN := Lib.hid (blk_below BN.out hb)
              replace BM := Lib.hid (blk_below BM.out hb)
              replace BS := Lib.hid (blk_below BS.out hb)
              replace BL := Lib.hid (blk_below BL.out hb)
              replace BC := Lib.hid (blk_below BC.out hb)
              clear hb
              have l_BC : w7.heap.size + 1 + 1 + 1 + 1 + 1 < w11.heap.size := blk_lt BC.out
              have q_BC_0 : w11.cell? ⟨w7.heap.size + 1 + 1 + 1 + 1 + 1, 0, none⟩ = some (.int .i64 2) := (blk_cell BC.out 0).trans rfl
              have q_BC_1 : w11.cell? ⟨w7.heap.size + 1 + 1 + 1 + 1 + 1, 1, none⟩ = some (.int .i64 7) := (blk_cell BC.out 1).trans rfl
              have q_BC_2 : w11.cell? ⟨w7.heap.size + 1 + 1 + 1 + 1 + 1, 2, none⟩ = some (.int .i64 1) := (blk_cell BC.out 2).trans rfl
              have q_BC_3 : w11.cell? ⟨w7.heap.size + 1 + 1 + 1 + 1 + 1, 3, none⟩ = some (.slice none 0 0) := (blk_cell BC.out 3).trans rfl
              have q_BC_4 : w11.cell? ⟨w7.heap.size + 1 + 1 + 1 + 1 + 1, 4, none⟩ = some (.slice (some ⟨w7.heap.size + 1 + 1 + 1 + 1, 0, none⟩) 1 1) := (blk_cell BC.out 4).trans rfl
              go_wp2_with fail
              clear l_BC q_BC_0 q_BC_1 q_BC_2 q_BC_3 q_BC_4
              refine (node_Valid.calls 0 2 7 1 none 0 [] _ 1 [exs ⟨x0, x1, x2, l3, l4⟩ ⟨y0, y1, y2, m3, m4⟩] (true) _ (Kd.C_nil _ _) (Nat.le_refl _) HC3.out (Nat.le_refl _) HVC.out HT.out).mono ?_
              rintro e w12 ⟨rfl, hb⟩
              replace HT := Lib.hid (HT.out.below hb)
              replace HR3 := Lib.hid (Kd.C_below HR3.out hb)
              replace HR4 := Lib.hid (Kd.C_below HR4.out hb)
              replace HQ3 := Lib.hid (Kd.C_below HQ3.out hb)
              replace HQ4 := Lib.hid (Kd.C_below HQ4.out hb)
              replace HB := Lib.hid (below_step HB.out hb)
              replace HC1 := Lib.hid (Kd.C_below HC1.out hb)
              replace HC2 := Lib.hid (Kd.C_below HC2.out hb)
              replace HC3 := Lib.hid (Kd.C_below HC3.out hb)
              replace BN := Lib.hid (blk_below BN.out hb)
              replace BM := Lib.hid (blk_below BM.out hb)
              replace BS := Lib.hid (blk_below BS.out hb)
              replace BL := Lib.hid (blk_below BL.out hb)
              replace BC := Lib.hid (blk_below BC.out hb)
              clear hb
              have l_BS : w7.heap.size + 1 < w12.heap.size := blk_lt BS.out
              have q_BS_0 : w12.cell? ⟨w7.heap.size + 1, 0, none⟩ = some (.int .i64 1) := (blk_cell BS.out 0).trans rfl
              have q_BS_1 : w12.cell? ⟨w7.heap.size + 1, 1, none⟩ = some (.int .i64 0) := (blk_cell BS.out 1).trans rfl
              have q_BS_2 : w12.cell? ⟨w7.heap.size + 1, 2, none⟩ = some (.int .i64 0) := (blk_cell BS.out 2).trans rfl
              have q_BS_3 : w12.cell? ⟨w7.heap.size + 1, 3, none⟩ = some (.slice none 0 0) := (blk_cell BS.out 3).trans rfl
              have q_BS_4 : w12.cell? ⟨w7.heap.size + 1, 4, none⟩ = some (.slice (some ⟨w7.heap.size, 0, none⟩) 2 2) := (blk_cell BS.out 4).trans rfl
              go_wp2_with fail
              clear l_BS q_BS_0 q_BS_1 q_BS_2 q_BS_3 q_BS_4
              refine (node_Objects.calls 0 1 0 0 none 0 [] _ 2 [⟨x0, x1, x2, l3, l4⟩, ⟨y0, y1, y2, m3, m4⟩] (wrap64 (wrap64 (1 + O) + O2)) _ (Kd.C_nil _ _) (Nat.le_refl _) HC1.out (Nat.le_refl _) HOS.out).mono ?_
              rintro e w13 ⟨rfl, hb⟩
              replace HT := Lib.hid (HT.out.below hb)
              replace HR3 := Lib.hid (Kd.C_below HR3.out hb)
              replace HR4 := Lib.hid (Kd.C_below HR4.out hb)
              replace HQ3 := Lib.hid (Kd.C_below HQ3.out hb)
              replace HQ4 := Lib.hid (Kd.C_below HQ4.out hb)
              replace HB := Lib.hid (below_step HB.out hb)
              replace HC1 := Lib.hid (Kd.C_below HC1.out hb)
              replace HC2 := Lib.hid (Kd.C_below HC2.out hb)
              replace HC3 := Lib.hid (Kd.C_below HC3.out hb)
              replace BN := Lib.hid (blk_below BN.out hb)
              replace BM := Lib.hid (blk_below BM.out hb)
              replace BS := Lib.hid (blk_below BS.out hb)
              replace BL := Lib.hid (blk_below BL.out hb)
              replace BC := Lib.hid (blk_below BC.out hb)
              clear hb
              have l_BL : w7.heap.size + 1 + 1 + 1 < w13.heap.size := blk_lt BL.out
              have q_BL_0 : w13.cell? ⟨w7.heap.size + 1 + 1 + 1, 0, none⟩ = some (.int .i64 2) := (blk_cell BL.out 0).trans rfl
              have q_BL_1 : w13.cell? ⟨w7.heap.size + 1 + 1 + 1, 1, none⟩ = some (.int .i64 6) := (blk_cell BL.out 1).trans rfl
              have q_BL_2 : w13.cell? ⟨w7.heap.size + 1 + 1 + 1, 2, none⟩ = some (.int .i64 2) := (blk_cell BL.out 2).trans rfl
              have q_BL_3 : w13.cell? ⟨w7.heap.size + 1 + 1 + 1, 3, none⟩ = some (.slice none 0 0) := (blk_cell BL.out 3).trans rfl
              have q_BL_4 : w13.cell? ⟨w7.heap.size + 1 + 1 + 1, 4, none⟩ = some (.slice (some ⟨w7.heap.size + 1 + 1, 0, none⟩) 2 2) := (blk_cell BL.out 4).trans rfl
              go_wp2_with fail
              clear l_BL q_BL_0 q_BL_1 q_BL_2 q_BL_3 q_BL_4
              refine (node_Objects.calls 0 2 6 2 none 0 [] _ 2 [⟨x0, x1, x2, l3, l4⟩, ⟨y0, y1, y2, m3, m4⟩] (wrap64 (wrap64 (1 + O) + O2)) _ (Kd.C_nil _ _) (Nat.le_refl _) HC2.out (Nat.le_refl _) HOL.out).mono ?_
              rintro e w14 ⟨rfl, hb⟩
              replace HT := Lib.hid (HT.out.below hb)
              replace HR3 := Lib.hid (Kd.C_below HR3.out hb)
              replace HR4 := Lib.hid (Kd.C_below HR4.out hb)
              replace HQ3 := Lib.hid (Kd.C_below HQ3.out hb)
              replace HQ4 := Lib.hid (Kd.C_below HQ4.out hb)
              replace HB := Lib.hid (below_step HB.out hb)
              replace HC1 := Lib.hid (Kd.C_below HC1.out hb)
              replace HC2 := Lib.hid (Kd.C_below HC2.out hb)
              replace HC3 := Lib.hid (Kd.C_below HC3.out hb)
              replace BN := Lib.hid (blk_below BN.out hb)
              replace BM := Lib.hid (blk_below BM.out hb)
              replace BS := Lib.hid (blk_below BS.out hb)
              replace BL := Lib.hid (blk_below BL.out hb)
              replace BC := Lib.hid (blk_below BC.out hb)
              clear hb
              have l_BC : w7.heap.size + 1 + 1 + 1 + 1 + 1 < w14.heap.size := blk_lt BC.out
              have q_BC_0 : w14.cell? ⟨w7.heap.size + 1 + 1 + 1 + 1 + 1, 0, none⟩ = some (.int .i64 2) := (blk_cell BC.out 0).trans rfl
              have q_BC_1 : w14.cell? ⟨w7.heap.size + 1 + 1 + 1 + 1 + 1, 1, none⟩ = some (.int .i64 7) := (blk_cell BC.out 1).trans rfl
              have q_BC_2 : w14.cell? ⟨w7.heap.size + 1 + 1 + 1 + 1 + 1, 2, none⟩ = some (.int .i64 1) := (blk_cell BC.out 2).trans rfl
              have q_BC_3 : w14.cell? ⟨w7.heap.size + 1 + 1 + 1 + 1 + 1, 3, none⟩ = some (.slice none 0 0) := (blk_cell BC.out 3).trans rfl
              have q_BC_4 : w14.cell? ⟨w7.heap.size + 1 + 1 + 1 + 1 + 1, 4, none⟩ = some (.slice (some ⟨w7.heap.size + 1 + 1 + 1 + 1, 0, none⟩) 1 1) := (blk_cell BC.out 4).trans rfl
              go_wp2_with fail
              clear l_BC q_BC_0 q_BC_1 q_BC_2 q_BC_3 q_BC_4
              refine (node_Objects.calls 0 2 7 1 none 0 [] _ 1 [exs ⟨x0, x1, x2, l3, l4⟩ ⟨y0, y1, y2, m3, m4⟩] (wrap64 (wrap64 (1 + O) + O2)) _ (Kd.C_nil _ _) (Nat.le_refl _) HC3.out (Nat.le_refl _) HOC.out).mono ?_
              rintro e w15 ⟨rfl, hb⟩
              replace HT := Lib.hid (HT.out.below hb)
              replace HR3 := Lib.hid (Kd.C_below HR3.out hb)
              replace HR4 := Lib.hid (Kd.C_below HR4.out hb)
              replace HQ3 := Lib.hid (Kd.C_below HQ3.out hb)
              replace HQ4 := Lib.hid (Kd.C_below HQ4.out hb)
              replace HB := Lib.hid (below_step HB.out hb)
              replace HC1 := Lib.hid (Kd.C_below HC1.out hb)
              replace HC2 := Lib.hid (Kd.C_below HC2.out hb)
              replace HC3 := Lib.hid (Kd.C_below HC3.out hb)
              replace BN := Lib.hid (blk_below BN.out hb)
              replace BM := Lib.hid (blk_below BM.out hb)
              replace BS := Lib.hid (blk_below BS.out hb)
              replace BL := Lib.hid (blk_below BL.out hb)
              replace BC := Lib.hid (blk_below BC.out hb)
              clear hb
              have l_BS : w7.heap.size + 1 < w15.heap.size := blk_lt BS.out
              have q_BS_0 : w15.cell? ⟨w7.heap.size + 1, 0, none⟩ = some (.int .i64 1) := (blk_cell BS.out 0).trans rfl
              have q_BS_1 : w15.cell? ⟨w7.heap.size + 1, 1, none⟩ = some (.int .i64 0) := (blk_cell BS.out 1).trans rfl
              have q_BS_2 : w15.cell? ⟨w7.heap.size + 1, 2, none⟩ = some (.int .i64 0) := (blk_cell BS.out 2).trans rfl
              have q_BS_3 : w15.cell? ⟨w7.heap.size + 1, 3, none⟩ = some (.slice none 0 0) := (blk_cell BS.out 3).trans rfl
              have q_BS_4 : w15.cell? ⟨w7.heap.size + 1, 4, none⟩ = some (.slice (some ⟨w7.heap.size, 0, none⟩) 2 2) := (blk_cell BS.out 4).trans rfl
              go_wp2_with fail
              clear l_BS q_BS_0 q_BS_1 q_BS_2 q_BS_3 q_BS_4
              refine (node_Depth.calls 0 1 0 0 none 0 [] _ 2 [⟨x0, x1, x2, l3, l4⟩, ⟨y0, y1, y2, m3, m4⟩] (wrap64 (1 + D2)) _ (Kd.C_nil _ _) (Nat.le_refl _) HC1.out (Nat.le_refl _) HDS.out).mono ?_
              rintro e w16 ⟨rfl, hb⟩
              replace HT := Lib.hid (HT.out.below hb)
              replace HR3 := Lib.hid (Kd.C_below HR3.out hb)
              replace HR4 := Lib.hid (Kd.C_below HR4.out hb)
              replace HQ3 := Lib.hid (Kd.C_below HQ3.out hb)
              replace HQ4 := Lib.hid (Kd.C_below HQ4.out hb)
              replace HB := Lib.hid (below_step HB.out hb)
              replace HC1 := Lib.hid (Kd.C_below HC1.out hb)
              replace HC2 := Lib.hid (Kd.C_below HC2.out hb)
              replace HC3 := Lib.hid (Kd.C_below HC3.out hb)
              replace BN := Lib.hid (blk_below BN.out hb)
              replace BM := Lib.hid (blk_below BM.out hb)
              replace BS := Lib.hid (blk_below BS.out hb)
              replace BL := Lib.hid (blk_below BL.out hb)
              replace BC := Lib.hid (blk_below BC.out hb)
              clear hb
              have l_BL : w7.heap.size + 1 + 1 + 1 < w16.heap.size := blk_lt BL.out
              have q_BL_0 : w16.cell? ⟨w7.heap.size + 1 + 1 + 1, 0, none⟩ = some (.int .i64 2) := (blk_cell BL.out 0).trans rfl
              have q_BL_1 : w16.cell? ⟨w7.heap.size + 1 + 1 + 1, 1, none⟩ = some (.int .i64 6) := (blk_cell BL.out 1).trans rfl
              have q_BL_2 : w16.cell? ⟨w7.heap.size + 1 + 1 + 1, 2, none⟩ = some (.int .i64 2) := (blk_cell BL.out 2).trans rfl
              have q_BL_3 : w16.cell? ⟨w7.heap.size + 1 + 1 + 1, 3, none⟩ = some (.slice none 0 0) := (blk_cell BL.out 3).trans rfl
              have q_BL_4 : w16.cell? ⟨w7.heap.size + 1 + 1 + 1, 4, none⟩ = some (.slice (some ⟨w7.heap.size + 1 + 1, 0, none⟩) 2 2) := (blk_cell BL.out 4).trans rfl
              go_wp2_with fail
              clear l_BL q_BL_0 q_BL_1 q_BL_2 q_BL_3 q_BL_4
              refine (node_Depth.calls 0 2 6 2 none 0 [] _ 2 [⟨x0, x1, x2, l3, l4⟩, ⟨y0, y1, y2, m3, m4⟩] (wrap64 (1 + D2)) _ (Kd.C_nil _ _) (Nat.le_refl _) HC2.out (Nat.le_refl _) HDL.out).mono ?_
              rintro e w17 ⟨rfl, hb⟩
              replace HT := Lib.hid (HT.out.below hb)
              replace HR3 := Lib.hid (Kd.C_below HR3.out hb)
              replace HR4 := Lib.hid (Kd.C_below HR4.out hb)
              replace HQ3 := Lib.hid (Kd.C_below HQ3.out hb)
              replace HQ4 := Lib.hid (Kd.C_below HQ4.out hb)
              replace HB := Lib.hid (below_step HB.out hb)
              replace HC1 := Lib.hid (Kd.C_below HC1.out hb)
              replace HC2 := Lib.hid (Kd.C_below HC2.out hb)
              replace HC3 := Lib.hid (Kd.C_below HC3.out hb)
              replace BN := Lib.hid (blk_below BN.out hb)
              replace BM := Lib.hid (blk_below BM.out hb)
              replace BS := Lib.hid (blk_below BS.out hb)
              replace BL := Lib.hid (blk_below BL.out hb)
              replace BC := Lib.hid (blk_below BC.out hb)
              clear hb
              have l_BC : w7.heap.size + 1 + 1 + 1 + 1 + 1 < w17.heap.size := blk_lt BC.out
              have q_BC_0 : w17.cell? ⟨w7.heap.size + 1 + 1 + 1 + 1 + 1, 0, none⟩ = some (.int .i64 2) := (blk_cell BC.out 0).trans rfl
              have q_BC_1 : w17.cell? ⟨w7.heap.size + 1 + 1 + 1 + 1 + 1, 1, none⟩ = some (.int .i64 7) := (blk_cell BC.out 1).trans rfl
              have q_BC_2 : w17.cell? ⟨w7.heap.size + 1 + 1 + 1 + 1 + 1, 2, none⟩ = some (.int .i64 1) := (blk_cell BC.out 2).trans rfl
              have q_BC_3 : w17.cell? ⟨w7.heap.size + 1 + 1 + 1 + 1 + 1, 3, none⟩ = some (.slice none 0 0) := (blk_cell BC.out 3).trans rfl
              have q_BC_4 : w17.cell? ⟨w7.heap.size + 1 + 1 + 1 + 1 + 1, 4, none⟩ = some (.slice (some ⟨w7.heap.size + 1 + 1 + 1 + 1, 0, none⟩) 1 1) := (blk_cell BC.out 4).trans rfl
              go_wp2_with fail
              clear l_BC q_BC_0 q_BC_1 q_BC_2 q_BC_3 q_BC_4
              refine (node_Depth.calls 0 2 7 1 none 0 [] _ 1 [exs ⟨x0, x1, x2, l3, l4⟩ ⟨y0, y1, y2, m3, m4⟩] (wrap64 (1 + D2)) _ (Kd.C_nil _ _) (Nat.le_refl _) HC3.out (Nat.le_refl _) HDC.out).mono ?_
              rintro e w18 ⟨rfl, hb⟩
              replace HT := Lib.hid (HT.out.below hb)
              replace HR3 := Lib.hid (Kd.C_below HR3.out hb)
              replace HR4 := Lib.hid (Kd.C_below HR4.out hb)
              replace HQ3 := Lib.hid (Kd.C_below HQ3.out hb)
              replace HQ4 := Lib.hid (Kd.C_below HQ4.out hb)
              replace HB := Lib.hid (below_step HB.out hb)
              replace HC1 := Lib.hid (Kd.C_below HC1.out hb)
              replace HC2 := Lib.hid (Kd.C_below HC2.out hb)
              replace HC3 := Lib.hid (Kd.C_below HC3.out hb)
              replace BN := Lib.hid (blk_below BN.out hb)
              replace BM := Lib.hid (blk_below BM.out hb)
              replace BS := Lib.hid (blk_below BS.out hb)
              replace BL := Lib.hid (blk_below BL.out hb)
              replace BC := Lib.hid (blk_below BC.out hb)
              clear hb
              go_wp2
              go_ret
              exact ⟨by simp, HB.out⟩
            · have em : mx D D2 = D := by unfold mx; rw [if_neg (by omega)]
              have t := HDS.out
              rw [em] at t
              replace HDS := Lib.hid t
              clear t
              have t := HDL.out
              rw [em] at t
              replace HDL := Lib.hid t
              clear t
              have t := HDC.out
              rw [em] at t
              replace HDC := Lib.hid t
              clear t
              clear em
              have hm_ : decide (D < D2) = false := by simp; omega
              have l_BS : w7.heap.size + 1 < w9.heap.size := blk_lt BS.out
              have q_BS_0 : w9.cell? ⟨w7.heap.size + 1, 0, none⟩ = some (.int .i64 1) := (blk_cell BS.out 0).trans rfl
              have q_BS_1 : w9.cell? ⟨w7.heap.size + 1, 1, none⟩ = some (.int .i64 0) := (blk_cell BS.out 1).trans rfl
              have q_BS_2 : w9.cell? ⟨w7.heap.size + 1, 2, none⟩ = some (.int .i64 0) := (blk_cell BS.out 2).trans rfl
              have q_BS_3 : w9.cell? ⟨w7.heap.size + 1, 3, none⟩ = some (.slice none 0 0) := (blk_cell BS.out 3).trans rfl
              have q_BS_4 : w9.cell? ⟨w7.heap.size + 1, 4, none⟩ = some (.slice (some ⟨w7.heap.size, 0, none⟩) 2 2) := (blk_cell BS.out 4).trans rfl
              go_wp2_with fail
              clear l_BS q_BS_0 q_BS_1 q_BS_2 q_BS_3 q_BS_4
              refine (node_Valid.calls 0 1 0 0 none 0 [] _ 2 [⟨x0, x1, x2, l3, l4⟩, ⟨y0, y1, y2, m3, m4⟩] (true) _ (Kd.C_nil _ _) (Nat.le_refl _) HC1.out (Nat.le_refl _) HVS.out HT.out).mono ?_
              rintro e w10 ⟨rfl, hb⟩
              replace HT := Lib.hid (HT.out.below hb)
              replace HR3 := Lib.hid (Kd.C_below HR3.out hb)
              replace HR4 := Lib.hid (Kd.C_below HR4.out hb)
              replace HQ3 := Lib.hid (Kd.C_below HQ3.out hb)
              replace HQ4 := Lib.hid (Kd.C_below HQ4.out hb)
              replace HB := Lib.hid (below_step HB.out hb)
              replace HC1 := Lib.hid (Kd.C_below HC1.out hb)
              replace HC2 := Lib.hid (Kd.C_below HC2.out hb)
              replace HC3 := Lib.hid (Kd.C_below HC3.out hb)
              replace BN := Lib.hid (blk_below BN.out hb)
              replace BM := Lib.hid (blk_below BM.out hb)
              replace BS := Lib.hid (blk_below BS.out hb)
              replace BL := Lib.hid (blk_below BL.out hb)
              replace BC := Lib.hid (blk_below BC.out hb)
              clear hb
              clear hm_ hm
              have l_BL : w7.heap.size + 1 + 1 + 1 < w10.heap.size := blk_lt BL.out
              have q_BL_0 : w10.cell? ⟨w7.heap.size + 1 + 1 + 1, 0, none⟩ = some (.int .i64 2) := (blk_cell BL.out 0).trans rfl
              have q_BL_1 : w10.cell? ⟨w7.heap.size + 1 + 1 + 1, 1, none⟩ = some (.int .i64 6) := (blk_cell BL.out 1).trans rfl
              have q_BL_2 : w10.cell? ⟨w7.heap.size + 1 + 1 + 1, 2, none⟩ = some (.int .i64 2) := (blk_cell BL.out 2).trans rfl
              have q_BL_3 : w10.cell? ⟨w7.heap.size + 1 + 1 + 1, 3, none⟩ = some (.slice none 0 0) := (blk_cell BL.out 3).trans rfl
              have q_BL_4 : w10.cell? ⟨w7.heap.size + 1 + 1 + 1, 4, none⟩ = some (.slice (some ⟨w7.heap.size + 1 + 1, 0, none⟩) 2 2) := (blk_cell BL.out 4).trans rfl
              go_wp2_with fail
              clear l_BL q_BL_0 q_BL_1 q_BL_2 q_BL_3 q_BL_4
              refine (node_Valid.calls 0 2 6 2 none 0 [] _ 2 [⟨x0, x1, x2, l3, l4⟩, ⟨y0, y1, y2, m3, m4⟩] (true) _ (Kd.C_nil _ _) (Nat.le_refl _) HC2.out (Nat.le_refl _) HVL.out HT.out).mono ?_
              rintro e w11 ⟨rfl, hb⟩
              replace HT := Lib.hid (HT.out.below hb)
              replace HR3 := Lib.hid (Kd.C_below HR3.out hb)
              replace HR4 := Lib.hid (Kd.C_below HR4.out hb)
              replace HQ3 := Lib.hid (Kd.C_below HQ3.out hb)
              replace HQ4 := Lib.hid (Kd.C_below HQ4.out hb)
              replace HB := Lib.hid (below_step HB.out hb)
              replace HC1 := Lib.hid (Kd.C_below HC1.out hb)
              replace HC2 := Lib.hid (Kd.C_below HC2.out hb)
              replace HC3 := Lib.hid (Kd.C_below HC3.out hb)
              replace BN := Lib.hid (blk_below BN.out hb)
              replace BM := Lib.hid (blk_below BM.out hb)
              replace BS := Lib.hid (blk_below BS.out hb)
              replace BL := Lib.hid (blk_below BL.out hb)
              replace BC := Lib.hid (blk_below BC.out hb)
              clear hb
              have l_BC : w7.heap.size + 1 + 1 + 1 + 1 + 1 < w11.heap.size := blk_lt BC.out
              have q_BC_0 : w11.cell? ⟨w7.heap.size + 1 + 1 + 1 + 1 + 1, 0, none⟩ = some (.int .i64 2) := (blk_cell BC.out 0).trans rfl
              have q_BC_1 : w11.cell? ⟨w7.heap.size + 1 + 1 + 1 + 1 + 1, 1, none⟩ = some (.int .i64 7) := (blk_cell BC.out 1).trans rfl
              have q_BC_2 : w11.cell? ⟨w7.heap.size + 1 + 1 + 1 + 1 + 1, 2, none⟩ = some (.int .i64 1) := (blk_cell BC.out 2).trans rfl
              have q_BC_3 : w11.cell? ⟨w7.heap.size + 1 + 1 + 1 + 1 + 1, 3, none⟩ = some (.slice none 0 0) := (blk_cell BC.out 3).trans rfl
              have q_BC_4 : w11.cell? ⟨w7.heap.size + 1 + 1 + 1 + 1 + 1, 4, none⟩ = some (.slice (some ⟨w7.heap.size + 1 + 1 + 1 + 1, 0, none⟩) 1 1) := (blk_cell BC.out 4).trans rfl
              go_wp2_with fail
              clear l_BC q_BC_0 q_BC_1 q_BC_2 q_BC_3 q_BC_4
              refine (node_Valid.calls 0 2 7 1 none 0 [] _ 1 [exs ⟨x0, x1, x2, l3, l4⟩ ⟨y0, y1, y2, m3, m4⟩] (true) _ (Kd.C_nil _ _) (Nat.le_refl _) HC3.out (Nat.le_refl _) HVC.out HT.out).mono ?_
              rintro e w12 ⟨rfl, hb⟩
              replace HT := Lib.hid (HT.out.below hb)
              replace HR3 := Lib.hid (Kd.C_below HR3.out hb)
              replace HR4 := Lib.hid (Kd.C_below HR4.out hb)
              replace HQ3 := Lib.hid (Kd.C_below HQ3.out hb)
              replace HQ4 := Lib.hid (Kd.C_below HQ4.out hb)
              replace HB := Lib.hid (below_step HB.out hb)
              replace HC1 := Lib.hid (Kd.C_below HC1.out hb)
              replace HC2 := Lib.hid (Kd.C_below HC2.out hb)
              replace HC3 := Lib.hid (Kd.C_below HC3.out hb)
              replace BN := Lib.hid (blk_below BN.out hb)
              replace BM := Lib.hid (blk_below BM.out hb)
              replace BS := Lib.hid (blk_below BS.out hb)
              replace BL := Lib.hid (blk_below BL.out hb)
              replace BC := Lib.hid (blk_below BC.out hb)
              clear hb
              have l_BS : w7.heap.size + 1 < w12.heap.size := blk_lt BS.out
              have q_BS_0 : w12.cell? ⟨w7.heap.size + 1, 0, none⟩ = some (.int .i64 1) := (blk_cell BS.out 0).trans rfl
              have q_BS_1 : w12.cell? ⟨w7.heap.size + 1, 1, none⟩ = some (.int .i64 0) := (blk_cell BS.out 1).trans rfl
              have q_BS_2 : w12.cell? ⟨w7.heap.size + 1, 2, none⟩ = some (.int .i64 0) := (blk_cell BS.out 2).trans rfl
              have q_BS_3 : w12.cell? ⟨w7.heap.size + 1, 3, none⟩ = some (.slice none 0 0) := (blk_cell BS.out 3).trans rfl
              have q_BS_4 : w12.cell? ⟨w7.heap.size + 1, 4, none⟩ = some (.slice (some ⟨w7.heap.size, 0, none⟩) 2 2) := (blk_cell BS.out 4).trans rfl
              go_wp2_with fail
              clear l_BS q_BS_0 q_BS_1 q_BS_2 q_BS_3 q_BS_4
              refine (node_Objects.calls 0 1 0 0 none 0 [] _ 2 [⟨x0, x1, x2, l3, l4⟩, ⟨y0, y1, y2, m3, m4⟩] (wrap64 (wrap64 (1 + O) + O2)) _ (Kd.C_nil _ _) (Nat.le_refl _) HC1.out (Nat.le_refl _) HOS.out).mono ?_
              rintro e w13 ⟨rfl, hb⟩
              replace HT := Lib.hid (HT.out.below hb)
              replace HR3 := Lib.hid (Kd.C_below HR3.out hb)
              replace HR4 := Lib.hid (Kd.C_below HR4.out hb)
              replace HQ3 := Lib.hid (Kd.C_below HQ3.out hb)
              replace HQ4 := Lib.hid (Kd.C_below HQ4.out hb)
              replace HB := Lib.hid (below_step HB.out hb)
              replace HC1 := Lib.hid (Kd.C_below HC1.out hb)
              replace HC2 := Lib.hid (Kd.C_below HC2.out hb)
              replace HC3 := Lib.hid (Kd.C_below HC3.out hb)
              replace BN := Lib.hid (blk_below BN.out hb)
              replace BM := Lib.hid (blk_below BM.out hb)
              replace BS := Lib.hid (blk_below BS.out hb)
              replace BL := Lib.hid (blk_below BL.out hb)
              replace BC := Lib.hid (blk_below BC.out hb)
              clear hb
              have l_BL : w7.heap.size + 1 + 1 + 1 < w13.heap.size := blk_lt BL.out
              have q_BL_0 : w13.cell? ⟨w7.heap.size + 1 + 1 + 1, 0, none⟩ = some (.int .i64 2) := (blk_cell BL.out 0).trans rfl
              have q_BL_1 : w13.cell? ⟨w7.heap.size + 1 + 1 + 1, 1, none⟩ = some (.int .i64 6) := (blk_cell BL.out 1).trans rfl
              have q_BL_2 : w13.cell? ⟨w7.heap.size + 1 + 1 + 1, 2, none⟩ = some (.int .i64 2) := (blk_cell BL.out 2).trans rfl
              have q_BL_3 : w13.cell? ⟨w7.heap.size + 1 + 1 + 1, 3, none⟩ = some (.slice none 0 0) := (blk_cell BL.out 3).trans rfl
              have q_BL_4 : w13.cell? ⟨w7.heap.size + 1 + 1 + 1, 4, none⟩ = some (.slice (some ⟨w7.heap.size + 1 + 1, 0, none⟩) 2 2) := (blk_cell BL.out 4).trans rfl
              go_wp2_with fail
              clear l_BL q_BL_0 q_BL_1 q_BL_2 q_BL_3 q_BL_4
              refine (node_Objects.calls 0 2 6 2 none 0 [] _ 2 [⟨x0, x1, x2, l3, l4⟩, ⟨y0, y1, y2, m3, m4⟩] (wrap64 (wrap64 (1 + O) + O2)) _ (Kd.C_nil _ _) (Nat.le_refl _) HC2.out (Nat.le_refl _) HOL.out).mono ?_
              rintro e w14 ⟨rfl, hb⟩
              replace HT := Lib.hid (HT.out.below hb)
              replace HR3 := Lib.hid (Kd.C_below HR3.out hb)
              replace HR4 := Lib.hid (Kd.C_below HR4.out hb)
              replace HQ3 := Lib.hid (Kd.C_below HQ3.out hb)
              replace HQ4 := Lib.hid (Kd.C_below HQ4.out hb)
              replace HB := Lib.hid (below_step HB.out hb)
              replace HC1 := Lib.hid (Kd.C_below HC1.out hb)
              replace HC2 := Lib.hid (Kd.C_below HC2.out hb)
              replace HC3 := Lib.hid (Kd.C_below HC3.out hb)
              replace BN := Lib.hid (blk_below BN.out hb)
              replace BM := Lib.hid (blk_below BM.out hb)
              replace BS := Lib.hid (blk_below BS.out hb)
              replace BL := Lib.hid (blk_below BL.out hb)
              replace BC := Lib.hid (blk_below BC.out hb)
              clear hb
              have l_BC : w7.heap.size + 1 + 1 + 1 + 1 + 1 < w14.heap.size := blk_lt BC.out
              have q_BC_0 : w14.cell? ⟨w7.heap.size + 1 + 1 + 1 + 1 + 1, 0, none⟩ = some (.int .i64 2) := (blk_cell BC.out 0).trans rfl
              have q_BC_1 : w14.cell? ⟨w7.heap.size + 1 + 1 + 1 + 1 + 1, 1, none⟩ = some (.int .i64 7) := (blk_cell BC.out 1).trans rfl
              have q_BC_2 : w14.cell? ⟨w7.heap.size + 1 + 1 + 1 + 1 + 1, 2, none⟩ = some (.int .i64 1) := (blk_cell BC.out 2).trans rfl
              have q_BC_3 : w14.cell? ⟨w7.heap.size + 1 + 1 + 1 + 1 + 1, 3, none⟩ = some (.slice none 0 0) := (blk_cell BC.out 3).trans rfl
              have q_BC_4 : w14.cell? ⟨w7.heap.size + 1 + 1 + 1 + 1 + 1, 4, none⟩ = some (.slice (some ⟨w7.heap.size + 1 + 1 + 1 + 1, 0, none⟩) 1 1) := (blk_cell BC.out 4).trans rfl
              go_wp2_with fail
              clear l_BC q_BC_0 q_BC_1 q_BC_2 q_BC_3 q_BC_4
              refine (node_Objects.calls 0 2 7 1 none 0 [] _ 1 [exs ⟨x0, x1, x2, l3, l4⟩ ⟨y0, y1, y2, m3, m4⟩] (wrap64 (wrap64 (1 + O) + O2)) _ (Kd.C_nil _ _) (Nat.le_refl _) HC3.out (Nat.le_refl _) HOC.out).mono ?_
              rintro e w15 ⟨rfl, hb⟩
              replace HT := Lib.hid (HT.out.below hb)
              replace HR3 := Lib.hid (Kd.C_below HR3.out hb)
              replace HR4 := Lib.hid (Kd.C_below HR4.out hb)
              replace HQ3 := Lib.hid (Kd.C_below HQ3.out hb)
              replace HQ4 := Lib.hid (Kd.C_below HQ4.out hb)
              replace HB := Lib.hid (below_step HB.out hb)
              replace HC1 := Lib.hid (Kd.C_below HC1.out hb)
              replace HC2 := Lib.hid (Kd.C_below HC2.out hb)
              replace HC3 := Lib.hid (Kd.C_below HC3.out hb)
              replace BN := Lib.hid (blk_below BN.out hb)
              replace BM := Lib.hid (blk_below BM.out hb)
              replace BS := Lib.hid (blk_below BS.out hb)
              replace BL := Lib.hid (blk_below BL.out hb)
              replace BC := Lib.hid (blk_below BC.out hb)
              clear hb
              have l_BS : w7.heap.size + 1 < w15.heap.size := blk_lt BS.out
              have q_BS_0 : w15.cell? ⟨w7.heap.size + 1, 0, none⟩ = some (.int .i64 1) := (blk_cell BS.out 0).trans rfl
              have q_BS_1 : w15.cell? ⟨w7.heap.size + 1, 1, none⟩ = some (.int .i64 0) := (blk_cell BS.out 1).trans rfl
              have q_BS_2 : w15.cell? ⟨w7.heap.size + 1, 2, none⟩ = some (.int .i64 0) := (blk_cell BS.out 2).trans rfl
              have q_BS_3 : w15.cell? ⟨w7.heap.size + 1, 3, none⟩ = some (.slice none 0 0) := (blk_cell BS.out 3).trans rfl
              have q_BS_4 : w15.cell? ⟨w7.heap.size + 1, 4, none⟩ = some (.slice (some ⟨w7.heap.size, 0, none⟩) 2 2) := (blk_cell BS.out 4).trans rfl
              go_wp2_with fail
              clear l_BS q_BS_0 q_BS_1 q_BS_2 q_BS_3 q_BS_4
              refine (node_Depth.calls 0 1 0 0 none 0 [] _ 2 [⟨x0, x1, x2, l3, l4⟩, ⟨y0, y1, y2, m3, m4⟩] (wrap64 (1 + D)) _ (Kd.C_nil _ _) (Nat.le_refl _) HC1.out (Nat.le_refl _) HDS.out).mono ?_
              rintro e w16 ⟨rfl, hb⟩
              replace HT := Lib.hid (HT.out.below hb)
              replace HR3 := Lib.hid (Kd.C_below HR3.out hb)
              replace HR4 := Lib.hid (Kd.C_below HR4.out hb)
              replace HQ3 := Lib.hid (Kd.C_below HQ3.out hb)
              replace HQ4 := Lib.hid (Kd.C_below HQ4.out hb)
              replace HB := Lib.hid (below_step HB.out hb)
              replace HC1 := Lib.hid (Kd.C_below HC1.out hb)
              replace HC2 := Lib.hid (Kd.C_below HC2.out hb)
              replace HC3 := Lib.hid (Kd.C_below HC3.out hb)
              replace BN := Lib.hid (blk_below BN.out hb)
              replace BM := Lib.hid (blk_below BM.out hb)
              replace BS := Lib.hid (blk_below BS.out hb)
              replace BL := Lib.hid (blk_below BL.out hb)
              replace BC := Lib.hid (blk_below BC.out hb)
              clear hb
              have l_BL : w7.heap.size + 1 + 1 + 1 < w16.heap.size := blk_lt BL.out
              have q_BL_0 : w16.cell? ⟨w7.heap.size + 1 + 1 + 1, 0, none⟩ = some (.int .i64 2) := (blk_cell BL.out 0).trans rfl
              have q_BL_1 : w16.cell? ⟨w7.heap.size + 1 + 1 + 1, 1, none⟩ = some (.int .i64 6) := (blk_cell BL.out 1).trans rfl
              have q_BL_2 : w16.cell? ⟨w7.heap.size + 1 + 1 + 1, 2, none⟩ = some (.int .i64 2) := (blk_cell BL.out 2).trans rfl
              have q_BL_3 : w16.cell? ⟨w7.heap.size + 1 + 1 + 1, 3, none⟩ = some (.slice none 0 0) := (blk_cell BL.out 3).trans rfl
              have q_BL_4 : w16.cell? ⟨w7.heap.size + 1 + 1 + 1, 4, none⟩ = some (.slice (some ⟨w7.heap.size + 1 + 1, 0, none⟩) 2 2) := (blk_cell BL.out 4).trans rfl
              go_wp2_with fail
              clear l_BL q_BL_0 q_BL_1 q_BL_2 q_BL_3 q_BL_4
              refine (node_Depth.calls 0 2 6 2 none 0 [] _ 2 [⟨x0, x1, x2, l3, l4⟩, ⟨y0, y1, y2, m3, m4⟩] (wrap64 (1 + D)) _ (Kd.C_nil _ _) (Nat.le_refl _) HC2.out (Nat.le_refl _) HDL.out).mono ?_
              rintro e w17 ⟨rfl, hb⟩
              replace HT := Lib.hid (HT.out.below hb)
              replace HR3 := Lib.hid (Kd.C_below HR3.out hb)
              replace HR4 := Lib.hid (Kd.C_below HR4.out hb)
              replace HQ3 := Lib.hid (Kd.C_below HQ3.out hb)
              replace HQ4 := Lib.hid (Kd.C_below HQ4.out hb)
              replace HB := Lib.hid (below_step HB.out hb)
              replace HC1 := Lib.hid (Kd.C_below HC1.out hb)
              replace HC2 := Lib.hid (Kd.C_below HC2.out hb)
              replace HC3 := Lib.hid (Kd.C_below HC3.out hb)
              replace BN := Lib.hid (blk_below BN.out hb)
              replace BM := Lib.hid (blk_below BM.out hb)
              replace BS := Lib.hid (blk_below BS.out hb)
              replace BL := Lib.hid (blk_below BL.out hb)
              replace BC := Lib.hid (blk_below BC.out hb)
              clear hb
              have l_BC : w7.heap.size + 1 + 1 + 1 + 1 + 1 < w17.heap.size := blk_lt BC.out
              have q_BC_0 : w17.cell? ⟨w7.heap.size + 1 + 1 + 1 + 1 + 1, 0, none⟩ = some (.int .i64 2) := (blk_cell BC.out 0).trans rfl
              have q_BC_1 : w17.cell? ⟨w7.heap.size + 1 + 1 + 1 + 1 + 1, 1, none⟩ = some (.int .i64 7) := (blk_cell BC.out 1).trans rfl
              have q_BC_2 : w17.cell? ⟨w7.heap.size + 1 + 1 + 1 + 1 + 1, 2, none⟩ = some (.int .i64 1) := (blk_cell BC.out 2).trans rfl
              have q_BC_3 : w17.cell? ⟨w7.heap.size + 1 + 1 + 1 + 1 + 1, 3, none⟩ = some (.slice none 0 0) := (blk_cell BC.out 3).trans rfl
              have q_BC_4 : w17.cell? ⟨w7.heap.size + 1 + 1 + 1 + 1 + 1, 4, none⟩ = some (.slice (some ⟨w7.heap.size + 1 + 1 + 1 + 1, 0, none⟩) 1 1) := (blk_cell BC.out 4).trans rfl
              go_wp2_with fail
              clear l_BC q_BC_0 q_BC_1 q_BC_2 q_BC_3 q_BC_4
              refine (node_Depth.calls 0 2 7 1 none 0 [] _ 1 [exs ⟨x0, x1, x2, l3, l4⟩ ⟨y0, y1, y2, m3, m4⟩] (wrap64 (1 + D)) _ (Kd.C_nil _ _) (Nat.le_refl _) HC3.out (Nat.le_refl _) HDC.out).mono ?_
              rintro e w18 ⟨rfl, hb⟩
              replace HT := Lib.hid (HT.out.below hb)
              replace HR3 := Lib.hid (Kd.C_below HR3.out hb)
              replace HR4 := Lib.hid (Kd.C_below HR4.out hb)
              replace HQ3 := Lib.hid (Kd.C_below HQ3.out hb)
              replace HQ4 := Lib.hid (Kd.C_below HQ4.out hb)
              replace HB := Lib.hid (below_step HB.out hb)
              replace HC1 := Lib.hid (Kd.C_below HC1.out hb)
              replace HC2 := Lib.hid (Kd.C_below HC2.out hb)
              replace HC3 := Lib.hid (Kd.C_below HC3.out hb)
              replace BN := Lib.hid (blk_below BN.out hb)
              replace BM := Lib.hid (blk_below BM.out hb)
              replace BS := Lib.hid (blk_below BS.out hb)
              replace BL := Lib.hid (blk_below BL.out hb)
              replace BC := Lib.hid (blk_below BC.out hb)
              clear hb
              go_wp2
              go_ret
              exact ⟨by simp, HB.out⟩
          · obtain ⟨hd0, ho0⟩ := HZN.out e
            have hb1_ : (D == 0) = false := beq_eq_false_iff_ne.2 hd0
            have hb2_ : (O == 0) = false := beq_eq_false_iff_ne.2 ho0
            have hb3_ : (x0 == 0) = false := beq_eq_false_iff_ne.2 e
            clear hd0 ho0 e HZY HZN HLE
            have l_BN : w.heap.size < w7.heap.size := blk_lt BN.out
            have q_BN_0 : w7.cell? ⟨w.heap.size, 0, none⟩ = some (.int .i64 x0) := (blk_cell BN.out 0).trans rfl
            have q_BN_1 : w7.cell? ⟨w.heap.size, 1, none⟩ = some (.int .i64 x1) := (blk_cell BN.out 1).trans rfl
            have q_BN_2 : w7.cell? ⟨w.heap.size, 2, none⟩ = some (.int .i64 x2) := (blk_cell BN.out 2).trans rfl
            have q_BN_3 : w7.cell? ⟨w.heap.size, 3, none⟩ = some (.slice A3 l3.length c3) := (blk_cell BN.out 3).trans rfl
            have q_BN_4 : w7.cell? ⟨w.heap.size, 4, none⟩ = some (.slice A4 l4.length c4) := (blk_cell BN.out 4).trans rfl
            have l_BM : w.heap.size + 1 < w7.heap.size := blk_lt BM.out
            have q_BM_0 : w7.cell? ⟨w.heap.size + 1, 0, none⟩ = some (.int .i64 y0) := (blk_cell BM.out 0).trans rfl
            have q_BM_1 : w7.cell? ⟨w.heap.size + 1, 1, none⟩ = some (.int .i64 y1) := (blk_cell BM.out 1).trans rfl
            have q_BM_2 : w7.cell? ⟨w.heap.size + 1, 2, none⟩ = some (.int .i64 y2) := (blk_cell BM.out 2).trans rfl
            have q_BM_3 : w7.cell? ⟨w.heap.size + 1, 3, none⟩ = some (.slice F3 m3.length f3) := (blk_cell BM.out 3).trans rfl
            have q_BM_4 : w7.cell? ⟨w.heap.size + 1, 4, none⟩ = some (.slice F4 m4.length f4) := (blk_cell BM.out 4).trans rfl
            go_upto_region 10 with fail
            clear l_BN q_BN_0 q_BN_1 q_BN_2 q_BN_3 q_BN_4 l_BM q_BM_0 q_BM_1 q_BM_2 q_BM_3 q_BM_4
            clear hd_ hb1_ hb2_ hb3_ hle
            refine wp_at (fun W9 hW => ?_)
            have hb : Below w7.heap.size w7 W9 := by rw [hW]; repeat (first | exact Below.refl _ _ | refine Below.alloc ?_ (by first | exact Nat.le_refl _ | (simp <;> omega)) _)
            have nR1 : W9.heap[w7.heap.size]? = some (.cells #[.int .i64 x0, .int .i64 x1, .int .i64 x2, .slice A3 l3.length c3, .slice A4 l4.length c4, .int .i64 y0, .int .i64 y1, .int .i64 y2, .slice F3 m3.length f3, .slice F4 m4.length f4] 25 (0, 0)) := by rw [hW]; exact blk_alloc (blk_alloc (blk_alloc (blk_alloc (blk_alloc (heap_alloc_new _ _) _) _) _) _) _
            have nBS : W9.heap[w7.heap.size + 1]? = some (.cells #[.int .i64 1, .int .i64 0, .int .i64 0, .slice none 0 0, .slice (some ⟨w7.heap.size, 0, none⟩) 2 2] 25 (0, 0)) := by rw [hW]; exact blk_alloc (blk_alloc (blk_alloc (blk_alloc (blk_new _ _ _ (by simp)) _) _) _) _
            have nR2 : W9.heap[w7.heap.size + 1 + 1]? = some (.cells #[.int .i64 x0, .int .i64 x1, .int .i64 x2, .slice A3 l3.length c3, .slice A4 l4.length c4, .int .i64 y0, .int .i64 y1, .int .i64 y2, .slice F3 m3.length f3, .slice F4 m4.length f4] 25 (0, 0)) := by rw [hW]; exact blk_alloc (blk_alloc (blk_alloc (blk_new _ _ _ (by simp)) _) _) _
            have nBL : W9.heap[w7.heap.size + 1 + 1 + 1]? = some (.cells #[.int .i64 2, .int .i64 6, .int .i64 2, .slice none 0 0, .slice (some ⟨w7.heap.size + 1 + 1, 0, none⟩) 2 2] 25 (0, 0)) := by rw [hW]; exact blk_alloc (blk_alloc (blk_new _ _ _ (by simp)) _) _
            have nR3 : W9.heap[w7.heap.size + 1 + 1 + 1 + 1]? = some (.cells #[.int .i64 1, .int .i64 0, .int .i64 0, .slice none 0 0, .slice (some ⟨w7.heap.size, 0, none⟩) 2 2] 25 (0, 0)) := by rw [hW]; exact blk_alloc (blk_new _ _ _ (by simp)) _
            have nBC : W9.heap[w7.heap.size + 1 + 1 + 1 + 1 + 1]? = some (.cells #[.int .i64 2, .int .i64 7, .int .i64 1, .slice none 0 0, .slice (some ⟨w7.heap.size + 1 + 1 + 1 + 1, 0, none⟩) 1 1] 25 (0, 0)) := by rw [hW]; exact blk_new _ _ _ (by simp)
            clear hW
            replace HT := Lib.hid (HT.out.below hb)
            replace HR3 := Lib.hid (Kd.C_below HR3.out hb)
            replace HR4 := Lib.hid (Kd.C_below HR4.out hb)
            replace HQ3 := Lib.hid (Kd.C_below HQ3.out hb)
            replace HQ4 := Lib.hid (Kd.C_below HQ4.out hb)
            replace HB := Lib.hid (below_step HB.out hb)
            replace BN := Lib.hid (blk_below BN.out hb)
            replace BM := Lib.hid (blk_below BM.out hb)
            clear hb
            have R1 := Lib.hid nR1
            clear nR1
            have BS := Lib.hid nBS
            clear nBS
            have R2 := Lib.hid nR2
            clear nR2
            have BL := Lib.hid nBL
            clear nBL
            have R3 := Lib.hid nR3
            clear nR3
            have BC := Lib.hid nBC
            clear nBC
            have C1 : k25.C W9 (some ⟨w7.heap.size, 0, none⟩) 2 [⟨x0, x1, x2, l3, l4⟩, ⟨y0, y1, y2, m3, m4⟩] := C_node2 (k25_mk W9 ⟨x0, x1, x2, l3, l4⟩ hc3 HR3.out hc4 HR4.out) (k25_mk W9 ⟨y0, y1, y2, m3, m4⟩ hd3 HQ3.out hd4 HQ4.out) R1.out
            have C2 : k25.C W9 (some ⟨w7.heap.size + 1 + 1, 0, none⟩) 2 [⟨x0, x1, x2, l3, l4⟩, ⟨y0, y1, y2, m3, m4⟩] := C_node2 (k25_mk W9 ⟨x0, x1, x2, l3, l4⟩ hc3 HR3.out hc4 HR4.out) (k25_mk W9 ⟨y0, y1, y2, m3, m4⟩ hd3 HQ3.out hd4 HQ4.out) R2.out
            have KS : k25.K W9 (exs ⟨x0, x1, x2, l3, l4⟩ ⟨y0, y1, y2, m3, m4⟩) [.int .i64 1, .int .i64 0, .int .i64 0, .slice none 0 0, .slice (some ⟨w7.heap.size, 0, none⟩) 2 2] := k25_mk W9 (exs ⟨x0, x1, x2, l3, l4⟩ ⟨y0, y1, y2, m3, m4⟩) (c3 := 0) (Nat.le_refl _) (Kd.C_nil _ _) (c4 := 2) (Nat.le_refl _) C1
            have C3 : k25.C W9 (some ⟨w7.heap.size + 1 + 1 + 1 + 1, 0, none⟩) 1 [(exs ⟨x0, x1, x2, l3, l4⟩ ⟨y0, y1, y2, m3, m4⟩)] := C_node1 KS R3.out
            have HC1 := Lib.hid (C1)
            have HC2 := Lib.hid (C2)
            have HC3 := Lib.hid (C3)
            clear C1 C2 C3 KS R1 R2 R3
            have l_BM : w.heap.size + 1 < W9.heap.size := blk_lt BM.out
            have q_BM_0 : W9.cell? ⟨w.heap.size + 1, 0, none⟩ = some (.int .i64 y0) := (blk_cell BM.out 0).trans rfl
            have q_BM_1 : W9.cell? ⟨w.heap.size + 1, 1, none⟩ = some (.int .i64 y1) := (blk_cell BM.out 1).trans rfl
            have q_BM_2 : W9.cell? ⟨w.heap.size + 1, 2, none⟩ = some (.int .i64 y2) := (blk_cell BM.out 2).trans rfl
            have q_BM_3 : W9.cell? ⟨w.heap.size + 1, 3, none⟩ = some (.slice F3 m3.length f3) := (blk_cell BM.out 3).trans rfl
            have q_BM_4 : W9.cell? ⟨w.heap.size + 1, 4, none⟩ = some (.slice F4 m4.length f4) := (blk_cell BM.out 4).trans rfl
            go_wp2_with fail
            clear l_BM q_BM_0 q_BM_1 q_BM_2 q_BM_3 q_BM_4
            refine (node_Objects.calls 0 y0 y1 y2 F3 f3 m3 F4 f4 m4 O2 _ HQ3.out hd3 HQ4.out hd4 HOB.out).mono ?_
            rintro e w8 ⟨rfl, hb⟩
            replace HT := Lib.hid (HT.out.below hb)
            replace HR3 := Lib.hid (Kd.C_below HR3.out hb)
            replace HR4 := Lib.hid (Kd.C_below HR4.out hb)
            replace HQ3 := Lib.hid (Kd.C_below HQ3.out hb)
            replace HQ4 := Lib.hid (Kd.C_below HQ4.out hb)
            replace HB := Lib.hid (below_step HB.out hb)
            replace HC1 := Lib.hid (Kd.C_below HC1.out hb)
            replace HC2 := Lib.hid (Kd.C_below HC2.out hb)
            replace HC3 := Lib.hid (Kd.C_below HC3.out hb)
            replace BN := Lib.hid (blk_below BN.out hb)
            replace BM := Lib.hid (blk_below BM.out hb)
            replace BS := Lib.hid (blk_below BS.out hb)
            replace BL := Lib.hid (blk_below BL.out hb)
            replace BC := Lib.hid (blk_below BC.out hb)
            clear hb
            have l_BM : w.heap.size + 1 < w8.heap.size := blk_lt BM.out
            have q_BM_0 : w8.cell? ⟨w.heap.size + 1, 0, none⟩ = some (.int .i64 y0) := (blk_cell BM.out 0).trans rfl
            have q_BM_1 : w8.cell? ⟨w.heap.size + 1, 1, none⟩ = some (.int .i64 y1) := (blk_cell BM.out 1).trans rfl
            have q_BM_2 : w8.cell? ⟨w.heap.size + 1, 2, none⟩ = some (.int .i64 y2) := (blk_cell BM.out 2).trans rfl
            have q_BM_3 : w8.cell? ⟨w.heap.size + 1, 3, none⟩ = some (.slice F3 m3.length f3) := (blk_cell BM.out 3).trans rfl
            have q_BM_4 : w8.cell? ⟨w.heap.size + 1, 4, none⟩ = some (.slice F4 m4.length f4) := (blk_cell BM.out 4).trans rfl
            go_wp2_with fail
            clear l_BM q_BM_0 q_BM_1 q_BM_2 q_BM_3 q_BM_4
            refine (node_Depth.calls 0 y0 y1 y2 F3 f3 m3 F4 f4 m4 D2 _ HQ3.out hd3 HQ4.out hd4 HDB.out).mono ?_
            rintro e w9 ⟨rfl, hb⟩
            replace HT := Lib.hid (HT.out.below hb)
            replace HR3 := Lib.hid (Kd.C_below HR3.out hb)
            replace HR4 := Lib.hid (Kd.C_below HR4.out hb)
            replace HQ3 := Lib.hid (Kd.C_below HQ3.out hb)
            replace HQ4 := Lib.hid (Kd.C_below HQ4.out hb)
            replace HB := Lib.hid (below_step HB.out hb)
            replace HC1 := Lib.hid (Kd.C_below HC1.out hb)
            replace HC2 := Lib.hid (Kd.C_below HC2.out hb)
            replace HC3 := Lib.hid (Kd.C_below HC3.out hb)
            replace BN := Lib.hid (blk_below BN.out hb)
            replace BM := Lib.hid (blk_below BM.out hb)
            replace BS := Lib.hid (blk_below BS.out hb)
            replace BL := Lib.hid (blk_below BL.out hb)
            replace BC := Lib.hid (blk_below BC.out hb)
            clear hb
            rcases Int.lt_or_le D D2 with hm | hm
            · have em : mx D D2 = D2 := by unfold mx; rw [if_pos hm]
              have t := HDS.out
              rw [em] at t
              replace HDS := Lib.hid t
              clear t
              have t := HDL.out
              rw [em] at t
              replace HDL := Lib.hid t
              clear t
              have t := HDC.out
              rw [em] at t
              replace HDC := Lib.hid t
              clear t
              clear em
              have hm_ : decide (D < D2) = true := by simp; omega
              have l_BS : w7.heap.size + 1 < w9.heap.size := blk_lt BS.out
              have q_BS_0 : w9.cell? ⟨w7.heap.size + 1, 0, none⟩ = some (.int .i64 1) := (blk_cell BS.out 0).trans rfl
              have q_BS_1 : w9.cell? ⟨w7.heap.size + 1, 1, none⟩ = some (.int .i64 0) := (blk_cell BS.out 1).trans rfl
              have q_BS_2 : w9.cell? ⟨w7.heap.size + 1, 2, none⟩ = some (.int .i64 0) := (blk_cell BS.out 2).trans rfl
              have q_BS_3 : w9.cell? ⟨w7.heap.size + 1, 3, none⟩ = some (.slice none 0 0) := (blk_cell BS.out 3).trans rfl
              have q_BS_4 : w9.cell? ⟨w7.heap.size + 1, 4, none⟩ = some (.slice (some ⟨w7.heap.size, 0, none⟩) 2 2) := (blk_cell BS.out 4).trans rfl
              go_wp2_with fail
              clear l_BS q_BS_0 q_BS_1 q_BS_2 q_BS_3 q_BS_4
              refine (node_Valid.calls 0 1 0 0 none 0 [] _ 2 [⟨x0, x1, x2, l3, l4⟩, ⟨y0, y1, y2, m3, m4⟩] (true) _ (Kd.C_nil _ _) (Nat.le_refl _) HC1.out (Nat.le_refl _) HVS.out HT.out).mono ?_
              rintro e w10 ⟨rfl, hb⟩
              replace HT := Lib.hid (HT.out.below hb)
              replace HR3 := Lib.hid (Kd.C_below HR3.out hb)
              replace HR4 := Lib.hid (Kd.C_below HR4.out hb)
              replace HQ3 := Lib.hid (Kd.C_below HQ3.out hb)
              replace HQ4 := Lib.hid (Kd.C_below HQ4.out hb)
              replace HB := Lib.hid (below_step HB.out hb)
              replace HC1 := Lib.hid (Kd.C_below HC1.out hb)
              replace HC2 := Lib.hid (Kd.C_below HC2.out hb)
              replace HC3 := Lib.hid (Kd.C_below HC3.out hb)
              replace BN := Lib.hid (blk_below BN.out hb)
              replace BM := Lib.hid (blk_below BM.out hb)
              replace BS := Lib.hid (blk_below BS.out hb)
              replace BL := Lib.hid (blk_below BL.out hb)
              replace BC := Lib.hid (blk_below BC.out hb)
              clear hb
              clear hm_ hm
              have l_BL : w7.heap.size + 1 + 1 + 1 < w10.heap.size := blk_lt BL.out
              have q_BL_0 : w10.cell? ⟨w7.heap.size + 1 + 1 + 1, 0, none⟩ = some (.int .i64 2) := (blk_cell BL.out 0).trans rfl
              have q_BL_1 : w10.cell? ⟨w7.heap.size + 1 + 1 + 1, 1, none⟩ = some (.int .i64 6) := (blk_cell BL.out 1).trans rfl
              have q_BL_2 : w10.cell? ⟨w7.heap.size + 1 + 1 + 1, 2, none⟩ = some (.int .i64 2) := (blk_cell BL.out 2).trans rfl
              have q_BL_3 : w10.cell? ⟨w7.heap.size + 1 + 1 + 1, 3, none⟩ = some (.slice none 0 0) := (blk_cell BL.out 3).trans rfl
              have q_BL_4 : w10.cell? ⟨w7.heap.size + 1 + 1 + 1, 4, none⟩ = some (.slice (some ⟨w7.heap.size + 1 + 1, 0, none⟩) 2 2) := (blk_cell BL.out 4).trans rfl
              go_wp2_with fail
              clear l_BL q_BL_0 q_BL_1 q_BL_2 q_BL_3 q_BL_4
              refine (node_Valid.calls 0 2 6 2 none 0 [] _ 2 [⟨x0, x1, x2, l3, l4⟩, ⟨y0, y1, y2, m3, m4⟩] (true) _ (Kd.C_nil _ _) (Nat.le_refl _) HC2.out (Nat.le_refl _) HVL.out HT.out).mono ?_
              rintro e w11 ⟨rfl, hb⟩
              replace HT := Lib.hid (HT.out.below hb)
              replace HR3 := Lib.hid (Kd.C_below HR3.out hb)
              replace HR4 := Lib.hid (Kd.C_below HR4.out hb)
              replace HQ3 := Lib.hid (Kd.C_below HQ3.out hb)
              replace HQ4 := Lib.hid (Kd.C_below HQ4.out hb)
              replace HB := Lib.hid (below_step HB.out hb)
              replace HC1 := Lib.hid (Kd.C_below HC1.out hb)
              replace HC2 := Lib.hid (Kd.C_below HC2.out hb)
              replace HC3 := Lib.hid (Kd.C_below HC3.out hb)
              replace BN := Lib.hid (blk_below BN.out hb)
              replace BM := Lib.hid (blk_below BM.out hb)
              replace BS := Lib.hid (blk_below BS.out hb)
              replace BL := Lib.hid (blk_below BL.out hb)
              replace BC := Lib.hid (blk_below BC.out hb)
              clear hb
              have l_BC : w7.heap.size + 1 + 1 + 1 + 1 + 1 < w11.heap.size := blk_lt BC.out
              have q_BC_0 : w11.cell? ⟨w7.heap.size + 1 + 1 + 1 + 1 + 1, 0, none⟩ = some (.int .i64 2) := (blk_cell BC.out 0).trans rfl
              have q_BC_1 : w11.cell? ⟨w7.heap.size + 1 + 1 + 1 + 1 + 1, 1, none⟩ = some (.int .i64 7) := (blk_cell BC.out 1).trans rfl
              have q_BC_2 : w11.cell? ⟨w7.heap.size + 1 + 1 + 1 + 1 + 1, 2, none⟩ = some (.int .i64 1) := (blk_cell BC.out 2).trans rfl
              have q_BC_3 : w11.cell? ⟨w7.heap.size + 1 + 1 + 1 + 1 + 1, 3, none⟩ = some (.slice none 0 0) := (blk_cell BC.out 3).trans rfl
              have q_BC_4 : w11.cell? ⟨w7.heap.size + 1 + 1 + 1 + 1 + 1, 4, none⟩ = some (.slice (some ⟨w7.heap.size + 1 + 1 + 1 + 1, 0, none⟩) 1 1) := (blk_cell BC.out 4).trans rfl
              go_wp2_with fail
              clear l_BC q_BC_0 q_BC_1 q_BC_2 q_BC_3 q_BC_4
              refine (node_Valid.calls 0 2 7 1 none 0 [] _ 1 [exs ⟨x0, x1, x2, l3, l4⟩ ⟨y0, y1, y2, m3, m4⟩] (true) _ (Kd.C_nil _ _) (Nat.le_refl _) HC3.out (Nat.le_refl _) HVC.out HT.out).mono ?_
              rintro e w12 ⟨rfl, hb⟩
              replace HT := Lib.hid (HT.out.below hb)
              replace HR3 := Lib.hid (Kd.C_below HR3.out hb)
              replace HR4 := Lib.hid (Kd.C_below HR4.out hb)
              replace HQ3 := Lib.hid (Kd.C_below HQ3.out hb)
              replace HQ4 := Lib.hid (Kd.C_below HQ4.out hb)
              replace HB := Lib.hid (below_step HB.out hb)
              replace HC1 := Lib.hid (Kd.C_below HC1.out hb)
              replace HC2 := Lib.hid (Kd.C_below HC2.out hb)
              replace HC3 := Lib.hid (Kd.C_below HC3.out hb)
              replace BN := Lib.hid (blk_below BN.out hb)
              replace BM := Lib.hid (blk_below BM.out hb)
              replace BS := Lib.hid (blk_below BS.out hb)
              replace BL := Lib.hid (blk_below BL.out hb)
              replace BC := Lib.hid (blk_below BC.out hb)
              clear hb
              have l_BS : w7.heap.size + 1 < w12.heap.size := blk_lt BS.out
              have q_BS_0 : w12.cell? ⟨w7.heap.size + 1, 0, none⟩ = some (.int .i64 1) := (blk_cell BS.out 0).trans rfl
              have q_BS_1 : w12.cell? ⟨w7.heap.size + 1, 1, none⟩ = some (.int .i64 0) := (blk_cell BS.out 1).trans rfl
              have q_BS_2 : w12.cell? ⟨w7.heap.size + 1, 2, none⟩ = some (.int .i64 0) := (blk_cell BS.out 2).trans rfl
              have q_BS_3 : w12.cell? ⟨w7.heap.size + 1, 3, none⟩ = some (.slice none 0 0) := (blk_cell BS.out 3).trans rfl
              have q_BS_4 : w12.cell? ⟨w7.heap.size + 1, 4, none⟩ = some (.slice (some ⟨w7.heap.size, 0, none⟩) 2 2) := (blk_cell BS.out 4).trans rfl
              go_wp2_with fail
              clear l_BS q_BS_0 q_BS_1 q_BS_2 q_BS_3 q_BS_4
              refine (node_Objects.calls 0 1 0 0 none 0 [] _ 2 [⟨x0, x1, x2, l3, l4⟩, ⟨y0, y1, y2, m3, m4⟩] (wrap64 (wrap64 (1 + O) + O2)) _ (Kd.C_nil _ _) (Nat.le_refl _) HC1.out (Nat.le_refl _) HOS.out).mono ?_
              rintro e w13 ⟨rfl, hb⟩
              replace HT := Lib.hid (HT.out.below hb)
              replace HR3 := Lib.hid (Kd.C_below HR3.out hb)
              replace HR4 := Lib.hid (Kd.C_below HR4.out hb)
              replace HQ3 := Lib.hid (Kd.C_below HQ3.out hb)
              replace HQ4 := Lib.hid (Kd.C_below HQ4.out hb)
              replace HB := Lib.hid (below_step HB.out hb)
              replace HC1 := Lib.hid (Kd.C_below HC1.out hb)
              replace HC2 := Lib.hid (Kd.C_below HC2.out hb)
              replace HC3 := Lib.hid (Kd.C_below HC3.out hb)
              replace BN := Lib.hid (blk_below BN.out hb)
              replace BM := Lib.hid (blk_below BM.out hb)
              replace BS := Lib.hid (blk_below BS.out hb)
              replace BL := Lib.hid (blk_below BL.out hb)
              replace BC := Lib.hid (blk_below BC.out hb)
              clear hb
              have l_BL : w7.heap.size + 1 + 1 + 1 < w13.heap.size := blk_lt BL.out
              have q_BL_0 : w13.cell? ⟨w7.heap.size + 1 + 1 + 1, 0, none⟩ = some (.int .i64 2) := (blk_cell BL.out 0).trans rfl
              have q_BL_1 : w13.cell? ⟨w7.heap.size + 1 + 1 + 1, 1, none⟩ = some (.int .i64 6) := (blk_cell BL.out 1).trans rfl
              have q_BL_2 : w13.cell? ⟨w7.heap.size + 1 + 1 + 1, 2, none⟩ = some (.int .i64 2) := (blk_cell BL.out 2).trans rfl
              have q_BL_3 : w13.cell? ⟨w7.heap.size + 1 + 1 + 1, 3, none⟩ = some (.slice none 0 0) := (blk_cell BL.out 3).trans rfl
              have q_BL_4 : w13.cell? ⟨w7.heap.size + 1 + 1 + 1, 4, none⟩ = some (.slice (some ⟨w7.heap.size + 1 + 1, 0, none⟩) 2 2) := (blk_cell BL.out 4).trans rfl
              go_wp2_with fail
              clear l_BL q_BL_0 q_BL_1 q_BL_2 q_BL_3 q_BL_4
              refine (node_Objects.calls 0 2 6 2 none 0 [] _ 2 [⟨x0, x1, x2, l3, l4⟩, ⟨y0, y1, y2, m3, m4⟩] (wrap64 (wrap64 (1 + O) + O2)) _ (Kd.C_nil _ _) (Nat.le_refl _) HC2.out (Nat.le_refl _) HOL.out).mono ?_
              rintro e w14 ⟨rfl, hb⟩
              replace HT := Lib.hid (HT.out.below hb)
              replace HR3 := Lib.hid (Kd.C_below HR3.out hb)
              replace HR4 := Lib.hid (Kd.C_below HR4.out hb)
              replace HQ3 := Lib.hid (Kd.C_below HQ3.out hb)
              replace HQ4 := Lib.hid (Kd.C_below HQ4.out hb)
              replace HB := Lib.hid (below_step HB.out hb)
              replace HC1 := Lib.hid (Kd.C_below HC1.out hb)
              replace HC2 := Lib.hid (Kd.C_below HC2.out hb)
              replace HC3 := Lib.hid (Kd.C_below HC3.out hb)
              replace BN := Lib.hid (blk_below BN.out hb)
              replace BM := Lib.hid (blk_below BM.out hb)
              replace BS := Lib.hid (blk_below BS.out hb)
              replace BL := Lib.hid (blk_below BL.out hb)
              replace BC := Lib.hid (blk_below BC.out hb)
              clear hb
              have l_BC : w7.heap.size + 1 + 1 + 1 + 1 + 1 < w14.heap.size := blk_lt BC.out
              have q_BC_0 : w14.cell? ⟨w7.heap.size + 1 + 1 + 1 + 1 + 1, 0, none⟩ = some (.int .i64 2) := (blk_cell BC.out 0).trans rfl
              have q_BC_1 : w14.cell? ⟨w7.heap.size + 1 + 1 + 1 + 1 + 1, 1, none⟩ = some (.int .i64 7) := (blk_cell BC.out 1).trans rfl
              have q_BC_2 : w14.cell? ⟨w7.heap.size + 1 + 1 + 1 + 1 + 1, 2, none⟩ = some (.int .i64 1) := (blk_cell BC.out 2).trans rfl
              have q_BC_3 : w14.cell? ⟨w7.heap.size + 1 + 1 + 1 + 1 + 1, 3, none⟩ = some (.slice none 0 0) := (blk_cell BC.out 3).trans rfl
              have q_BC_4 : w14.cell? ⟨w7.heap.size + 1 + 1 + 1 + 1 + 1, 4, none⟩ = some (.slice (some ⟨w7.heap.size + 1 + 1 + 1 + 1, 0, none⟩) 1 1) := (blk_cell BC.out 4).trans rfl
              go_wp2_with fail
              clear l_BC q_BC_0 q_BC_1 q_BC_2 q_BC_3 q_BC_4
              refine (node_Objects.calls 0 2 7 1 none 0 [] _ 1 [exs ⟨x0, x1, x2, l3, l4⟩ ⟨y0, y1, y2, m3, m4⟩] (wrap64 (wrap64 (1 + O) + O2)) _ (Kd.C_nil _ _) (Nat.le_refl _) HC3.out (Nat.le_refl _) HOC.out).mono ?_
              rintro e w15 ⟨rfl, hb⟩
              replace HT := Lib.hid (HT.out.below hb)
              replace HR3 := Lib.hid (Kd.C_below HR3.out hb)
              replace HR4 := Lib.hid (Kd.C_below HR4.out hb)
              replace HQ3 := Lib.hid (Kd.C_below HQ3.out hb)
              replace HQ4 := Lib.hid (Kd.C_below HQ4.out hb)
              replace HB := Lib.hid (below_step HB.out hb)
              replace HC1 := Lib.hid (Kd.C_below HC1.out hb)
              replace HC2 := Lib.hid (Kd.C_below HC2.out hb)
              replace HC3 := Lib.hid (Kd.C_below HC3.out hb)
              replace BN := Lib.hid (blk_below BN.out hb)
              replace BM := Lib.hid (blk_below BM.out hb)
              replace BS := Lib.hid (blk_below BS.out hb)
              replace BL := Lib.hid (blk_below BL.out hb)
              replace BC := Lib.hid (blk_below BC.out hb)
              clear hb
              have l_BS : w7.heap.size + 1 < w15.heap.size := blk_lt BS.out
              have q_BS_0 : w15.cell? ⟨w7.heap.size + 1, 0, none⟩ = some (.int .i64 1) := (blk_cell BS.out 0).trans rfl
              have q_BS_1 : w15.cell? ⟨w7.heap.size + 1, 1, none⟩ = some (.int .i64 0) := (blk_cell BS.out 1).trans rfl
              have q_BS_2 : w15.cell? ⟨w7.heap.size + 1, 2, none⟩ = some (.int .i64 0) := (blk_cell BS.out 2).trans rfl
              have q_BS_3 : w15.cell? ⟨w7.heap.size + 1, 3, none⟩ = some (.slice none 0 0) := (blk_cell BS.out 3).trans rfl
              have q_BS_4 : w15.cell? ⟨w7.heap.size + 1, 4, none⟩ = some (.slice (some ⟨w7.heap.size, 0, none⟩) 2 2) := (blk_cell BS.out 4).trans rfl
              go_wp2_with fail
              clear l_BS q_BS_0 q_BS_1 q_BS_2 q_BS_3 q_BS_4
              refine (node_Depth.calls 0 1 0 0 none 0 [] _ 2 [⟨x0, x1, x2, l3, l4⟩, ⟨y0, y1, y2, m3, m4⟩] (wrap64 (1 + D2)) _ (Kd.C_nil _ _) (Nat.le_refl _) HC1.out (Nat.le_refl _) HDS.out).mono ?_
              rintro e w16 ⟨rfl, hb⟩
              replace HT := Lib.hid (HT.out.below hb)
              replace HR3 := Lib.hid (Kd.C_below HR3.out hb)
              replace HR4 := Lib.hid (Kd.C_below HR4.out hb)
              replace HQ3 := Lib.hid (Kd.C_below HQ3.out hb)
              replace HQ4 := Lib.hid (Kd.C_below HQ4.out hb)
              replace HB := Lib.hid (below_step HB.out hb)
              replace HC1 := Lib.hid (Kd.C_below HC1.out hb)
              replace HC2 := Lib.hid (Kd.C_below HC2.out hb)
              replace HC3 := Lib.hid (Kd.C_below HC3.out hb)
              replace BN := Lib.hid (blk_below BN.out hb)
              replace BM := Lib.hid (blk_below BM.out hb)
              replace BS := Lib.hid (blk_below BS.out hb)
              replace BL := Lib.hid (blk_below BL.out hb)
              replace BC := Lib.hid (blk_below BC.out hb)
              clear hb
              have l_BL : w7.heap.size + 1 + 1 + 1 < w16.heap.size := blk_lt BL.out
              have q_BL_0 : w16.cell? ⟨w7.heap.size + 1 + 1 + 1, 0, none⟩ = some (.int .i64 2) := (blk_cell BL.out 0).trans rfl
              have q_BL_1 : w16.cell? ⟨w7.heap.size + 1 + 1 + 1, 1, none⟩ = some (.int .i64 6) := (blk_cell BL.out 1).trans rfl
              have q_BL_2 : w16.cell? ⟨w7.heap.size + 1 + 1 + 1, 2, none⟩ = some (.int .i64 2) := (blk_cell BL.out 2).trans rfl
              have q_BL_3 : w16.cell? ⟨w7.heap.size + 1 + 1 + 1, 3, none⟩ = some (.slice none 0 0) := (blk_cell BL.out 3).trans rfl
              have q_BL_4 : w16.cell? ⟨w7.heap.size + 1 + 1 + 1, 4, none⟩ = some (.slice (some ⟨w7.heap.size + 1 + 1, 0, none⟩) 2 2) := (blk_cell BL.out 4).trans rfl
              go_wp2_with fail
              clear l_BL q_BL_0 q_BL_1 q_BL_2 q_BL_3 q_BL_4
              refine (node_Depth.calls 0 2 6 2 none 0 [] _ 2 [⟨x0, x1, x2, l3, l4⟩, ⟨y0, y1, y2, m3, m4⟩] (wrap64 (1 + D2)) _ (Kd.C_nil _ _) (Nat.le_refl _) HC2.out (Nat.le_refl _) HDL.out).mono ?_
              rintro e w17 ⟨rfl, hb⟩
              replace HT := Lib.hid (HT.out.below hb)
              replace HR3 := Lib.hid (Kd.C_below HR3.out hb)
              replace HR4 := Lib.hid (Kd.C_below HR4.out hb)
              replace HQ3 := Lib.hid (Kd.C_below HQ3.out hb)
              replace HQ4 := Lib.hid (Kd.C_below HQ4.out hb)
              replace HB := Lib.hid (below_step HB.out hb)
              replace HC1 := Lib.hid (Kd.C_below HC1.out hb)
              replace HC2 := Lib.hid (Kd.C_below HC2.out hb)
              replace HC3 := Lib.hid (Kd.C_below HC3.out hb)
              replace BN := Lib.hid (blk_below BN.out hb)
              replace BM := Lib.hid (blk_below BM.out hb)
              replace BS := Lib.hid (blk_below BS.out hb)
              replace BL := Lib.hid (blk_below BL.out hb)
              replace BC := Lib.hid (blk_below BC.out hb)
              clear hb
              have l_BC : w7.heap.size + 1 + 1 + 1 + 1 + 1 < w17.heap.size := blk_lt BC.out
              have q_BC_0 : w17.cell? ⟨w7.heap.size + 1 + 1 + 1 + 1 + 1, 0, none⟩ = some (.int .i64 2) := (blk_cell BC.out 0).trans rfl
              have q_BC_1 : w17.cell? ⟨w7.heap.size + 1 + 1 + 1 + 1 + 1, 1, none⟩ = some (.int .i64 7) := (blk_cell BC.out 1).trans rfl
              have q_BC_2 : w17.cell? ⟨w7.heap.size + 1 + 1 + 1 + 1 + 1, 2, none⟩ = some (.int .i64 1) := (blk_cell BC.out 2).trans rfl
              have q_BC_3 : w17.cell? ⟨w7.heap.size + 1 + 1 + 1 + 1 + 1, 3, none⟩ = some (.slice none 0 0) := (blk_cell BC.out 3).trans rfl
              have q_BC_4 : w17.cell? ⟨w7.heap.size + 1 + 1 + 1 + 1 + 1, 4, none⟩ = some (.slice (some ⟨w7.heap.size + 1 + 1 + 1 + 1, 0, none⟩) 1 1) := (blk_cell BC.out 4).trans rfl
              go_wp2_with fail
              clear l_BC q_BC_0 q_BC_1 q_BC_2 q_BC_3 q_BC_4
              refine (node_Depth.calls 0 2 7 1 none 0 [] _ 1 [exs ⟨x0, x1, x2, l3, l4⟩ ⟨y0, y1, y2, m3, m4⟩] (wrap64 (1 + D2)) _ (Kd.C_nil _ _) (Nat.le_refl _) HC3.out (Nat.le_refl _) HDC.out).mono ?_
              rintro e w18 ⟨rfl, hb⟩
              replace HT := Lib.hid (HT.out.below hb)
              replace HR3 := Lib.hid (Kd.C_below HR3.out hb)
              replace HR4 := Lib.hid (Kd.C_below HR4.out hb)
              replace HQ3 := Lib.hid (Kd.C_below HQ3.out hb)
              replace HQ4 := Lib.hid (Kd.C_below HQ4.out hb)
              replace HB := Lib.hid (below_step HB.out hb)
              replace HC1 := Lib.hid (Kd.C_below HC1.out hb)
              replace HC2 := Lib.hid (Kd.C_below HC2.out hb)
              replace HC3 := Lib.hid (Kd.C_below HC3.out hb)
              replace BN := Lib.hid (blk_below BN.out hb)
              replace BM := Lib.hid (blk_below BM.out hb)
              replace BS := Lib.hid (blk_below BS.out hb)
              replace BL := Lib.hid (blk_below BL.out hb)
              replace BC := Lib.hid (blk_below BC.out hb)
              clear hb
              go_wp2
              go_ret
              exact ⟨by simp, HB.out⟩
            · have em : mx D D2 = D := by unfold mx; rw [if_neg (by omega)]
              have t := HDS.out
              rw [em] at t
              replace HDS := Lib.hid t
              clear t
              have t := HDL.out
              rw [em] at t
              replace HDL := Lib.hid t
              clear t
              have t := HDC.out
              rw [em] at t
              replace HDC := Lib.hid t
              clear t
              clear em
              have hm_ : decide (D < D2) = false := by simp; omega
              have l_BS : w7.heap.size + 1 < w9.heap.size := blk_lt BS.out
              have q_BS_0 : w9.cell? ⟨w7.heap.size + 1, 0, none⟩ = some (.int .i64 1) := (blk_cell BS.out 0).trans rfl
              have q_BS_1 : w9.cell? ⟨w7.heap.size + 1, 1, none⟩ = some (.int .i64 0) := (blk_cell BS.out 1).trans rfl
              have q_BS_2 : w9.cell? ⟨w7.heap.size + 1, 2, none⟩ = some (.int .i64 0) := (blk_cell BS.out 2).trans rfl
              have q_BS_3 : w9.cell? ⟨w7.heap.size + 1, 3, none⟩ = some (.slice none 0 0) := (blk_cell BS.out 3).trans rfl
              have q_BS_4 : w9.cell? ⟨w7.heap.size + 1, 4, none⟩ = some (.slice (some ⟨w7.heap.size, 0, none⟩) 2 2) := (blk_cell BS.out 4).trans rfl
              go_wp2_with fail
              clear l_BS q_BS_0 q_BS_1 q_BS_2 q_BS_3 q_BS_4
              refine (node_Valid.calls 0 1 0 0 none 0 [] _ 2 [⟨x0, x1, x2, l3, l4⟩, ⟨y0, y1, y2, m3, m4⟩] (true) _ (Kd.C_nil _ _) (Nat.le_refl _) HC1.out (Nat.le_refl _) HVS.out HT.out).mono ?_
              rintro e w10 ⟨rfl, hb⟩
              replace HT := Lib.hid (HT.out.below hb)
              replace HR3 := Lib.hid (Kd.C_below HR3.out hb)
              replace HR4 := Lib.hid (Kd.C_below HR4.out hb)
              replace HQ3 := Lib.hid (Kd.C_below HQ3.out hb)
              replace HQ4 := Lib.hid (Kd.C_below HQ4.out hb)
              replace HB := Lib.hid (below_step HB.out hb)
              replace HC1 := Lib.hid (Kd.C_below HC1.out hb)
              replace HC2 := Lib.hid (Kd.C_below HC2.out hb)
              replace HC3 := Lib.hid (Kd.C_below HC3.out hb)
              replace BN := Lib.hid (blk_below BN.out hb)
              replace BM := Lib.hid (blk_below BM.out hb)
              replace BS := Lib.hid (blk_below BS.out hb)
              replace BL := Lib.hid (blk_below BL.out hb)
              replace BC := Lib.hid (blk_below BC.out hb)
              clear hb
              clear hm_ hm
              have l_BL : w7.heap.size + 1 + 1 + 1 < w10.heap.size := blk_lt BL.out
              have q_BL_0 : w10.cell? ⟨w7.heap.size + 1 + 1 + 1, 0, none⟩ = some (.int .i64 2) := (blk_cell BL.out 0).trans rfl
              have q_BL_1 : w10.cell? ⟨w7.heap.size + 1 + 1 + 1, 1, none⟩ = some (.int .i64 6) := (blk_cell BL.out 1).trans rfl
              have q_BL_2 : w10.cell? ⟨w7.heap.size + 1 + 1 + 1, 2, none⟩ = some (.int .i64 2) := (blk_cell BL.out 2).trans rfl
              have q_BL_3 : w10.cell? ⟨w7.heap.size + 1 + 1 + 1, 3, none⟩ = some (.slice none 0 0) := (blk_cell BL.out 3).trans rfl
              have q_BL_4 : w10.cell? ⟨w7.heap.size + 1 + 1 + 1, 4, none⟩ = some (.slice (some ⟨w7.heap.size + 1 + 1, 0, none⟩) 2 2) := (blk_cell BL.out 4).trans rfl
              go_wp2_with fail
              clear l_BL q_BL_0 q_BL_1 q_BL_2 q_BL_3 q_BL_4
              refine (node_Valid.calls 0 2 6 2 none 0 [] _ 2 [⟨x0, x1, x2, l3, l4⟩, ⟨y0, y1, y2, m3, m4⟩] (true) _ (Kd.C_nil _ _) (Nat.le_refl _) HC2.out (Nat.le_refl _) HVL.out HT.out).mono ?_
              rintro e w11 ⟨rfl, hb⟩
              replace HT := Lib.hid (HT.out.below hb)
              replace HR3 := Lib.hid (Kd.C_below HR3.out hb)
              replace HR4 := Lib.hid (Kd.C_below HR4.out hb)
              replace HQ3 := Lib.hid (Kd.C_below HQ3.out hb)
              replace HQ4 := Lib.hid (Kd.C_below HQ4.out hb)
              replace HB := Lib.hid (below_step HB.out hb)
              replace HC1 := Lib.hid (Kd.C_below HC1.out hb)
              replace HC2 := Lib.hid (Kd.C_below HC2.out hb)
              replace HC3 := Lib.hid (Kd.C_below HC3.out hb)
              replace BN := Lib.hid (blk_below BN.out hb)
              replace BM := Lib.hid (blk_below BM.out hb)
              replace BS := Lib.hid (blk_below BS.out hb)
              replace BL := Lib.hid (blk_below BL.out hb)
              replace BC := Lib.hid (blk_below BC.out hb)
              clear hb
              have l_BC : w7.heap.size + 1 + 1 + 1 + 1 + 1 < w11.heap.size := blk_lt BC.out
              have q_BC_0 : w11.cell? ⟨w7.heap.size + 1 + 1 + 1 + 1 + 1, 0, none⟩ = some (.int .i64 2) := (blk_cell BC.out 0).trans rfl
              have q_BC_1 : w11.cell? ⟨w7.heap.size + 1 + 1 + 1 + 1 + 1, 1, none⟩ = some (.int .i64 7) := (blk_cell BC.out 1).trans rfl
              have q_BC_2 : w11.cell? ⟨w7.heap.size + 1 + 1 + 1 + 1 + 1, 2, none⟩ = some (.int .i64 1) := (blk_cell BC.out 2).trans rfl
              have q_BC_3 : w11.cell? ⟨w7.heap.size + 1 + 1 + 1 + 1 + 1, 3, none⟩ = some (.slice none 0 0) := (blk_cell BC.out 3).trans rfl
              have q_BC_4 : w11.cell? ⟨w7.heap.size + 1 + 1 + 1 + 1 + 1, 4, none⟩ = some (.slice (some ⟨w7.heap.size + 1 + 1 + 1 + 1, 0, none⟩) 1 1) := (blk_cell BC.out 4).trans rfl
              go_wp2_with fail
              clear l_BC q_BC_0 q_BC_1 q_BC_2 q_BC_3 q_BC_4
              refine (node_Valid.calls 0 2 7 1 none 0 [] _ 1 [exs ⟨x0, x1, x2, l3, l4⟩ ⟨y0, y1, y2, m3, m4⟩] (true) _ (Kd.C_nil _ _) (Nat.le_refl _) HC3.out (Nat.le_refl _) HVC.out HT.out).mono ?_
              rintro e w12 ⟨rfl, hb⟩
              replace HT := Lib.hid (HT.out.below hb)
              replace HR3 := Lib.hid (Kd.C_below HR3.out hb)
              replace HR4 := Lib.hid (Kd.C_below HR4.out hb)
              replace HQ3 := Lib.hid (Kd.C_below HQ3.out hb)
              replace HQ4 := Lib.hid (Kd.C_below HQ4.out hb)
              replace HB := Lib.hid (below_step HB.out hb)
              replace HC1 := Lib.hid (Kd.C_below HC1.out hb)
              replace HC2 := Lib.hid (Kd.C_below HC2.out hb)
              replace HC3 := Lib.hid (Kd.C_below HC3.out hb)
              replace BN := Lib.hid (blk_below BN.out hb)
              replace BM := Lib.hid (blk_below BM.out hb)
              replace BS := Lib.hid (blk_below BS.out hb)
              replace BL := Lib.hid (blk_below BL.out hb)
              replace BC := Lib.hid (blk_below BC.out hb)
              clear hb
              have l_BS : w7.heap.size + 1 < w12.heap.size := blk_lt BS.out
              have q_BS_0 : w12.cell? ⟨w7.heap.size + 1, 0, none⟩ = some (.int .i64 1) := (blk_cell BS.out 0).trans rfl
              have q_BS_1 : w12.cell? ⟨w7.heap.size + 1, 1, none⟩ = some (.int .i64 0) := (blk_cell BS.out 1).trans rfl
              have q_BS_2 : w12.cell? ⟨w7.heap.size + 1, 2, none⟩ = some (.int .i64 0) := (blk_cell BS.out 2).trans rfl
              have q_BS_3 : w12.cell? ⟨w7.heap.size + 1, 3, none⟩ = some (.slice none 0 0) := (blk_cell BS.out 3).trans rfl
              have q_BS_4 : w12.cell? ⟨w7.heap.size + 1, 4, none⟩ = some (.slice (some ⟨w7.heap.size, 0, none⟩) 2 2) := (blk_cell BS.out 4).trans rfl
              go_wp2_with fail
              clear l_BS q_BS_0 q_BS_1 q_BS_2 q_BS_3 q_BS_4
              refine (node_Objects.calls 0 1 0 0 none 0 [] _ 2 [⟨x0, x1, x2, l3, l4⟩, ⟨y0, y1, y2, m3, m4⟩] (wrap64 (wrap64 (1 + O) + O2)) _ (Kd.C_nil _ _) (Nat.le_refl _) HC1.out (Nat.le_refl _) HOS.out).mono ?_
              rintro e w13 ⟨rfl, hb⟩
              replace HT := Lib.hid (HT.out.below hb)
              replace HR3 := Lib.hid (Kd.C_below HR3.out hb)
              replace HR4 := Lib.hid (Kd.C_below HR4.out hb)
              replace HQ3 := Lib.hid (Kd.C_below HQ3.out hb)
              replace HQ4 := Lib.hid (Kd.C_below HQ4.out hb)
              replace HB := Lib.hid (below_step HB.out hb)
              replace HC1 := Lib.hid (Kd.C_below HC1.out hb)
              replace HC2 := Lib.hid (Kd.C_below HC2.out hb)
              replace HC3 := Lib.hid (Kd.C_below HC3.out hb)
              replace BN := Lib.hid (blk_below BN.out hb)
              replace BM := Lib.hid (blk_below BM.out hb)
              replace BS := Lib.hid (blk_below BS.out hb)
              replace BL := Lib.hid (blk_below BL.out hb)
              replace BC := Lib.hid (blk_below BC.out hb)
              clear hb
              have l_BL : w7.heap.size + 1 + 1 + 1 < w13.heap.size := blk_lt BL.out
              have q_BL_0 : w13.cell? ⟨w7.heap.size + 1 + 1 + 1, 0, none⟩ = some (.int .i64 2) := (blk_cell BL.out 0).trans rfl
              have q_BL_1 : w13.cell? ⟨w7.heap.size + 1 + 1 + 1, 1, none⟩ = some (.int .i64 6) := (blk_cell BL.out 1).trans rfl
              have q_BL_2 : w13.cell? ⟨w7.heap.size + 1 + 1 + 1, 2, none⟩ = some (.int .i64 2) := (blk_cell BL.out 2).trans rfl
              have q_BL_3 : w13.cell? ⟨w7.heap.size + 1 + 1 + 1, 3, none⟩ = some (.slice none 0 0) := (blk_cell BL.out 3).trans rfl
              have q_BL_4 : w13.cell? ⟨w7.heap.size + 1 + 1 + 1, 4, none⟩ = some (.slice (some ⟨w7.heap.size + 1 + 1, 0, none⟩) 2 2) := (blk_cell BL.out 4).trans rfl
              go_wp2_with fail
              clear l_BL q_BL_0 q_BL_1 q_BL_2 q_BL_3 q_BL_4
              refine (node_Objects.calls 0 2 6 2 none 0 [] _ 2 [⟨x0, x1, x2, l3, l4⟩, ⟨y0, y1, y2, m3, m4⟩] (wrap64 (wrap64 (1 + O) + O2)) _ (Kd.C_nil _ _) (Nat.le_refl _) HC2.out (Nat.le_refl _) HOL.out).mono ?_
              rintro e w14 ⟨rfl, hb⟩
              replace HT := Lib.hid (HT.out.below hb)
              replace HR3 := Lib.hid (Kd.C_below HR3.out hb)
              replace HR4 := Lib.hid (Kd.C_below HR4.out hb)
              replace HQ3 := Lib.hid (Kd.C_below HQ3.out hb)
              replace HQ4 := Lib.hid (Kd.C_below HQ4.out hb)
              replace HB := Lib.hid (below_step HB.out hb)
              replace HC1 := Lib.hid (Kd.C_below HC1.out hb)
              replace HC2 := Lib.hid (Kd.C_below HC2.out hb)
              replace HC3 := Lib.hid (Kd.C_below HC3.out hb)
              replace BN := Lib.hid (blk_below BN.out hb)
              replace BM := Lib.hid (blk_below BM.out hb)
              replace BS := Lib.hid (blk_below BS.out hb)
              replace BL := Lib.hid (blk_below BL.out hb)
              replace BC := Lib.hid (blk_below BC.out hb)
              clear hb
              have l_BC : w7.heap.size + 1 + 1 + 1 + 1 + 1 < w14.heap.size := blk_lt BC.out
              have q_BC_0 : w14.cell? ⟨w7.heap.size + 1 + 1 + 1 + 1 + 1, 0, none⟩ = some (.int .i64 2) := (blk_cell BC.out 0).trans rfl
              have q_BC_1 : w14.cell? ⟨w7.heap.size + 1 + 1 + 1 + 1 + 1, 1, none⟩ = some (.int .i64 7) := (blk_cell BC.out 1).trans rfl
              have q_BC_2 : w14.cell? ⟨w7.heap.size + 1 + 1 + 1 + 1 + 1, 2, none⟩ = some (.int .i64 1) := (blk_cell BC.out 2).trans rfl
              have q_BC_3 : w14.cell? ⟨w7.heap.size + 1 + 1 + 1 + 1 + 1, 3, none⟩ = some (.slice none 0 0) := (blk_cell BC.out 3).trans rfl
              have q_BC_4 : w14.cell? ⟨w7.heap.size + 1 + 1 + 1 + 1 + 1, 4, none⟩ = some (.slice (some ⟨w7.heap.size + 1 + 1 + 1 + 1, 0, none⟩) 1 1) := (blk_cell BC.out 4).trans rfl
              go_wp2_with fail
              clear l_BC q_BC_0 q_BC_1 q_BC_2 q_BC_3 q_BC_4
              refine (node_Objects.calls 0 2 7 1 none 0 [] _ 1 [exs ⟨x0, x1, x2, l3, l4⟩ ⟨y0, y1, y2, m3, m4⟩] (wrap64 (wrap64 (1 + O) + O2)) _ (Kd.C_nil _ _) (Nat.le_refl _) HC3.out (Nat.le_refl _) HOC.out).mono ?_
              rintro e w15 ⟨rfl, hb⟩
              replace HT := Lib.hid (HT.out.below hb)
              replace HR3 := Lib.hid (Kd.C_below HR3.out hb)
              replace HR4 := Lib.hid (Kd.C_below HR4.out hb)
              replace HQ3 := Lib.hid (Kd.C_below HQ3.out hb)
              replace HQ4 := Lib.hid (Kd.C_below HQ4.out hb)
              replace HB := Lib.hid (below_step HB.out hb)
              replace HC1 := Lib.hid (Kd.C_below HC1.out hb)
              replace HC2 := Lib.hid (Kd.C_below HC2.out hb)
              replace HC3 := Lib.hid (Kd.C_below HC3.out hb)
              replace BN := Lib.hid (blk_below BN.out hb)
              replace BM := Lib.hid (blk_below BM.out hb)
              replace BS := Lib.hid (blk_below BS.out hb)
              replace BL := Lib.hid (blk_below BL.out hb)
              replace BC := Lib.hid (blk_below BC.out hb)
              clear hb
              have l_BS : w7.heap.size + 1 < w15.heap.size := blk_lt BS.out
              have q_BS_0 : w15.cell? ⟨w7.heap.size + 1, 0, none⟩ = some (.int .i64 1) := (blk_cell BS.out 0).trans rfl
              have q_BS_1 : w15.cell? ⟨w7.heap.size + 1, 1, none⟩ = some (.int .i64 0) := (blk_cell BS.out 1).trans rfl
              have q_BS_2 : w15.cell? ⟨w7.heap.size + 1, 2, none⟩ = some (.int .i64 0) := (blk_cell BS.out 2).trans rfl
              have q_BS_3 : w15.cell? ⟨w7.heap.size + 1, 3, none⟩ = some (.slice none 0 0) := (blk_cell BS.out 3).trans rfl
              have q_BS_4 : w15.cell? ⟨w7.heap.size + 1, 4, none⟩ = some (.slice (some ⟨w7.heap.size, 0, none⟩) 2 2) := (blk_cell BS.out 4).trans rfl
              go_wp2_with fail
              clear l_BS q_BS_0 q_BS_1 q_BS_2 q_BS_3 q_BS_4
              refine (node_Depth.calls 0 1 0 0 none 0 [] _ 2 [⟨x0, x1, x2, l3, l4⟩, ⟨y0, y1, y2, m3, m4⟩] (wrap64 (1 + D)) _ (Kd.C_nil _ _) (Nat.le_refl _) HC1.out (Nat.le_refl _) HDS.out).mono ?_
              rintro e w16 ⟨rfl, hb⟩
              replace HT := Lib.hid (HT.out.below hb)
              replace HR3 := Lib.hid (Kd.C_below HR3.out hb)
              replace HR4 := Lib.hid (Kd.C_below HR4.out hb)
              replace HQ3 := Lib.hid (Kd.C_below HQ3.out hb)
              replace HQ4 := Lib.hid (Kd.C_below HQ4.out hb)
              replace HB := Lib.hid (below_step HB.out hb)
              replace HC1 := Lib.hid (Kd.C_below HC1.out hb)
              replace HC2 := Lib.hid (Kd.C_below HC2.out hb)
              replace HC3 := Lib.hid (Kd.C_below HC3.out hb)
              replace BN := Lib.hid (blk_below BN.out hb)
              replace BM := Lib.hid (blk_below BM.out hb)
              replace BS := Lib.hid (blk_below BS.out hb)
              replace BL := Lib.hid (blk_below BL.out hb)
              replace BC := Lib.hid (blk_below BC.out hb)
              clear hb
              have l_BL : w7.heap.size + 1 + 1 + 1 < w16.heap.size := blk_lt BL.out
              have q_BL_0 : w16.cell? ⟨w7.heap.size + 1 + 1 + 1, 0, none⟩ = some (.int .i64 2) := (blk_cell BL.out 0).trans rfl
              have q_BL_1 : w16.cell? ⟨w7.heap.size + 1 + 1 + 1, 1, none⟩ = some (.int .i64 6) := (blk_cell BL.out 1).trans rfl
              have q_BL_2 : w16.cell? ⟨w7.heap.size + 1 + 1 + 1, 2, none⟩ = some (.int .i64 2) := (blk_cell BL.out 2).trans rfl
              have q_BL_3 : w16.cell? ⟨w7.heap.size + 1 + 1 + 1, 3, none⟩ = some (.slice none 0 0) := (blk_cell BL.out 3).trans rfl
              have q_BL_4 : w16.cell? ⟨w7.heap.size + 1 + 1 + 1, 4, none⟩ = some (.slice (some ⟨w7.heap.size + 1 + 1, 0, none⟩) 2 2) := (blk_cell BL.out 4).trans rfl
              go_wp2_with fail
              clear l_BL q_BL_0 q_BL_1 q_BL_2 q_BL_3 q_BL_4
              refine (node_Depth.calls 0 2 6 2 none 0 [] _ 2 [⟨x0, x1, x2, l3, l4⟩, ⟨y0, y1, y2, m3, m4⟩] (wrap64 (1 + D)) _ (Kd.C_nil _ _) (Nat.le_refl _) HC2.out (Nat.le_refl _) HDL.out).mono ?_
              rintro e w17 ⟨rfl, hb⟩
              replace HT := Lib.hid (HT.out.below hb)
              replace HR3 := Lib.hid (Kd.C_below HR3.out hb)
              replace HR4 := Lib.hid (Kd.C_below HR4.out hb)
              replace HQ3 := Lib.hid (Kd.C_below HQ3.out hb)
              replace HQ4 := Lib.hid (Kd.C_below HQ4.out hb)
              replace HB := Lib.hid (below_step HB.out hb)
              replace HC1 := Lib.hid (Kd.C_below HC1.out hb)
              replace HC2 := Lib.hid (Kd.C_below HC2.out hb)
              replace HC3 := Lib.hid (Kd.C_below HC3.out hb)
              replace BN := Lib.hid (blk_below BN.out hb)
              replace BM := Lib.hid (blk_below BM.out hb)
              replace BS := Lib.hid (blk_below BS.out hb)
              replace BL := Lib.hid (blk_below BL.out hb)
              replace BC := Lib.hid (blk_below BC.out hb)
              clear hb
              have l_BC : w7.heap.size + 1 + 1 + 1 + 1 + 1 < w17.heap.size := blk_lt BC.out
              have q_BC_0 : w17.cell? ⟨w7.heap.size + 1 + 1 + 1 + 1 + 1, 0, none⟩ = some (.int .i64 2) := (blk_cell BC.out 0).trans rfl
              have q_BC_1 : w17.cell? ⟨w7.heap.size + 1 + 1 + 1 + 1 + 1, 1, none⟩ = some (.int .i64 7) := (blk_cell BC.out 1).trans rfl
              have q_BC_2 : w17.cell? ⟨w7.heap.size + 1 + 1 + 1 + 1 + 1, 2, none⟩ = some (.int .i64 1) := (blk_cell BC.out 2).trans rfl
              have q_BC_3 : w17.cell? ⟨w7.heap.size + 1 + 1 + 1 + 1 + 1, 3, none⟩ = some (.slice none 0 0) := (blk_cell BC.out 3).trans rfl
              have q_BC_4 : w17.cell? ⟨w7.heap.size + 1 + 1 + 1 + 1 + 1, 4, none⟩ = some (.slice (some ⟨w7.heap.size + 1 + 1 + 1 + 1, 0, none⟩) 1 1) := (blk_cell BC.out 4).trans rfl
              go_wp2_with fail
              clear l_BC q_BC_0 q_BC_1 q_BC_2 q_BC_3 q_BC_4
              refine (node_Depth.calls 0 2 7 1 none 0 [] _ 1 [exs ⟨x0, x1, x2, l3, l4⟩ ⟨y0, y1, y2, m3, m4⟩] (wrap64 (1 + D)) _ (Kd.C_nil _ _) (Nat.le_refl _) HC3.out (Nat.le_refl _) HDC.out).mono ?_
              rintro e w18 ⟨rfl, hb⟩
              replace HT := Lib.hid (HT.out.below hb)
              replace HR3 := Lib.hid (Kd.C_below HR3.out hb)
              replace HR4 := Lib.hid (Kd.C_below HR4.out hb)
              replace HQ3 := Lib.hid (Kd.C_below HQ3.out hb)
              replace HQ4 := Lib.hid (Kd.C_below HQ4.out hb)
              replace HB := Lib.hid (below_step HB.out hb)
              replace HC1 := Lib.hid (Kd.C_below HC1.out hb)
              replace HC2 := Lib.hid (Kd.C_below HC2.out hb)
              replace HC3 := Lib.hid (Kd.C_below HC3.out hb)
              replace BN := Lib.hid (blk_below BN.out hb)
              replace BM := Lib.hid (blk_below BM.out hb)
              replace BS := Lib.hid (blk_below BS.out hb)
              replace BL := Lib.hid (blk_below BL.out hb)
              replace BC := Lib.hid (blk_below BC.out hb)
              clear hb
              go_wp2
              go_ret
              exact ⟨by simp, HB.out⟩
theorem depthlaw_true (a b : S25) {A3 : Option Addr} {c3 : Nat} {A4 : Option Addr} {c4 : Nat} {F3 : Option Addr} {f3 : Nat} {F4 : Option Addr} {f4 : Nat} (w : World) (HT0 : Ls.Tab w) (hok : okT a) (hs : tsize a ≤ 2000000) (hok2 : okT b) (hs2 : tsize b ≤ 2000000)
    (hr3 : Kd.C (Kd.int .u8) w A3 a.f3.length a.f3) (hc3 : a.f3.length ≤ c3) (hr4 : Kd.C k25 w A4 a.f4.length a.f4) (hc4 : a.f4.length ≤ c4)
    (hq3 : Kd.C (Kd.int .u8) w F3 b.f3.length b.f3) (hd3 : b.f3.length ≤ f3) (hq4 : Kd.C k25 w F4 b.f4.length b.f4) (hd4 : b.f4.length ≤ f4) :
    Calls Tryd.prog 5 #[.agg #[.int .i64 a.f0, .int .i64 a.f1, .int .i64 a.f2, .slice A3 a.f3.length c3, .slice A4 a.f4.length c4], .agg #[.int .i64 b.f0, .int .i64 b.f1, .int .i64 b.f2, .slice F3 b.f3.length f3, .slice F4 b.f4.length f4]] w fun e w' => e = .returned (.bool true) ∧ Below w.heap.size w w' := by
  cases a
  cases b
  exact depthlaw_calls _ _ _ _ _ _ _ _ _ _ _ _ _ _ _ _ _ _ w HT0 hok hs hok2 hs2 hr3 hc3 hr4 hc4 hq3 hd3 hq4 hd4
end Go.Proofs.YtmbockhcmhghlaaDoor.Pr
end
section
namespace Go.Proofs.YtmbockhcmhghlaaDoor.Pr
open Go.RowKit Go.ChangeShapes Go.WideShapes Go.ChangeAt Go.Proofs.YtmbockhcmhghlaaDoorW.PrintWords Go.Proofs.YtmbockhcmhghlaaDoorW.PrintLast Go.Proofs.YtmbockhcmhghlaaDoorW.PrintMore
set_option linter.unusedVariables false
set_option linter.unusedSimpArgs false
theorem byte_range {n : Int} (h : (Lit.int .u8 n).wf = true) : 0 ≤ n ∧ n ≤ 255 := by
  simpa [Lit.wf, IntKind.min, IntKind.max, IntKind.signed, IntKind.bits] using h
theorem cells_each {w : World} {base : Nat} {a : Addr} {n : Nat} {cs : List Value} (h : w.cells? base a n = some cs) : cs.length = n ∧ ∀ (i : Nat) (u : Value), cs[i]? = some u → w.cell? (a.add i) = some u := by
  unfold World.cells? at h
  split at h
  · have hl := mapM_some_length h
    refine ⟨by simpa using hl, fun i u hu => ?_⟩
    have hi : i < n := by
      have := (List.getElem?_eq_some_iff.1 hu).1
      simp at hl; omega
    have := mapM_some_get h i i (by simp [hi])
    rw [this, hu]
  · cases h
section
variable {H : Type} {enc : TypeId × Value → H} {w : World} {base : Nat} {held : Bool}
theorem bulk_bytes {fuel : Nat} {cs : List Value} {x : DataW H × List MemPlace} (h : DataW.trod enc Tryd.prog w base (fun _ => true) held fuel 22 cs = some x) :
    ∃ (A : Option Addr) (c : Nat) (xs : List Int), cs = [.slice A xs.length c] ∧ xs.length ≤ c ∧ (Kd.int .u8).C w A xs.length xs ∧ (∀ n ∈ xs, 0 ≤ n ∧ n ≤ 255) ∧ xs.length + 1 ≤ Rows.uptoBulk x.1 := by
  rcases open_ints Tryd.underlying22 Tryd.underlying5 (by kernel_rfl) h with ⟨rfl, rfl⟩ | ⟨ad, len, cap, zs, rfl, hb, hle, hm, hz, rfl, hcell, hwz⟩
  · exact ⟨none, 0, [], rfl, Nat.le_refl _, Kd.C_nil _ _, by simp, by simp [Rows.uptoBulk]⟩
  · have hzl : zs.length = cap := by simpa using hz
    have htl : (zs.take len).length = len := by simp; omega
    have hlits : ∀ l : List Int, Rows.uptoBulkAll (lits (H := H) .u8 l) = l.length := fun l => by
      induction l with
      | nil => simp [lits, Rows.uptoBulkAll]
      | cons y l ih =>
        simp only [lits, List.map_cons, Rows.uptoBulkAll, Rows.uptoBulk, List.length_cons] at ih ⊢
        omega
    refine ⟨some ad, cap, zs.take len, by rw [htl], by omega, ⟨rfl, by rw [htl]; simp only [maxLen] at hm; omega, fun hp => ⟨ad, rfl, fun j p hj => ⟨[.int .u8 p], rfl, rfl, fun i u hu => ?_⟩⟩⟩, fun n hn => byte_range (hwz n (List.mem_of_mem_take hn)), ?_⟩
    · match i with
      | 0 =>
        obtain rfl : Value.int .u8 p = u := by simpa using hu
        have hjl := (List.getElem?_eq_some_iff.1 hj).1
        rw [htl] at hjl
        have := hcell j (by omega)
        rw [List.getElem?_take_of_lt hjl] at hj
        rw [List.getD_eq_getElem?_getD, hj] at this
        show w.cell? (ad.add (j * 1 + 0)) = _
        rw [Nat.mul_one, Nat.add_zero]
        exact this
      | i + 1 => simp at hu
    · simp only [Rows.uptoBulk, hlits]
      omega
theorem sizes_bulk : ∀ (L : List S25) (ds : List (DataW H)), L.length = ds.length → (∀ (i : Nat) (x : S25) (d : DataW H), L[i]? = some x → ds[i]? = some d → tsize x ≤ Rows.uptoBulk d) → tsizes L ≤ Rows.uptoBulkAll ds
  | [], _, _, _ => by simp [tsizes]
  | x :: L, [], h, _ => by simp at h
  | x :: L, d :: ds, h, hx => by
    have h1 := hx 0 x d rfl rfl
    have h2 := sizes_bulk L ds (by simpa using h) (fun i y e h1 h2 => hx (i + 1) y e (by simpa using h1) (by simpa using h2))
    simp only [tsizes, Rows.uptoBulkAll]; omega
theorem open_node : ∀ (fuel : Nat) (cs : List Value) (x : DataW H × List MemPlace), DataW.trod enc Tryd.prog w base (fun _ => true) held fuel 25 cs = some x → ∃ a : S25, k25.K w a cs ∧ okT a ∧ tsize a ≤ Rows.uptoBulk x.1 := by
  intro fuel
  induction fuel using Nat.strongRecOn with
  | _ fuel ih =>
  intro cs x h
  obtain ⟨xs, n, rfl, rfl, hl, hlen, hf⟩ := DataW.trod_struct Tryd.underlying25 h
  have z25 : Tryd.prog.cellsOf 25 = 5 := by kernel_rfl
  have z3 : Tryd.prog.cellsOf 3 = 1 := by kernel_rfl
  have zb : Tryd.prog.cellsOf 22 = 1 := by kernel_rfl
  have zn : Tryd.prog.cellsOf 23 = 1 := by kernel_rfl
  rw [z25] at hl
  match xs, hlen, cs, hl with
  | [y0, y1, y2, y3, y4], _, [c0, c1, c2, c3, c4], _ =>
  have h0 : DataW.trod enc Tryd.prog w base (fun _ => true) held n 3 [c0] = some y0 := by simpa [z3] using hf 0 _ rfl
  have h1 : DataW.trod enc Tryd.prog w base (fun _ => true) held n 3 [c1] = some y1 := by simpa [z3] using hf 1 _ rfl
  have h2 : DataW.trod enc Tryd.prog w base (fun _ => true) held n 3 [c2] = some y2 := by simpa [z3] using hf 2 _ rfl
  have h3 : DataW.trod enc Tryd.prog w base (fun _ => true) held n 22 [c3] = some y3 := by simpa [zb] using hf 3 _ rfl
  have h4 : DataW.trod enc Tryd.prog w base (fun _ => true) held n 23 [c4] = some y4 := by simpa [zn] using hf 4 _ rfl
  obtain ⟨n0, e0, rfl, _⟩ := DataW.trod_int Tryd.underlying3 h0
  obtain ⟨n1, e1, rfl, _⟩ := DataW.trod_int Tryd.underlying3 h1
  obtain ⟨n2, e2, rfl, _⟩ := DataW.trod_int Tryd.underlying3 h2
  obtain ⟨A3, k3, zs, e3, l3, g3, hzb, hb3⟩ := bulk_bytes h3
  simp only [List.cons.injEq, and_true] at e0 e1 e2 e3
  subst e0 e1 e2 e3
  have kids : ∃ (A : Option Addr) (c : Nat) (L : List S25), c4 = .slice A L.length c ∧ L.length ≤ c ∧ k25.C w A L.length L ∧ (∀ a ∈ L, okT a) ∧ tsizes L ≤ Rows.uptoBulk y4.1 := by
    rcases DataW.trod_slice Tryd.underlying23 h4 with ⟨e4, rfl⟩ | ⟨ad, len, cap, elems, rest, m, rfl, e4, rfl, hb, hle, hmax, hel0, hel, _, _⟩
    · simp only [List.cons.injEq, and_true] at e4
      exact ⟨none, 0, [], e4, Nat.le_refl _, Kd.C_nil _ _, by simp, by simp [tsizes]⟩
    · simp only [List.cons.injEq, and_true] at e4
      have each : ∀ i, i < len → ∃ (cs' : List Value) (a : S25), (∀ (j : Nat) (u : Value), cs'[j]? = some u → w.cell? ((ad.add (i * 5)).add j) = some u) ∧ cs'.length = 5 ∧ k25.K w a cs' ∧ okT a ∧ ∀ d, (elems.map (·.1))[i]? = some d → tsize a ≤ Rows.uptoBulk d := fun i hi => by
        have hq := hel i hi
        rw [z25, List.getElem?_eq_getElem (by omega)] at hq
        obtain ⟨cs', hc, ht⟩ := Option.bind_eq_some_iff.1 hq
        obtain ⟨a, hK, hok, hsz⟩ := ih m (by omega) cs' _ ht
        obtain ⟨hlc, hcc⟩ := cells_each hc
        refine ⟨cs', a, hcc, hlc, hK, hok, fun d hd => ?_⟩
        rw [List.getElem?_map, List.getElem?_eq_getElem (by omega)] at hd
        obtain rfl : elems[i].1 = d := by simpa using hd
        exact hsz
      classical
      let f : Nat → S25 := fun i => if hi : i < len then (each i hi).choose_spec.choose else ⟨0, 0, 0, [], []⟩
      have hfs : ∀ i (hi : i < len), f i = (each i hi).choose_spec.choose := fun i hi => dif_pos hi
      have hL : ((List.range len).map f).length = len := by simp
      have hget : ∀ (j : Nat) (p : S25), ((List.range len).map f)[j]? = some p → ∃ hj : j < len, p = (each j hj).choose_spec.choose := fun j p hp => by
        have hj : j < len := by have := (List.getElem?_eq_some_iff.1 hp).1; rwa [hL] at this
        refine ⟨hj, ?_⟩
        rw [← hfs j hj]
        simp [hj] at hp
        exact hp.symm
      refine ⟨some ad, cap, (List.range len).map f, by rw [hL]; exact e4, by rw [hL]; exact hle, ⟨rfl, by rw [hL]; simp only [maxLen] at hmax; omega, fun hp => ⟨ad, rfl, fun j p hj => ?_⟩⟩, fun a ha => ?_, ?_⟩
      · obtain ⟨hjl, rfl⟩ := hget j p hj
        obtain ⟨hc, hlc, hK, _⟩ := (each j hjl).choose_spec.choose_spec
        refine ⟨(each j hjl).choose, hlc, hK, fun i u hu => ?_⟩
        have := hc i u hu
        rw [Addr.add_add] at this
        exact this
      · obtain ⟨j, hj⟩ := List.getElem?_of_mem ha
        obtain ⟨hjl, rfl⟩ := hget j a hj
        exact (each j hjl).choose_spec.choose_spec.2.2.2.1
      · refine Nat.le_trans (sizes_bulk _ (elems.map (·.1)) (by simp; omega) fun i x d hx hd => ?_) (by simp only [Rows.uptoBulk]; omega)
        obtain ⟨hjl, rfl⟩ := hget i x hx
        exact (each i hjl).choose_spec.choose_spec.2.2.2.2 d hd
  obtain ⟨A4, k4, L, rfl, l4, g4, hLok, hb4⟩ := kids
  refine ⟨⟨n0, n1, n2, zs, L⟩, k25_mk w ⟨n0, n1, n2, zs, L⟩ l3 g3 l4 g4, .mk hzb hLok, ?_⟩
  simp only [tsize, Rows.uptoBulk, Rows.uptoBulkAll, List.map_cons, List.map_nil]
  omega
end
end Go.Proofs.YtmbockhcmhghlaaDoor.Pr
end
section
namespace Go.Proofs.YtmbockhcmhghlaaDoor.nodeDepth
open Go.ChangeShapes Go.WideShapes Go.ChangeAt Go.RowKit Go.Joins Go.Proofs.YtmbockhcmhghlaaDoor.Pr
set_option linter.unusedVariables false
set_option linter.unusedSimpArgs false
theorem own : ownKnob Tryd.prog.godebug = none := by kernel_rfl
theorem laidOut : laidOutB Tryd.prog = true := by kernel_rfl
theorem gTab : Tryd.prog.globalNamed "capnp/listsize.bits" = some 0 := by kernel_rfl
theorem gTabType : (Tryd.prog.globals[0]?).map (·.type) = some 43 := by kernel_rfl
theorem cellsT : Tryd.prog.cellsOf 43 = 8 := by kernel_rfl
theorem cellsE : Tryd.prog.cellsOf 3 = 1 := by kernel_rfl
theorem table {W : World} (h : laidMetH Tryd.prog Rows.nodeDepthUptoRow.laid W) : Lib.TabIs Tryd.prog W "capnp/listsize.bits" .i64 [0, 1, 8, 16, 32, 64, 64, 0] :=
  Lib.tabIs_of_head (rest := []) gTab gTabType Tryd.underlying43 Tryd.underlying3 cellsE cellsT h
set_option maxRecDepth 100000 in
theorem contract (H : Type) (enc : TypeId × Value → H) (W : World) (base : Nat) (args : Array Value) (ds gs : List (DataW H)) (before : List MemPlace)
    (hval0 : ∀ (j : Nat) t v, Tryd.f5.params[j]? = some t → args[j]? = some v → Value.okWide Tryd.prog W .any base t v)
    (hW : DataW.Whole enc Tryd.prog Tryd.f5.params.toList Rows.nodeDepthSpec.vars false W args.toList ds gs before) (hL : laidMetH Tryd.prog Rows.nodeDepthUptoRow.laid W) (hbulk : Rows.uptoSmall H (ds ++ gs) = true) :
    Calls Tryd.prog 5 args W fun e W' => ∃ v, e = .returned v ∧ Rows.nodeDepthSpec.post enc Tryd.prog Tryd.f5 false true false false W args v W' := by
  have hval : ∀ (j : Nat) t v, Tryd.f5.params[j]? = some t → args[j]? = some v → Value.okWide Tryd.prog W .any base t v := hval0
  have hW' := hW
  obtain ⟨p, q, hA0, hV, rfl, hfz, hnd⟩ := hW
  have hA : DataW.TrodAll enc Tryd.prog W 0 (fun _ => true) true Tryd.f5.params.toList args.toList ds p := hA0
  rw [Tryd.params5] at hA hval
  obtain ⟨v0, vs0, d0, ds0, p0, q0, hargs, rfl, rfl, h0, r0⟩ := trodAll_cons hA
  obtain ⟨v1, vs1, d1, ds1, p1, q1, rfl, rfl, rfl, h1, r1⟩ := trodAll_cons r0
  obtain ⟨rfl, rfl, rfl⟩ := trodAll_nil r1
  obtain rfl : args = #[v0, v1] := by cases args; simp_all
  obtain ⟨rfl, rfl⟩ := trodVars_none hV
  have k0 := h0
  have lt0 : ∀ x ∈ p0, x.block < W.heap.size := by obtain ⟨m, hm⟩ := k0; exact DataW.trod_lt m _ _ _ hm
  obtain ⟨cs0, rfl, hn0⟩ := okWide_struct Tryd.underlying25 (hval 0 25 v0 rfl rfl)
  obtain ⟨fuel0, hf0⟩ := h0
  obtain ⟨a0, K0, ok0, sz0⟩ := open_node _ _ _ hf0
  obtain ⟨A0_3, c0_3, A0_4, c0_4, e0, l0_3, g0_3, l0_4, g0_4⟩ := k25_open K0
  obtain rfl : cs0 = #[.int .i64 a0.f0, .int .i64 a0.f1, .int .i64 a0.f2, .slice A0_3 a0.f3.length c0_3, .slice A0_4 a0.f4.length c0_4] := by
    have e' : cs0.toList = _ := e0
    rw [← Array.toArray_toList (xs := cs0), e']
  clear K0 e0 hf0 hn0
  have sz0 : tsize a0 ≤ Rows.uptoBulk d0 := sz0
  have k1 := h1
  have lt1 : ∀ x ∈ p1, x.block < W.heap.size := by obtain ⟨m, hm⟩ := k1; exact DataW.trod_lt m _ _ _ hm
  obtain ⟨cs1, rfl, hn1⟩ := okWide_struct Tryd.underlying25 (hval 1 25 v1 rfl rfl)
  obtain ⟨fuel1, hf1⟩ := h1
  obtain ⟨a1, K1, ok1, sz1⟩ := open_node _ _ _ hf1
  obtain ⟨A1_3, c1_3, A1_4, c1_4, e1, l1_3, g1_3, l1_4, g1_4⟩ := k25_open K1
  obtain rfl : cs1 = #[.int .i64 a1.f0, .int .i64 a1.f1, .int .i64 a1.f2, .slice A1_3 a1.f3.length c1_3, .slice A1_4 a1.f4.length c1_4] := by
    have e' : cs1.toList = _ := e1
    rw [← Array.toArray_toList (xs := cs1), e']
  clear K1 e1 hf1 hn1
  have sz1 : tsize a1 ≤ Rows.uptoBulk d1 := sz1
  have hk : Rows.uptoBulk d0 + Rows.uptoBulk d1 ≤ 1048576 := by have h := of_decide_eq_true hbulk; simp only [Rows.uptoBulkAll, List.nil_append, List.append_nil, List.cons_append] at h; omega
  have HL : Ls.Tab W := ⟨(table hL).cell gTab 0 (by decide), (table hL).cell gTab 1 (by decide), (table hL).cell gTab 2 (by decide), (table hL).cell gTab 3 (by decide), (table hL).cell gTab 4 (by decide), (table hL).cell gTab 5 (by decide), (table hL).cell gTab 6 (by decide), (table hL).cell gTab 7 (by decide)⟩
  clear hA0 hval0
  refine (depthlaw_true a0 a1 W HL ok0 (by omega) ok1 (by omega) g0_3 l0_3 g0_4 l0_4 g1_3 l1_3 g1_4 l1_4).mono fun e W' ⟨he, bel⟩ => ?_
  subst he
  exact ⟨_, rfl, _, _, _, [], _, [], hW', trodAll_mk1 (shut_bool Tryd.underlying4 _), (trodAll_cons_mk (Below.trod laidOut (by kernel_rfl) (of_decide_eq_true (by kernel_rfl)) k0 bel lt0) (trodAll_cons_mk (Below.trod laidOut (by kernel_rfl) (of_decide_eq_true (by kernel_rfl)) k1 bel lt1) trodAll_mk0)), rfl, bel.frame _, fun h => by cases h⟩
noncomputable def laidWorld (os : Os) : World :=
  { World.holding Tryd.prog os ⟨#[], #[], []⟩ with heap := (World.holding Tryd.prog os ⟨#[], #[], []⟩).heap.modify 0 fun
      | .cells _ t frozen => .cells #[.int .i64 0, .int .i64 1, .int .i64 8, .int .i64 16, .int .i64 32, .int .i64 64, .int .i64 64, .int .i64 0] t frozen
      | o => o }
theorem laid_met (os : Os) : laidMet Tryd.prog Rows.nodeDepthUptoRow.laid ((laidWorld os).forCall (fun _ _ => 0) ⟨#[], #[.agg #[.int .i64 0, .int .i64 0, .int .i64 0, .slice none 0 0, .slice none 0 0], .agg #[.int .i64 0, .int .i64 0, .int .i64 0, .slice none 0 0, .slice none 0 0]], []⟩).memory :=
  laidMet_of_run' 10 (by kernel_rfl) (by kernel_rfl)
theorem reads (os : Os) {H : Type} (enc : TypeId × Value → H) : ∃ places, DataW.whole enc Tryd.prog ((laidWorld os).forCall (fun _ _ => 0) ⟨#[], #[.agg #[.int .i64 0, .int .i64 0, .int .i64 0, .slice none 0 0, .slice none 0 0], .agg #[.int .i64 0, .int .i64 0, .int .i64 0, .slice none 0 0, .slice none 0 0]], []⟩).memory Tryd.f5.params.toList Rows.nodeDepthSpec.vars false (#[.agg #[.int .i64 0, .int .i64 0, .int .i64 0, .slice none 0 0, .slice none 0 0], .agg #[.int .i64 0, .int .i64 0, .int .i64 0, .slice none 0 0, .slice none 0 0]] : Array Value).toList 10 = some ([.agg [.lit (.int .i64 0), .lit (.int .i64 0), .lit (.int .i64 0), .nil, .nil], .agg [.lit (.int .i64 0), .lit (.int .i64 0), .lit (.int .i64 0), .nil, .nil]], [], places) :=
  ⟨[], by kernel_rfl⟩
set_option maxRecDepth 100000 in
theorem lifted (os : Os) (started : os.Started) (H : Type) (enc : TypeId × Value → H) (F : Stop.Interp) :
    ReturnsInHanded {} Tryd.checked os 5 .any ((Rows.OpenSpec.upto Rows.nodeDepthSpec).preRow enc Tryd.prog Tryd.f5 Rows.nodeDepthUptoRow.domain false Rows.nodeDepthUptoRow.laid) (((Rows.OpenSpec.upto Rows.nodeDepthSpec).at F).post enc Tryd.prog Tryd.f5 false true false false) := by
  obtain ⟨places, hx⟩ := reads os enc
  refine returnsInHanded_of_row (C := Tryd.checked) (s := (Rows.OpenSpec.upto Rows.nodeDepthSpec)) own started (by kernel_rfl) Tryd.func5
    (witness_row_at (enc := enc) (C := Tryd.checked) false (laidWorld os) #[.agg #[.int .i64 0, .int .i64 0, .int .i64 0, .slice none 0 0, .slice none 0 0], .agg #[.int .i64 0, .int .i64 0, .int .i64 0, .slice none 0 0, .slice none 0 0]] rfl (by kernel_rfl) (by kernel_rfl) (by kernel_rfl)
      (OpenSpec.preRow_of_cond 10 hx (by kernel_rfl) (fun k hk => by cases hk; kernel_rfl) (by kernel_rfl) (laid_met os))) ?_
  intro W base args ds gs before hval hW _ hcond _ hL _ _
  exact contract H enc W base args ds gs before hval hW hL (hcond _ rfl)
theorem said : Rows.NodeDepthUptoSaid :=
  OpenClaim.holds_of_cond 5 Tryd.f5 rfl rfl rfl rfl rfl rfl rfl ⟨rfl, rfl, rfl, rfl, rfl⟩ rfl rfl rfl rfl rfl (by kernel_rfl) Tryd.func5 (by kernel_rfl)
    (of_decide_eq_true (by kernel_rfl)) (by unfold Func.isWrapper; first | (rw [if_pos (by decide +kernel)]; kernel_rfl) | (rw [if_neg (by decide +kernel)]; exact ⟨rfl, rfl⟩))
    (fun os started H enc _ F => by rw [OpenClaim.pre_eq_preRow]; exact lifted os started H enc F)
theorem plain (f : FuncId) (fn : Func) (hf : Tryd.pinned.checked.prog.funcNamed "capnp/capnplaw10.NodeDepth" = some f) (hfn : Tryd.pinned.checked.prog.funcs[f]? = some fn) :
    false = Tryd.pinned.checked.prog.looks [] ∧ ∀ (j : Nat) t, fn.params[j]? = some t → Tryd.pinned.checked.prog.wantsStandIn t = false := by
  obtain rfl : f = 5 := Option.some.inj ((show Tryd.prog.funcNamed "capnp/capnplaw10.NodeDepth" = some 5 by kernel_rfl).symm.trans hf) |>.symm
  obtain rfl : fn = Tryd.f5 := (Option.some.inj (Tryd.func5.symm.trans hfn)).symm
  refine ⟨by kernel_rfl, fun j t ht => ?_⟩
  rw [Tryd.params5] at ht
  obtain rfl : t = 25 := by have := Array.mem_of_getElem? ht; simp at this; omega
  exact (show Tryd.prog.wantsStandIn 25 = false by kernel_rfl)
theorem card : Rows.NodeDepthUptoCardSaid :=
  Claim7.holds_tied_plain_at .later [] _ _ _ _ said (fun _ h => by cases h) (by kernel_rfl) (fun _ h => by cases h) nodeDepthUpto_row_tie rfl ⟨rfl, rfl⟩ (by kernel_rfl) rfl plain (by kernel_rfl)
#print axioms card
end Go.Proofs.YtmbockhcmhghlaaDoor.nodeDepth
namespace Go.Proofs.YtmbockhcmhghlaaDoor
theorem nodeDepth_holds : Rows.NodeDepthUptoCardSaid := nodeDepth.card
end Go.Proofs.YtmbockhcmhghlaaDoor
end
