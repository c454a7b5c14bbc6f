/- For every node of bulk at most 1048576 and every number: a well-formed node's kids are well-formed, and another number of elements makes a list malformed: the law answers true and leaves its argument as it was. -/
import Derived.Test.YtmbockhcmhghlaaDoorBNVB
import Derived.Below
import Derived.Deep.Draws
import Derived.Deep.AppendLies
import Derived.Maps.AppendAt
import Derived.OwnWalk
import Derived.Laws.BytesArg
import Derived.Laws.MakeOwn
import Derived.Laws.OwnMore
import Derived.Deep.OwnRows
import Derived.Tactics
import Derived.Lib.ConvBytes
import Derived.Laws.Slices
import Derived.WalkKit
import Derived.KernelRfl
import Derived.RowKit3
import Derived.Deep.LoopGhost
import Derived.Deep.QuietTactic
import Derived.BigQuiet
import Derived.WideLaws
import Derived.Deep.DeepCutAuto
import Derived.Deep.CutBlock
import Derived.Deep.RegionHeld3
import Derived.Laws.Rows
import Derived.Lib.AppendStr
import Derived.ArgAppend
import Derived.Laws.IdiomCopy
import Derived.RowKit
import Derived.OrdersHeld
import Derived.Laws.BitsLemmas
import Derived.Laws.StructEq
import Derived.SizedLaws
import Derived.ChangeSlices
import Derived.Test.YtmbockhcmhghlaaDoorProg
import Derived.Laws.AppendOwn
import Derived.WalkSpells
import Derived.Lib.Hide
import Derived.RangeFuncBox
import Derived.IntWalk
import Derived.OpenShut
import Derived.RangeFuncNested
import Derived.RangeFuncBound
import Derived.RangeFuncCalls
import Derived.RangeFuncLeaves
import Derived.Shelf.Abstract
import Derived.Shelf.RegionOpen
import Derived.OwnWalkIn
import Derived.TacticsInMore
import Derived.LoopNIn
import Derived.LoopIn
import Derived.Test.YtmbockhcmhghlaaDoorRows
import Derived.ProofKit
import Derived.ChangeOld
import Derived.Lib.SmallJoins
import Derived.DataReads
import Derived.Test.YtmbockhcmhghlaaDoorCards
import Derived.Test.YtmbockhcmhghlaaDoorTie
import Derived.ShutString
import Derived.JoinedCond
import Derived.Deep.DeepHandedRow
import Derived.Lib.LaidTab
section
namespace Go.Proofs.YtmbockhcmhghlaaDoor.Pr
open Go.RowKit Go.Shelf Go.Proofs.YtmbockhcmhghlaaDoorW.PrintWords Go.Proofs.YtmbockhcmhghlaaDoorW.PrintLast Go.Proofs.YtmbockhcmhghlaaDoorW.PrintMore
set_option linter.unusedVariables false
set_option linter.unusedSimpArgs false
attribute [local go_sem] Oper.semAt_some
set_option maxRecDepth 100000 in
set_option maxHeartbeats 4000000 in
theorem objs_step (x : S25) (hv : x.f1 = 7 → x.f0 = 2) (h0 : ¬ x.f0 = 0) (hs : tsize x ≤ 4611686018427387904) (ih : ∀ y ∈ ttargets x, NodeI 16 (tobjs y) y) : NodeI 16 (tobjs x) x := by
  intro A3 c3 A4 c4 w h3 l3 h4 l4
  have H3 := Lib.hid h3; have H4 := Lib.hid h4; have IH := Lib.hid ih
  have g : (x.f0 == 0) = false := beq_eq_false_iff_ne.2 h0
  clear h3 h4 ih h0
  refine (callsIn_wide (n := 6)).1 ?_
  refine callsIn_of_wp_marks Tryd.func16 rfl trivial ?_ rfl
  simp only [Tryd.ntmps16, List.size_toArray, List.length_cons, List.length_nil, Nat.reduceAdd, Nat.reduceSub, Array.replicate_succ, Array.replicate_zero, List.push_toArray, List.append_toArray, List.nil_append, List.cons_append]
  gi_wp2_with (refine ⟨trivial, ?_⟩; gi_at_call 28; refine (targets_is _ _ _ _ _ _ _).mono ?_; rintro e w' ⟨rfl, rfl⟩)
  have bD : Boxed (((w.alloc (.cells #[.int .i64 x.f0, .int .i64 x.f1, .int .i64 x.f2, .slice A3 x.f3.length c3, .slice A4 x.f4.length c4] 25)).alloc (.cells #[.int .i64 1] 3)).alloc (.cells #[.int .i64 x.f0, .int .i64 x.f1, .int .i64 x.f2, .slice A3 x.f3.length c3, .slice A4 x.f4.length c4] 25)) (w.heap.size + 1) 3 (.int .i64 1) := by
    have := (Boxed.new (w.alloc (.cells #[.int .i64 x.f0, .int .i64 x.f1, .int .i64 x.f2, .slice A3 x.f3.length c3, .slice A4 x.f4.length c4] 25)) 3 (.int .i64 1)).alloc (.cells #[.int .i64 x.f0, .int .i64 x.f1, .int .i64 x.f2, .slice A3 x.f3.length c3, .slice A4 x.f4.length c4] 25)
    simp only [World.size_alloc] at this
    exact this
  have hB0 : Below w.heap.size w (((w.alloc (.cells #[.int .i64 x.f0, .int .i64 x.f1, .int .i64 x.f2, .slice A3 x.f3.length c3, .slice A4 x.f4.length c4] 25)).alloc (.cells #[.int .i64 1] 3)).alloc (.cells #[.int .i64 x.f0, .int .i64 x.f1, .int .i64 x.f2, .slice A3 x.f3.length c3, .slice A4 x.f4.length c4] 25)) := (((Below.refl _ w).alloc (Nat.le_refl _) _).alloc (by simp) _).alloc (by simp; omega) _
  have hsz : (((w.alloc (.cells #[.int .i64 x.f0, .int .i64 x.f1, .int .i64 x.f2, .slice A3 x.f3.length c3, .slice A4 x.f4.length c4] 25)).alloc (.cells #[.int .i64 1] 3)).alloc (.cells #[.int .i64 x.f0, .int .i64 x.f1, .int .i64 x.f2, .slice A3 x.f3.length c3, .slice A4 x.f4.length c4] 25)).heap.size = w.heap.size + 3 := by simp
  have hBn : (((w.alloc (.cells #[.int .i64 x.f0, .int .i64 x.f1, .int .i64 x.f2, .slice A3 x.f3.length c3, .slice A4 x.f4.length c4] 25)).alloc (.cells #[.int .i64 1] 3)).alloc (.cells #[.int .i64 x.f0, .int .i64 x.f1, .int .i64 x.f2, .slice A3 x.f3.length c3, .slice A4 x.f4.length c4] 25)).heap[w.heap.size + 1 + 1]? = some (.cells #[.int .i64 x.f0, .int .i64 x.f1, .int .i64 x.f2, .slice A3 x.f3.length c3, .slice A4 x.f4.length c4] 25 (0, 0)) := blk_new _ _ _ (by simp)
  obtain ⟨W0, hW0⟩ : ∃ W0, ((w.alloc (.cells #[.int .i64 x.f0, .int .i64 x.f1, .int .i64 x.f2, .slice A3 x.f3.length c3, .slice A4 x.f4.length c4] 25)).alloc (.cells #[.int .i64 1] 3)).alloc (.cells #[.int .i64 x.f0, .int .i64 x.f1, .int .i64 x.f2, .slice A3 x.f3.length c3, .slice A4 x.f4.length c4] 25) = W0 := ⟨_, rfl⟩
  rw [hW0] at bD hB0 hsz hBn ⊢
  clear hW0
  have hst := targets_stops 5 (by omega) (w.heap.size + 1 + 1) w W0 x A3 c3 A4 c4 hv H4.out hB0 hBn
  refine wpIn_rangeFunc_ownH rfl (by omega) (gf := 35) (lb := #[.pointer (some ⟨w.heap.size + 1 + 1, 0, none⟩)]) rfl trivial (enters_of Tryd.func35 (by kernel_rfl) rfl)
    hst KpN.trans (KpN.box (by omega) (by omega)) (Below.refl _ _) (fun _ => rfl)
    (fun pre W => (Boxed W (w.heap.size + 1) 3 (.int .i64 (sW (elX pre))) ∧ Below w.heap.size w W) ∧ w.heap.size + 3 ≤ W.heap.size)
    (fun _ _ _ => False)
    (OwnFrom.and (OwnFrom.and (Own.from (boxed_own _ _ _) _) (ownFrom_below (Nat.le_refl _) (by omega))) (fun s X Y row hs hg hr => Nat.le_trans hs hg.size))
    (fun _ _ _ _ _ hs _ _ => hs)
    ⟨⟨bD, hB0⟩, by omega⟩
    (fun y a' W => ∃ Bx, w.heap.size + 2 < Bx ∧ W.heap[Bx]? = some (.cells #[.int .i64 y.1.x.f0, .int .i64 y.1.x.f1, .int .i64 y.1.x.f2, .slice y.1.A3 y.1.x.f3.length y.1.c3, .slice y.1.A4 y.1.x.f4.length y.1.c4] 25 (0, 0)) ∧
      a' = { tmps := #[.agg #[.int .i64 x.f0, .int .i64 x.f1, .int .i64 x.f2, .slice A3 x.f3.length c3, .slice A4 x.f4.length c4], .pointer (some ⟨w.heap.size, 0, none⟩), .int .i64 0, .pointer (some ⟨w.heap.size + 1, 0, none⟩), .pointer (some ⟨Bx, 0, none⟩), .pointer (some ⟨w.heap.size, 0, none⟩), .int .i64 x.f0, .bool false,
        .agg #[.int .i64 x.f0, .int .i64 x.f1, .int .i64 x.f2, .slice A3 x.f3.length c3, .slice A4 x.f4.length c4], .func (.func 35) #[] #[.pointer (some ⟨w.heap.size + 1 + 1, 0, none⟩)], y.1.enc, undef, undef, undef, undef, undef], defers := [] })
    (fun y a' _ X Y row hs hg hr => by obtain ⟨Bx, q1, q2, q3⟩ := hs; exact ⟨Bx, q1, blk_own q2 hg (fun r e => (hr r e).2), q3⟩)
    ?assign ?body ?done ?stop
  case assign =>
    rintro l pre y W K ⟨⟨bD1, hB1⟩, hz⟩ hK
    obtain ⟨⟨z, C3, e3, C4, e4⟩, hok, hmem⟩ := y
    gi_wp2
    exact hK _ _ ((KeepsOthers.alloc _ _).from _) ⟨(Below.refl _ W).alloc hB1.size _, Below.heap_alloc W _ _ (by omega)⟩ ⟨⟨bD1.alloc _, hB1.alloc hB1.size _⟩, by simp; omega⟩ ⟨W.heap.size, by omega, heap_alloc_new _ _, rfl⟩
  case body =>
    rintro l pre y a' W hl ⟨r, hr⟩ ⟨⟨bD1, hB1⟩, hz⟩ ⟨Bx, hBx, bX, rfl⟩ hlt
    obtain ⟨⟨z, C3, e3, C4, e4⟩, hok, hmem⟩ := y
    dsimp only at bX
    have d1 : 1 ≤ 6 - 1 - 1 := by omega
    have hmx : Tryd.prog.follows .mixedOrders = true := by kernel_rfl
    obtain ⟨q, hq⟩ : ∃ q, Hid (sW (elX pre) = q) := ⟨_, Lib.hid rfl⟩
    rw [hq.out] at bD1
    have cD := bD1.cell
    have fD := bD1.frozen
    have x0 : W.cell? ⟨Bx, 0, none⟩ = some (.int .i64 z.f0) := (blk_cell bX 0).trans rfl
    have x1 : W.cell? ⟨Bx, 1, none⟩ = some (.int .i64 z.f1) := (blk_cell bX 1).trans rfl
    have x2 : W.cell? ⟨Bx, 2, none⟩ = some (.int .i64 z.f2) := (blk_cell bX 2).trans rfl
    have x3 : W.cell? ⟨Bx, 3, none⟩ = some (.slice C3 z.f3.length e3) := (blk_cell bX 3).trans rfl
    have x4 : W.cell? ⟨Bx, 4, none⟩ = some (.slice C4 z.f4.length e4) := (blk_cell bX 4).trans rfl
    have lD := bD1.lt
    have hbd : Below W.heap.size W W.drew := (Below.refl _ _).drew
    have hB2 : Below w.heap.size w W.drew := hB1.trans (hbd.mono hB1.size)
    have hokW := El.ok_below (n := 0) hok hB2
    have HZ := (IH.out z hmem C3 e3 C4 e4 W.drew hokW.1 hokW.2.1 hokW.2.2.1 hokW.2.2.2).mono (R' := fun e w1 => e = .returned (.int .i64 (tobjs z : Int)) ∧ Below W.heap.size W w1 ∧ Boxed w1 (w.heap.size + 1) 3 (.int .i64 q) ∧ w1.cell? ⟨w.heap.size + 1, 0, none⟩ = some (.int .i64 q) ∧ w1.frozen? ⟨w.heap.size + 1, 0, none⟩ = false)
      (fun e w1 h => by
        have hb : Below W.heap.size W w1 := hbd.trans h.2
        have hx : Boxed w1 (w.heap.size + 1) 3 (.int .i64 q) := (hb.block _ lD).trans bD1
        exact ⟨h.1, hb, hx, hx.cell, hx.frozen⟩)
    clear hokW hB2 hbd
    gi_wp2
    gi_region_with_o (refine ⟨trivial, ?_⟩; gi_at_call 16; refine (CallsIn.inRound l (callsIn_wide.2 HZ)).mono ?_; rintro e w1 ⟨rfl, hb1, bD2, cD2, fD2⟩)
    all_goals gi_wp2
    all_goals (try go_bits)
    all_goals
      refine ⟨(KeepsOthers.setCell _ _ _).from _ |> KeepsFrom.trans ⟨hb1.size, fun k o _ hk _ => (hb1.block k (Array.getElem?_eq_some_iff.1 hk).1).trans hk⟩, ⟨(hb1.mono hB1.size).setCell (p := ⟨w.heap.size + 1, 0, none⟩) (by simp) _, ?_⟩, ⟨?_, (hB1.trans (hb1.mono hB1.size)).setCell (p := ⟨w.heap.size + 1, 0, none⟩) (by simp) _⟩, ?_⟩
      · exact ((grownBy_setCell' w1 (w.heap.size + 1) _).block _ (by have := hb1.size; omega) (fun e => by injection e; omega)).trans (hb1.block _ (by omega))
      · rw [elX_snoc, sW_snoc, hq.out]
        exact bD2.set _
      · have := hb1.size
        have h2 := (KeepsOthers.setCell w1 ⟨w.heap.size + 1, 0, none⟩ (.int .i64 q)).size
        simp
        omega
  case done =>
    rintro D ys W hD hys ⟨⟨bD1, hB1⟩, hz⟩ hK
    have cD := bD1.cell
    gi_wp2
    refine ⟨by simp, .inl ⟨_, _, rfl, run_takeDeferred hK, ?_⟩⟩
    refine ⟨_, results_tmp rfl _ _ _, ?_, hB1.trans (belowK_b (w := w) (Nat.le_refl _) W D _ _ (by omega) hK rfl rfl)⟩
    have h2 := tobjs_size x
    have h3 := tobjs_eq x
    rw [if_neg (by intro h; rw [h] at g; cases g)] at h3
    show Ending.returned (.int .i64 (sW (ttargets x))) = _
    rw [h3, sW_eq _ (by omega)]
    congr 2
  case stop =>
    rintro D c pre W _ _ h _
    exact h.elim
theorem valid_el (x : S25) (h : tvalid x = true) : x.f1 = 7 → x.f0 = 2 := by
  intro h7
  by_cases h2 : x.f0 = 2
  · exact h2
  · by_cases h0 : x.f0 = 0
    · rw [tvalid_null x h0, h7] at h; simp at h
    · by_cases h1 : x.f0 = 1
      · rw [tvalid_struct x h1] at h; unfold structV at h; rw [h7] at h; simp at h
      · rw [tvalid_other x h0 h1 h2] at h; cases h
theorem valid_kids (x : S25) (h : tvalid x = true) : ∀ y ∈ x.f4, tvalid y = true := by
  rw [tvalid_eq, Bool.and_eq_true] at h
  exact fun y hy => (((tvalids_all _ _).1 h.1) y hy).1
theorem valid_targets (x : S25) (h : tvalid x = true) : ∀ y ∈ ttargets x, tvalid y = true := by
  unfold ttargets
  split
  · intro y hy
    obtain ⟨z, hz, hy⟩ := mem_tkids.1 hy
    exact valid_kids z (valid_kids x h z hz) y hy
  · exact valid_kids x h
theorem depth_all : ∀ (n : Nat) (x : S25), tsize x ≤ n → tvalid x = true → tsize x ≤ 4611686018427387904 → NodeI 14 (tdepth x) x
  | 0, x, h, _, _ => by have := tsize_eq x; omega
  | n + 1, x, h, hv, hs => by
    by_cases h0 : x.f0 = 0
    · exact depth_null x h0
    · exact depth_step x (valid_el x hv) h0 hs fun y hy => depth_all n y (by have := ttargets_size hy; omega) (valid_targets x hv y hy) (by have := ttargets_size hy; omega)
theorem objs_all : ∀ (n : Nat) (x : S25), tsize x ≤ n → tvalid x = true → tsize x ≤ 4611686018427387904 → NodeI 16 (tobjs x) x
  | 0, x, h, _, _ => by have := tsize_eq x; omega
  | n + 1, x, h, hv, hs => by
    by_cases h0 : x.f0 = 0
    · exact objs_null x h0
    · exact objs_step x (valid_el x hv) h0 hs fun y hy => objs_all n y (by have := ttargets_size hy; omega) (valid_targets x hv y hy) (by have := ttargets_size hy; omega)
end Go.Proofs.YtmbockhcmhghlaaDoor.Pr
end
section
namespace Go.Proofs.YtmbockhcmhghlaaDoor.Pr
open Go.RowKit Go.Proofs.YtmbockhcmhghlaaDoorW.PrintWords Go.Proofs.YtmbockhcmhghlaaDoorW.PrintLast Go.Proofs.YtmbockhcmhghlaaDoorW.PrintMore
set_option linter.unusedVariables false
set_option linter.unusedSimpArgs false
noncomputable section
open Classical
def node_Valid.f (_ : Nat) (a0 a1 a2 : Int) (l3 : List Int) (l4 : List S25) : Option Bool := if okT ⟨a0, a1, a2, l3, l4⟩ then some (tvalid ⟨a0, a1, a2, l3, l4⟩) else none
def node_Equal.f (_ : Nat) (a0 a1 a2 : Int) (l3 : List Int) (l4 : List S25) (b0 b1 b2 : Int) (m3 : List Int) (m4 : List S25) : Option Bool := if okT ⟨a0, a1, a2, l3, l4⟩ ∧ okT ⟨b0, b1, b2, m3, m4⟩ then some (eqT ⟨a0, a1, a2, l3, l4⟩ ⟨b0, b1, b2, m3, m4⟩) else none
def node_Depth.f (_ : Nat) (a0 a1 a2 : Int) (l3 : List Int) (l4 : List S25) : Option Int := if tvalid ⟨a0, a1, a2, l3, l4⟩ = true ∧ tsize ⟨a0, a1, a2, l3, l4⟩ ≤ 4611686018427387904 then some (tdepth ⟨a0, a1, a2, l3, l4⟩ : Int) else none
def node_Objects.f (_ : Nat) (a0 a1 a2 : Int) (l3 : List Int) (l4 : List S25) : Option Int := if tvalid ⟨a0, a1, a2, l3, l4⟩ = true ∧ tsize ⟨a0, a1, a2, l3, l4⟩ ≤ 4611686018427387904 then some (tobjs ⟨a0, a1, a2, l3, l4⟩ : Int) else none
theorem node_Valid.calls (k : Nat) (a0 a1 a2 : Int) (A3 : Option Addr) (c3 : Nat) (l3 : List Int) (A4 : Option Addr) (c4 : Nat) (l4 : List S25) (r : Bool) (w : World) (h3 : Kd.C (Kd.int .u8) w A3 l3.length l3) (g3 : l3.length ≤ c3) (h4 : Kd.C k25 w A4 l4.length l4) (g4 : l4.length ≤ c4)
    (h : node_Valid.f k a0 a1 a2 l3 l4 = some r) (ht : Ls.Tab w) :
    Calls Tryd.prog 10 #[.agg #[.int .i64 a0, .int .i64 a1, .int .i64 a2, .slice A3 l3.length c3, .slice A4 l4.length c4]] w fun e w' => e = .returned (.bool r) ∧ Below w.heap.size w w' := by
  unfold node_Valid.f at h
  split at h
  · rename_i hok
    cases h
    exact (valid_both _ ⟨a0, a1, a2, l3, l4⟩ (Nat.le_refl _) hok).1 A3 c3 A4 c4 w h3 g3 h4 g4 ht
  · cases h
theorem node_Equal.calls (k : Nat) (a0 a1 a2 : Int) (A3 : Option Addr) (c3 : Nat) (l3 : List Int) (A4 : Option Addr) (c4 : Nat) (l4 : List S25) (b0 b1 b2 : Int) (B3 : Option Addr) (d3 : Nat) (m3 : List Int) (B4 : Option Addr) (d4 : Nat) (m4 : List S25) (r : Bool) (w : World)
    (h3 : Kd.C (Kd.int .u8) w A3 l3.length l3) (g3 : l3.length ≤ c3) (h4 : Kd.C k25 w A4 l4.length l4) (g4 : l4.length ≤ c4) (k3 : Kd.C (Kd.int .u8) w B3 m3.length m3) (f3 : m3.length ≤ d3) (k4 : Kd.C k25 w B4 m4.length m4) (f4 : m4.length ≤ d4)
    (h : node_Equal.f k a0 a1 a2 l3 l4 b0 b1 b2 m3 m4 = some r) :
    Calls Tryd.prog 12 #[.agg #[.int .i64 a0, .int .i64 a1, .int .i64 a2, .slice A3 l3.length c3, .slice A4 l4.length c4], .agg #[.int .i64 b0, .int .i64 b1, .int .i64 b2, .slice B3 m3.length d3, .slice B4 m4.length d4]] w fun e w' => e = .returned (.bool r) ∧ Below w.heap.size w w' := by
  unfold node_Equal.f at h
  split at h
  · rename_i hok
    cases h
    exact nequal_all ⟨a0, a1, a2, l3, l4⟩ ⟨b0, b1, b2, m3, m4⟩ hok.1 hok.2 A3 c3 A4 c4 B3 d3 B4 d4 w h3 g3 h4 g4 k3 f3 k4 f4
  · cases h
theorem node_Depth.calls (k : Nat) (a0 a1 a2 : Int) (A3 : Option Addr) (c3 : Nat) (l3 : List Int) (A4 : Option Addr) (c4 : Nat) (l4 : List S25) (r : Int) (w : World) (h3 : Kd.C (Kd.int .u8) w A3 l3.length l3) (g3 : l3.length ≤ c3) (h4 : Kd.C k25 w A4 l4.length l4) (g4 : l4.length ≤ c4)
    (h : node_Depth.f k a0 a1 a2 l3 l4 = some r) :
    Calls Tryd.prog 14 #[.agg #[.int .i64 a0, .int .i64 a1, .int .i64 a2, .slice A3 l3.length c3, .slice A4 l4.length c4]] w fun e w' => e = .returned (.int .i64 r) ∧ Below w.heap.size w w' := by
  unfold node_Depth.f at h
  split at h
  · rename_i hok
    cases h
    exact depth_all _ ⟨a0, a1, a2, l3, l4⟩ (Nat.le_refl _) hok.1 hok.2 A3 c3 A4 c4 w h3 g3 h4 g4
  · cases h
theorem node_Objects.calls (k : Nat) (a0 a1 a2 : Int) (A3 : Option Addr) (c3 : Nat) (l3 : List Int) (A4 : Option Addr) (c4 : Nat) (l4 : List S25) (r : Int) (w : World) (h3 : Kd.C (Kd.int .u8) w A3 l3.length l3) (g3 : l3.length ≤ c3) (h4 : Kd.C k25 w A4 l4.length l4) (g4 : l4.length ≤ c4)
    (h : node_Objects.f k a0 a1 a2 l3 l4 = some r) :
    Calls Tryd.prog 16 #[.agg #[.int .i64 a0, .int .i64 a1, .int .i64 a2, .slice A3 l3.length c3, .slice A4 l4.length c4]] w fun e w' => e = .returned (.int .i64 r) ∧ Below w.heap.size w w' := by
  unfold node_Objects.f at h
  split at h
  · rename_i hok
    cases h
    exact objs_all _ ⟨a0, a1, a2, l3, l4⟩ (Nat.le_refl _) hok.1 hok.2 A3 c3 A4 c4 w h3 g3 h4 g4
  · cases h
end
end Go.Proofs.YtmbockhcmhghlaaDoor.Pr
end
section
namespace Go.Proofs.YtmbockhcmhghlaaDoor.Pr
open Go.RowKit Go.Proofs.YtmbockhcmhghlaaDoorW.PrintWords Go.Proofs.YtmbockhcmhghlaaDoorW.PrintLast Go.Proofs.YtmbockhcmhghlaaDoorW.PrintMore
set_option linter.unusedVariables false
set_option linter.unusedSimpArgs false
def capnplaw10_awake.f : Option Bool := some true
abbrev exZ : S25 := ⟨0, 0, 0, [], []⟩
abbrev exN : S25 := ⟨1, 0, 0, [], []⟩
abbrev exS : S25 := ⟨1, 0, 0, [], [z25]⟩
abbrev exE : S25 := ⟨1, 0, 0, [0, 0, 0, 0, 0, 0, 0, 0], [exS]⟩
abbrev exL : S25 := ⟨2, 7, 2, [], [exN, exE]⟩
abbrev exB : S25 := ⟨2, 1, 3, [7], []⟩
abbrev exD : S25 := ⟨2, 1, 3, [8], []⟩
abbrev exO : S25 := ⟨2, 7, 2, [], [exN, exZ]⟩
theorem ok_leaf (a0 a1 a2 : Int) (l3 : List Int) (h : ∀ x ∈ l3, 0 ≤ x ∧ x ≤ 255) : okT ⟨a0, a1, a2, l3, []⟩ := AllT.mk h (fun _ hx => by cases hx)
theorem ok_z : okT z25 := ok_leaf 0 0 0 [] (by decide)
theorem ok_s : okT exS := AllT.mk (by decide) (fun x hx => by rw [List.mem_singleton.1 hx]; exact ok_z)
theorem ok_e : okT exE := AllT.mk (by decide) (fun x hx => by rw [List.mem_singleton.1 hx]; exact ok_s)
theorem ok_n : okT exN := ok_leaf 1 0 0 [] (by decide)
theorem ok_two {a0 a1 a2 : Int} {x y : S25} (hx : okT x) (hy : okT y) : okT ⟨a0, a1, a2, [], [x, y]⟩ := AllT.mk (fun z hz => by cases hz) (fun z hz => by
  rcases List.mem_cons.1 hz with rfl | hz
  · exact hx
  · rw [List.mem_singleton.1 hz]; exact hy)
theorem ok_l : okT exL := ok_two ok_n ok_e
theorem ok_o : okT exO := ok_two ok_n ok_z
theorem ok_b : okT exB := ok_leaf 2 1 3 [7] (by decide)
theorem ok_d : okT exD := ok_leaf 2 1 3 [8] (by decide)
theorem val_f {k : Nat} {a0 a1 a2 : Int} {l3 : List Int} {l4 : List S25} (b : Bool) (ho : okT ⟨a0, a1, a2, l3, l4⟩) (hb : tvalid ⟨a0, a1, a2, l3, l4⟩ = b) : node_Valid.f k a0 a1 a2 l3 l4 = some b := by unfold node_Valid.f; rw [if_pos ho, hb]
theorem dep_f {k : Nat} {a0 a1 a2 : Int} {l3 : List Int} {l4 : List S25} (r : Int) (hv : tvalid ⟨a0, a1, a2, l3, l4⟩ = true) (hs : Nat.ble (tsize ⟨a0, a1, a2, l3, l4⟩) 4611686018427387904 = true) (hr : (tdepth ⟨a0, a1, a2, l3, l4⟩ : Int) = r) : node_Depth.f k a0 a1 a2 l3 l4 = some r := by unfold node_Depth.f; rw [if_pos ⟨hv, Nat.le_of_ble_eq_true hs⟩, hr]
theorem obj_f {k : Nat} {a0 a1 a2 : Int} {l3 : List Int} {l4 : List S25} (r : Int) (hv : tvalid ⟨a0, a1, a2, l3, l4⟩ = true) (hs : Nat.ble (tsize ⟨a0, a1, a2, l3, l4⟩) 4611686018427387904 = true) (hr : (tobjs ⟨a0, a1, a2, l3, l4⟩ : Int) = r) : node_Objects.f k a0 a1 a2 l3 l4 = some r := by unfold node_Objects.f; rw [if_pos ⟨hv, Nat.le_of_ble_eq_true hs⟩, hr]
theorem equ_f {k : Nat} {a0 a1 a2 : Int} {l3 : List Int} {l4 : List S25} {b0 b1 b2 : Int} {m3 : List Int} {m4 : List S25} (r : Bool) (ho : okT ⟨a0, a1, a2, l3, l4⟩) (hp : okT ⟨b0, b1, b2, m3, m4⟩) (hr : eqT ⟨a0, a1, a2, l3, l4⟩ ⟨b0, b1, b2, m3, m4⟩ = r) : node_Equal.f k a0 a1 a2 l3 l4 b0 b1 b2 m3 m4 = some r := by unfold node_Equal.f; rw [if_pos ⟨ho, hp⟩, hr]
theorem fx1 : node_Valid.f 0 0 0 0 [] [] = some true := val_f _ ok_z (by kernel_rfl)
theorem fx2 : node_Valid.f 0 1 0 0 [] [z25] = some true := val_f _ ok_s (by kernel_rfl)
theorem fx3 : node_Valid.f 0 2 7 2 [] [exN, exE] = some true := val_f _ ok_l (by kernel_rfl)
theorem fx4 : node_Valid.f 0 2 1 3 [7] [] = some true := val_f _ ok_b (by kernel_rfl)
theorem fx5 : node_Valid.f 0 2 1 3 [8] [] = some false := val_f _ ok_d (by kernel_rfl)
theorem fx6 : node_Valid.f 0 2 7 2 [] [exN, exZ] = some false := val_f _ ok_o (by kernel_rfl)
theorem fx7 : node_Valid.f 0 3 0 0 [] [] = some false := val_f _ (ok_leaf 3 0 0 [] (by decide)) (by kernel_rfl)
theorem fx8 : node_Valid.f 0 1 0 0 [0, 0, 0, 0] [] = some false := val_f _ (ok_leaf 1 0 0 [0, 0, 0, 0] (by decide)) (by kernel_rfl)
theorem fx9 : node_Depth.f 0 1 0 0 [] [z25] = some 1 := dep_f _ (by kernel_rfl) (by kernel_rfl) (by kernel_rfl)
theorem fx10 : node_Objects.f 0 1 0 0 [] [z25] = some 1 := obj_f _ (by kernel_rfl) (by kernel_rfl) (by kernel_rfl)
theorem fx11 : node_Depth.f 0 2 7 2 [] [exN, exE] = some 2 := dep_f _ (by kernel_rfl) (by kernel_rfl) (by kernel_rfl)
theorem fx12 : node_Objects.f 0 2 7 2 [] [exN, exE] = some 2 := obj_f _ (by kernel_rfl) (by kernel_rfl) (by kernel_rfl)
theorem fx13 : node_Depth.f 0 0 0 0 [] [] = some 0 := dep_f _ (by kernel_rfl) (by kernel_rfl) (by kernel_rfl)
theorem fx14 : node_Equal.f 0 2 7 2 [] [exN, exE] 2 7 2 [] [exN, exE] = some true := equ_f _ ok_l ok_l (eqT_true rfl)
theorem fx15 : node_Equal.f 0 2 7 2 [] [exN, exE] 2 1 3 [7] [] = some false := equ_f _ ok_l ok_b (eqT_false fun h => absurd (congrArg S25.f1 h) (by decide))
theorem fx16 : node_Equal.f 0 2 1 3 [7] [] 2 1 3 [8] [] = some false := equ_f _ ok_b ok_d (eqT_false fun h => absurd (congrArg S25.f3 h) (by decide))
theorem at_world {α : Type} {K : α → World → Prop} {a : α} {w : World} (h : ∀ W, W = w → K a W) : K a w := h w rfl
set_option maxRecDepth 100000 in
set_option maxHeartbeats 16000000 in
theorem capnplaw10_awake.calls (r : Bool) (w : World) (h : capnplaw10_awake.f = some r) (ht : Ls.Tab w) : Calls Tryd.prog 8 #[] w fun e w' => e = .returned (.bool r) ∧ Below w.heap.size w w' := by
  obtain rfl : true = r := Option.some.inj h
  clear h
  have mk1 : ∀ W : World, (Instr.makeSlice 23 (.int .i64 1) (.int .i64 1)).run Tryd.prog W = .ok (.slice (some ⟨W.heap.size, 0, none⟩) 1 1) (W.alloc (.cells #[.int .i64 0, .int .i64 0, .int .i64 0, .slice none 0 0, .slice none 0 0] 25)) := fun _ => by kernel_rfl
  have mk2 : ∀ W : World, (Instr.makeSlice 22 (.int .i64 8) (.int .i64 8)).run Tryd.prog W = .ok (.slice (some ⟨W.heap.size, 0, none⟩) 8 8) (W.alloc (.cells #[.int .u8 0, .int .u8 0, .int .u8 0, .int .u8 0, .int .u8 0, .int .u8 0, .int .u8 0, .int .u8 0] 5)) := fun _ => by kernel_rfl
  have mk3 : ∀ W : World, (Instr.makeSlice 22 (.int .i64 4) (.int .i64 4)).run Tryd.prog W = .ok (.slice (some ⟨W.heap.size, 0, none⟩) 4 4) (W.alloc (.cells #[.int .u8 0, .int .u8 0, .int .u8 0, .int .u8 0] 5)) := fun _ => by kernel_rfl
  have HT := Lib.hid ht
  clear ht
  have HB := Lib.hid (Below.refl w.heap.size w)
  go_enter Tryd.func8, Tryd.ntmps8
  go_upto_region 2 with fail
  refine wp_at (fun W1 hW => ?_)
  have hb : Below w.heap.size w W1 := by rw [hW]; repeat (first | exact Below.refl _ _ | refine Below.alloc ?_ (by first | exact Nat.le_refl _ | (simp <;> omega)) _)
  have nB6 : W1.heap[w.heap.size]? = some (.cells #[.int .i64 0, .int .i64 0, .int .i64 0, .slice none 0 0, .slice none 0 0] 25 (0, 0)) := by rw [hW]; repeat (first | exact heap_alloc_new _ _ | exact blk_new _ _ _ (by simp) | refine blk_alloc ?_ _)
  have nBS : W1.heap[w.heap.size + 1]? = some (.cells #[.int .i64 1, .int .i64 0, .int .i64 0, .slice none 0 0, .slice (some ⟨w.heap.size, 0, none⟩) 1 1] 25 (0, 0)) := by rw [hW]; repeat (first | exact heap_alloc_new _ _ | exact blk_new _ _ _ (by simp) | refine blk_alloc ?_ _)
  clear hW
  replace HT := Lib.hid (HT.out.below hb)
  replace HB := Lib.hid (below_step HB.out hb)
  clear hb
  have B6 := Lib.hid nB6
  clear nB6
  have BS := Lib.hid nBS
  clear nBS
  have l_BS : w.heap.size + 1 < W1.heap.size := blk_lt BS.out
  have q_BS_0 : W1.cell? ⟨w.heap.size + 1, 0, none⟩ = some (.int .i64 1) := (blk_cell BS.out 0).trans rfl
  have q_BS_1 : W1.cell? ⟨w.heap.size + 1, 1, none⟩ = some (.int .i64 0) := (blk_cell BS.out 1).trans rfl
  have q_BS_2 : W1.cell? ⟨w.heap.size + 1, 2, none⟩ = some (.int .i64 0) := (blk_cell BS.out 2).trans rfl
  have q_BS_3 : W1.cell? ⟨w.heap.size + 1, 3, none⟩ = some (.slice none 0 0) := (blk_cell BS.out 3).trans rfl
  have q_BS_4 : W1.cell? ⟨w.heap.size + 1, 4, none⟩ = some (.slice (some ⟨w.heap.size, 0, none⟩) 1 1) := (blk_cell BS.out 4).trans rfl
  refine start_ (n := 9) (S := fun w' => w'.cell? ⟨w.heap.size + 1, 0, none⟩ = some (.int .i64 1) ∧ w'.cell? ⟨w.heap.size + 1, 1, none⟩ = some (.int .i64 0) ∧ w'.cell? ⟨w.heap.size + 1, 2, none⟩ = some (.int .i64 0) ∧ w'.cell? ⟨w.heap.size + 1, 3, none⟩ = some (.slice none 0 0) ∧ w'.cell? ⟨w.heap.size + 1, 4, none⟩ = some (.slice (some ⟨w.heap.size, 0, none⟩) 1 1)) (ds := [8]) #[false, false, false, false, false, false, false, false, false] (by kernel_rfl) rfl rfl ⟨q_BS_0, q_BS_1, q_BS_2, q_BS_3, q_BS_4⟩ (fun hHeld => ?_)
  obtain ⟨wd, hwd⟩ : ∃ W, W = W1.drew := ⟨_, rfl⟩
  rw [← hwd] at hHeld ⊢
  have hb1d : Below W1.heap.size W1 wd := by rw [hwd]; exact (Below.refl _ _).drew
  clear hwd
  clear l_BS q_BS_0 q_BS_1 q_BS_2 q_BS_3 q_BS_4
  replace HT := Lib.hid (HT.out.below hb1d)
  replace HB := Lib.hid (below_step HB.out hb1d)
  replace B6 := Lib.hid (blk_below B6.out hb1d)
  replace BS := Lib.hid (blk_below BS.out hb1d)
  clear hb1d
  have l_BSd : w.heap.size + 1 < wd.heap.size := blk_lt BS.out
  have hbR := Below.refl wd.heap.size wd
  have qd_0 : wd.cell? ⟨w.heap.size + 1, 0, none⟩ = some (.int .i64 1) := (blk_cell BS.out 0).trans rfl
  have qd_1 : wd.cell? ⟨w.heap.size + 1, 1, none⟩ = some (.int .i64 0) := (blk_cell BS.out 1).trans rfl
  have qd_2 : wd.cell? ⟨w.heap.size + 1, 2, none⟩ = some (.int .i64 0) := (blk_cell BS.out 2).trans rfl
  have qd_3 : wd.cell? ⟨w.heap.size + 1, 3, none⟩ = some (.slice none 0 0) := (blk_cell BS.out 3).trans rfl
  have qd_4 : wd.cell? ⟨w.heap.size + 1, 4, none⟩ = some (.slice (some ⟨w.heap.size, 0, none⟩) 1 1) := (blk_cell BS.out 4).trans rfl
  refine pure_ (i := 0) (N := some 8) (v := ?_) (a' := ?_) #[true, false, false, false, false, false, false, false, false] rfl rfl (by kernel_rfl) (fun _ _ _ h => h) (Or.inl ⟨by rfl, ?_⟩) ?_ ?_
  rotate_left
  · intro w'
    go_simp
    with_reducible rfl
  rotate_left
  · simp only [Act.put, List.setIfInBounds_toArray, List.set_cons_zero, List.set_cons_succ, i64_w, i32_w]
    rfl
  refine take_ (i := 2) (N := some 10) (v := ?_) (a' := ?_) #[true, false, true, false, false, false, false, false, false] rfl rfl (by kernel_rfl) (fun _ _ _ h => h) (Or.inl ⟨by rfl, ?_⟩) hHeld ?_ ?_
  rotate_left
  · rintro w' ⟨s0, s1, s2, s3, s4⟩
    go_simp
    with_reducible rfl
  rotate_left
  · simp only [Act.put, List.setIfInBounds_toArray, List.set_cons_zero, List.set_cons_succ, i64_w, i32_w]
    rfl
  refine join_ (σ := Nat × Nat × Nat × Nat) 1 #[true, true, true, true, true, true, true, true, false] (fun s_ => [(9, .slice (some ⟨s_.1, 0, none⟩) 8 8), (11, .slice (some ⟨s_.2.1, 0, none⟩) 1 1), (12, .agg #[.int .i64 1, .int .i64 0, .int .i64 0, .slice (some ⟨s_.1, 0, none⟩) 8 8, .slice (some ⟨s_.2.1, 0, none⟩) 1 1]), (13, .slice (some ⟨s_.2.2.1, 0, none⟩) 2 2), (14, .agg #[.int .i64 2, .int .i64 7, .int .i64 2, .slice none 0 0, .slice (some ⟨s_.2.2.1, 0, none⟩) 2 2]), (2, .pointer (some ⟨s_.2.2.2, 0, none⟩))]) (fun s_ w' => (w'.cell? ⟨w.heap.size + 1, 0, none⟩ = some (.int .i64 1) ∧ w'.cell? ⟨w.heap.size + 1, 1, none⟩ = some (.int .i64 0) ∧ w'.cell? ⟨w.heap.size + 1, 2, none⟩ = some (.int .i64 0) ∧ w'.cell? ⟨w.heap.size + 1, 3, none⟩ = some (.slice none 0 0) ∧ w'.cell? ⟨w.heap.size + 1, 4, none⟩ = some (.slice (some ⟨w.heap.size, 0, none⟩) 1 1)) ∧ Below wd.heap.size wd w' ∧ wd.heap.size ≤ s_.2.2.2 ∧ Hid (w'.heap[s_.1]? = some (.cells #[(.int .u8 0), (.int .u8 0), (.int .u8 0), (.int .u8 0), (.int .u8 0), (.int .u8 0), (.int .u8 0), (.int .u8 0)] 5 (0, 0))) ∧ Hid (w'.heap[s_.2.1]? = some (.cells #[.int .i64 1, .int .i64 0, .int .i64 0, .slice none 0 0, .slice (some ⟨w.heap.size, 0, none⟩) 1 1] 25 (0, 0))) ∧ Hid (w'.heap[s_.2.2.1]? = some (.cells #[.int .i64 1, .int .i64 0, .int .i64 0, .slice none 0 0, .slice none 0 0, .int .i64 1, .int .i64 0, .int .i64 0, .slice (some ⟨s_.1, 0, none⟩) 8 8, .slice (some ⟨s_.2.1, 0, none⟩) 1 1] 25 (0, 0))) ∧ Hid (w'.heap[s_.2.2.2]? = some (.cells #[.int .i64 0, .int .i64 0, .int .i64 0, .slice none 0 0, .slice none 0 0] 25 (0, 0)))) ?_ ?_
  rotate_left
  · intro hCont
    refine three_ (i := 1) (j := 3) (k := 7) (Ni := some 9) (Nj := some 11) (Nk := some 2) #[true, true, true, false, false, false, false, false, false] #[true, false, true, true, false, false, false, false, false] #[true, false, true, false, false, false, false, true, false] rfl rfl rfl rfl rfl rfl (by kernel_rfl) (by decide) (by decide) (by decide) (fun K hK => ?_) (fun K hK => ?_) (fun K hK => ?_)
    · skip
      refine value_ (w1 := ?_) (v := ?_) (by rfl) rfl ?_ ?_
      rotate_left 2
      · go_simp
        constructor
        · rfl
        · rfl
      refine at_world (fun e1 he => ?_)
      have nD : e1.heap[wd.heap.size]? = some (.cells #[(.int .u8 0), (.int .u8 0), (.int .u8 0), (.int .u8 0), (.int .u8 0), (.int .u8 0), (.int .u8 0), (.int .u8 0)] 5 (0, 0)) := by rw [he]; exact heap_alloc_new _ _
      have hbE : Below wd.heap.size wd e1 := by rw [he]; exact (Below.refl _ _).alloc (Nat.le_refl _) _
      clear he
      have D9 := Lib.hid nD
      replace hbR := hbR.trans (hbE.mono hbR.size)
      clear nD hbE
      refine hK.out _ _ ⟨(hbR.cell (p := ⟨w.heap.size + 1, 0, none⟩) l_BSd).trans qd_0, (hbR.cell (p := ⟨w.heap.size + 1, 1, none⟩) l_BSd).trans qd_1, (hbR.cell (p := ⟨w.heap.size + 1, 2, none⟩) l_BSd).trans qd_2, (hbR.cell (p := ⟨w.heap.size + 1, 3, none⟩) l_BSd).trans qd_3, (hbR.cell (p := ⟨w.heap.size + 1, 4, none⟩) l_BSd).trans qd_4⟩ (fun hHeld => ?_)
      clear hK K
      refine norm_ (a' := ?_) ?_ ?_
      rotate_left
      · show Act.put _ (some 9) _ = _
        simp only [Act.put, List.setIfInBounds_toArray, List.set_cons_zero, List.set_cons_succ, i64_w, i32_w]
        rfl
      refine two_ (i := 3) (j := 7) (Ni := some 11) (Nj := some 2) #[true, true, true, true, false, false, false, false, false] #[true, true, true, false, false, false, false, true, false] rfl rfl rfl rfl (by kernel_rfl) (by decide) (by decide) (fun K hK => ?_) (fun K hK => ?_)
      · skip
        refine value_ (w1 := ?_) (v := ?_) (by rfl) rfl ?_ ?_
        rotate_left 2
        · go_simp
          constructor
          · rfl
          · rfl
        refine at_world (fun e2 he => ?_)
        have nD : e2.heap[e1.heap.size]? = some (.cells #[.int .i64 1, .int .i64 0, .int .i64 0, .slice none 0 0, .slice (some ⟨w.heap.size, 0, none⟩) 1 1] 25 (0, 0)) := by rw [he]; exact heap_alloc_new _ _
        have hbE : Below e1.heap.size e1 e2 := by rw [he]; exact (Below.refl _ _).alloc (Nat.le_refl _) _
        clear he
        replace D9 := Lib.hid (blk_below D9.out hbE)
        have D11 := Lib.hid nD
        replace hbR := hbR.trans (hbE.mono hbR.size)
        clear nD hbE
        refine hK.out _ _ ⟨(hbR.cell (p := ⟨w.heap.size + 1, 0, none⟩) l_BSd).trans qd_0, (hbR.cell (p := ⟨w.heap.size + 1, 1, none⟩) l_BSd).trans qd_1, (hbR.cell (p := ⟨w.heap.size + 1, 2, none⟩) l_BSd).trans qd_2, (hbR.cell (p := ⟨w.heap.size + 1, 3, none⟩) l_BSd).trans qd_3, (hbR.cell (p := ⟨w.heap.size + 1, 4, none⟩) l_BSd).trans qd_4⟩ (fun hHeld => ?_)
        clear hK K
        refine norm_ (a' := ?_) ?_ ?_
        rotate_left
        · show Act.put _ (some 11) _ = _
          simp only [Act.put, List.setIfInBounds_toArray, List.set_cons_zero, List.set_cons_succ, i64_w, i32_w]
          rfl
        refine pure_ (i := 4) (N := some 12) (v := ?_) (a' := ?_) #[true, true, true, true, true, false, false, false, false] rfl rfl (by kernel_rfl) (fun _ _ _ h => h) (Or.inl ⟨by rfl, ?_⟩) ?_ ?_
        rotate_left
        · intro w'
          go_simp
          with_reducible rfl
        rotate_left
        · simp only [Act.put, List.setIfInBounds_toArray, List.set_cons_zero, List.set_cons_succ, i64_w, i32_w]
          rfl
        refine two_ (i := 5) (j := 7) (Ni := some 13) (Nj := some 2) #[true, true, true, true, true, true, false, false, false] #[true, true, true, true, true, false, false, true, false] rfl rfl rfl rfl (by kernel_rfl) (by decide) (by decide) (fun K hK => ?_) (fun K hK => ?_)
        · skip
          refine value_ (w1 := ?_) (v := ?_) (by rfl) rfl ?_ ?_
          rotate_left 2
          · go_simp
            constructor
            · rfl
            · rfl
          refine at_world (fun e3 he => ?_)
          have nD : e3.heap[e2.heap.size]? = some (.cells #[.int .i64 1, .int .i64 0, .int .i64 0, .slice none 0 0, .slice none 0 0, .int .i64 1, .int .i64 0, .int .i64 0, .slice (some ⟨wd.heap.size, 0, none⟩) 8 8, .slice (some ⟨e1.heap.size, 0, none⟩) 1 1] 25 (0, 0)) := by rw [he]; exact heap_alloc_new _ _
          have hbE : Below e2.heap.size e2 e3 := by rw [he]; exact (Below.refl _ _).alloc (Nat.le_refl _) _
          clear he
          replace D9 := Lib.hid (blk_below D9.out hbE)
          replace D11 := Lib.hid (blk_below D11.out hbE)
          have D13 := Lib.hid nD
          replace hbR := hbR.trans (hbE.mono hbR.size)
          clear nD hbE
          refine hK.out _ _ ⟨(hbR.cell (p := ⟨w.heap.size + 1, 0, none⟩) l_BSd).trans qd_0, (hbR.cell (p := ⟨w.heap.size + 1, 1, none⟩) l_BSd).trans qd_1, (hbR.cell (p := ⟨w.heap.size + 1, 2, none⟩) l_BSd).trans qd_2, (hbR.cell (p := ⟨w.heap.size + 1, 3, none⟩) l_BSd).trans qd_3, (hbR.cell (p := ⟨w.heap.size + 1, 4, none⟩) l_BSd).trans qd_4⟩ (fun hHeld => ?_)
          clear hK K
          refine norm_ (a' := ?_) ?_ ?_
          rotate_left
          · show Act.put _ (some 13) _ = _
            simp only [Act.put, List.setIfInBounds_toArray, List.set_cons_zero, List.set_cons_succ, i64_w, i32_w]
            rfl
          refine pure_ (i := 6) (N := some 14) (v := ?_) (a' := ?_) #[true, true, true, true, true, true, true, false, false] rfl rfl (by kernel_rfl) (fun _ _ _ h => h) (Or.inl ⟨by rfl, ?_⟩) ?_ ?_
          rotate_left
          · intro w'
            go_simp
            with_reducible rfl
          rotate_left
          · simp only [Act.put, List.setIfInBounds_toArray, List.set_cons_zero, List.set_cons_succ, i64_w, i32_w]
            rfl
          refine one_ (i := 7) (N := some 2) #[true, true, true, true, true, true, true, true, false] rfl rfl (by kernel_rfl) (by decide) (fun K hK => ?_)
          refine value_ (w1 := ?_) (v := ?_) (by rfl) rfl ?_ ?_
          rotate_left 2
          · go_simp
            constructor
            · rfl
            · rfl
          refine at_world (fun e4 he => ?_)
          have nD : e4.heap[e3.heap.size]? = some (.cells #[.int .i64 0, .int .i64 0, .int .i64 0, .slice none 0 0, .slice none 0 0] 25 (0, 0)) := by rw [he]; exact heap_alloc_new _ _
          have hbE : Below e3.heap.size e3 e4 := by rw [he]; exact (Below.refl _ _).alloc (Nat.le_refl _) _
          clear he
          have hgl : wd.heap.size ≤ e3.heap.size := hbR.size
          replace D9 := Lib.hid (blk_below D9.out hbE)
          replace D11 := Lib.hid (blk_below D11.out hbE)
          replace D13 := Lib.hid (blk_below D13.out hbE)
          have Dl := Lib.hid nD
          replace hbR := hbR.trans (hbE.mono hbR.size)
          clear nD hbE
          refine hK.out _ _ ⟨(hbR.cell (p := ⟨w.heap.size + 1, 0, none⟩) l_BSd).trans qd_0, (hbR.cell (p := ⟨w.heap.size + 1, 1, none⟩) l_BSd).trans qd_1, (hbR.cell (p := ⟨w.heap.size + 1, 2, none⟩) l_BSd).trans qd_2, (hbR.cell (p := ⟨w.heap.size + 1, 3, none⟩) l_BSd).trans qd_3, (hbR.cell (p := ⟨w.heap.size + 1, 4, none⟩) l_BSd).trans qd_4⟩ (fun hHeld => ?_)
          clear hK K
          refine norm_ (a' := ?_) ?_ ?_
          rotate_left
          · show Act.put _ (some 2) _ = _
            simp only [Act.put, List.setIfInBounds_toArray, List.set_cons_zero, List.set_cons_succ, i64_w, i32_w]
            rfl
          exact norm_ (by simp only [putAll, Act.put, List.setIfInBounds_toArray, List.set_cons_zero, List.set_cons_succ]) (hCont (wd.heap.size, e1.heap.size, e2.heap.size, e3.heap.size) _ ⟨⟨(hbR.cell (p := ⟨w.heap.size + 1, 0, none⟩) l_BSd).trans qd_0, (hbR.cell (p := ⟨w.heap.size + 1, 1, none⟩) l_BSd).trans qd_1, (hbR.cell (p := ⟨w.heap.size + 1, 2, none⟩) l_BSd).trans qd_2, (hbR.cell (p := ⟨w.heap.size + 1, 3, none⟩) l_BSd).trans qd_3, (hbR.cell (p := ⟨w.heap.size + 1, 4, none⟩) l_BSd).trans qd_4⟩, hbR, hgl, D9, D11, D13, Dl⟩)
        · skip
          refine value_ (w1 := ?_) (v := ?_) (by rfl) rfl ?_ ?_
          rotate_left 2
          · go_simp
            constructor
            · rfl
            · rfl
          refine at_world (fun e3 he => ?_)
          have nD : e3.heap[e2.heap.size]? = some (.cells #[.int .i64 0, .int .i64 0, .int .i64 0, .slice none 0 0, .slice none 0 0] 25 (0, 0)) := by rw [he]; exact heap_alloc_new _ _
          have hbE : Below e2.heap.size e2 e3 := by rw [he]; exact (Below.refl _ _).alloc (Nat.le_refl _) _
          clear he
          have hgl : wd.heap.size ≤ e2.heap.size := hbR.size
          replace D9 := Lib.hid (blk_below D9.out hbE)
          replace D11 := Lib.hid (blk_below D11.out hbE)
          have Dl := Lib.hid nD
          replace hbR := hbR.trans (hbE.mono hbR.size)
          clear nD hbE
          refine hK.out _ _ ⟨(hbR.cell (p := ⟨w.heap.size + 1, 0, none⟩) l_BSd).trans qd_0, (hbR.cell (p := ⟨w.heap.size + 1, 1, none⟩) l_BSd).trans qd_1, (hbR.cell (p := ⟨w.heap.size + 1, 2, none⟩) l_BSd).trans qd_2, (hbR.cell (p := ⟨w.heap.size + 1, 3, none⟩) l_BSd).trans qd_3, (hbR.cell (p := ⟨w.heap.size + 1, 4, none⟩) l_BSd).trans qd_4⟩ (fun hHeld => ?_)
          clear hK K
          refine norm_ (a' := ?_) ?_ ?_
          rotate_left
          · show Act.put _ (some 2) _ = _
            simp only [Act.put, List.setIfInBounds_toArray, List.set_cons_zero, List.set_cons_succ, i64_w, i32_w]
            rfl
          refine one_ (i := 5) (N := some 13) #[true, true, true, true, true, true, false, true, false] rfl rfl (by kernel_rfl) (by decide) (fun K hK => ?_)
          refine value_ (w1 := ?_) (v := ?_) (by rfl) rfl ?_ ?_
          rotate_left 2
          · go_simp
            constructor
            · rfl
            · rfl
          refine at_world (fun e4 he => ?_)
          have nD : e4.heap[e3.heap.size]? = some (.cells #[.int .i64 1, .int .i64 0, .int .i64 0, .slice none 0 0, .slice none 0 0, .int .i64 1, .int .i64 0, .int .i64 0, .slice (some ⟨wd.heap.size, 0, none⟩) 8 8, .slice (some ⟨e1.heap.size, 0, none⟩) 1 1] 25 (0, 0)) := by rw [he]; exact heap_alloc_new _ _
          have hbE : Below e3.heap.size e3 e4 := by rw [he]; exact (Below.refl _ _).alloc (Nat.le_refl _) _
          clear he
          replace D9 := Lib.hid (blk_below D9.out hbE)
          replace D11 := Lib.hid (blk_below D11.out hbE)
          replace Dl := Lib.hid (blk_below Dl.out hbE)
          have D13 := Lib.hid nD
          replace hbR := hbR.trans (hbE.mono hbR.size)
          clear nD hbE
          refine hK.out _ _ ⟨(hbR.cell (p := ⟨w.heap.size + 1, 0, none⟩) l_BSd).trans qd_0, (hbR.cell (p := ⟨w.heap.size + 1, 1, none⟩) l_BSd).trans qd_1, (hbR.cell (p := ⟨w.heap.size + 1, 2, none⟩) l_BSd).trans qd_2, (hbR.cell (p := ⟨w.heap.size + 1, 3, none⟩) l_BSd).trans qd_3, (hbR.cell (p := ⟨w.heap.size + 1, 4, none⟩) l_BSd).trans qd_4⟩ (fun hHeld => ?_)
          clear hK K
          refine norm_ (a' := ?_) ?_ ?_
          rotate_left
          · show Act.put _ (some 13) _ = _
            simp only [Act.put, List.setIfInBounds_toArray, List.set_cons_zero, List.set_cons_succ, i64_w, i32_w]
            rfl
          refine pure_ (i := 6) (N := some 14) (v := ?_) (a' := ?_) #[true, true, true, true, true, true, true, true, false] rfl rfl (by kernel_rfl) (fun _ _ _ h => h) (Or.inl ⟨by rfl, ?_⟩) ?_ ?_
          rotate_left
          · intro w'
            go_simp
            with_reducible rfl
          rotate_left
          · simp only [Act.put, List.setIfInBounds_toArray, List.set_cons_zero, List.set_cons_succ, i64_w, i32_w]
            rfl
          exact norm_ (by simp only [putAll, Act.put, List.setIfInBounds_toArray, List.set_cons_zero, List.set_cons_succ]) (hCont (wd.heap.size, e1.heap.size, e3.heap.size, e2.heap.size) _ ⟨⟨(hbR.cell (p := ⟨w.heap.size + 1, 0, none⟩) l_BSd).trans qd_0, (hbR.cell (p := ⟨w.heap.size + 1, 1, none⟩) l_BSd).trans qd_1, (hbR.cell (p := ⟨w.heap.size + 1, 2, none⟩) l_BSd).trans qd_2, (hbR.cell (p := ⟨w.heap.size + 1, 3, none⟩) l_BSd).trans qd_3, (hbR.cell (p := ⟨w.heap.size + 1, 4, none⟩) l_BSd).trans qd_4⟩, hbR, hgl, D9, D11, D13, Dl⟩)
      · skip
        refine value_ (w1 := ?_) (v := ?_) (by rfl) rfl ?_ ?_
        rotate_left 2
        · go_simp
          constructor
          · rfl
          · rfl
        refine at_world (fun e2 he => ?_)
        have nD : e2.heap[e1.heap.size]? = some (.cells #[.int .i64 0, .int .i64 0, .int .i64 0, .slice none 0 0, .slice none 0 0] 25 (0, 0)) := by rw [he]; exact heap_alloc_new _ _
        have hbE : Below e1.heap.size e1 e2 := by rw [he]; exact (Below.refl _ _).alloc (Nat.le_refl _) _
        clear he
        have hgl : wd.heap.size ≤ e1.heap.size := hbR.size
        replace D9 := Lib.hid (blk_below D9.out hbE)
        have Dl := Lib.hid nD
        replace hbR := hbR.trans (hbE.mono hbR.size)
        clear nD hbE
        refine hK.out _ _ ⟨(hbR.cell (p := ⟨w.heap.size + 1, 0, none⟩) l_BSd).trans qd_0, (hbR.cell (p := ⟨w.heap.size + 1, 1, none⟩) l_BSd).trans qd_1, (hbR.cell (p := ⟨w.heap.size + 1, 2, none⟩) l_BSd).trans qd_2, (hbR.cell (p := ⟨w.heap.size + 1, 3, none⟩) l_BSd).trans qd_3, (hbR.cell (p := ⟨w.heap.size + 1, 4, none⟩) l_BSd).trans qd_4⟩ (fun hHeld => ?_)
        clear hK K
        refine norm_ (a' := ?_) ?_ ?_
        rotate_left
        · show Act.put _ (some 2) _ = _
          simp only [Act.put, List.setIfInBounds_toArray, List.set_cons_zero, List.set_cons_succ, i64_w, i32_w]
          rfl
        refine one_ (i := 3) (N := some 11) #[true, true, true, true, false, false, false, true, false] rfl rfl (by kernel_rfl) (by decide) (fun K hK => ?_)
        refine value_ (w1 := ?_) (v := ?_) (by rfl) rfl ?_ ?_
        rotate_left 2
        · go_simp
          constructor
          · rfl
          · rfl
        refine at_world (fun e3 he => ?_)
        have nD : e3.heap[e2.heap.size]? = some (.cells #[.int .i64 1, .int .i64 0, .int .i64 0, .slice none 0 0, .slice (some ⟨w.heap.size, 0, none⟩) 1 1] 25 (0, 0)) := by rw [he]; exact heap_alloc_new _ _
        have hbE : Below e2.heap.size e2 e3 := by rw [he]; exact (Below.refl _ _).alloc (Nat.le_refl _) _
        clear he
        replace D9 := Lib.hid (blk_below D9.out hbE)
        replace Dl := Lib.hid (blk_below Dl.out hbE)
        have D11 := Lib.hid nD
        replace hbR := hbR.trans (hbE.mono hbR.size)
        clear nD hbE
        refine hK.out _ _ ⟨(hbR.cell (p := ⟨w.heap.size + 1, 0, none⟩) l_BSd).trans qd_0, (hbR.cell (p := ⟨w.heap.size + 1, 1, none⟩) l_BSd).trans qd_1, (hbR.cell (p := ⟨w.heap.size + 1, 2, none⟩) l_BSd).trans qd_2, (hbR.cell (p := ⟨w.heap.size + 1, 3, none⟩) l_BSd).trans qd_3, (hbR.cell (p := ⟨w.heap.size + 1, 4, none⟩) l_BSd).trans qd_4⟩ (fun hHeld => ?_)
        clear hK K
        refine norm_ (a' := ?_) ?_ ?_
        rotate_left
        · show Act.put _ (some 11) _ = _
          simp only [Act.put, List.setIfInBounds_toArray, List.set_cons_zero, List.set_cons_succ, i64_w, i32_w]
          rfl
        refine pure_ (i := 4) (N := some 12) (v := ?_) (a' := ?_) #[true, true, true, true, true, false, false, true, false] rfl rfl (by kernel_rfl) (fun _ _ _ h => h) (Or.inl ⟨by rfl, ?_⟩) ?_ ?_
        rotate_left
        · intro w'
          go_simp
          with_reducible rfl
        rotate_left
        · simp only [Act.put, List.setIfInBounds_toArray, List.set_cons_zero, List.set_cons_succ, i64_w, i32_w]
          rfl
        refine one_ (i := 5) (N := some 13) #[true, true, true, true, true, true, false, true, false] rfl rfl (by kernel_rfl) (by decide) (fun K hK => ?_)
        refine value_ (w1 := ?_) (v := ?_) (by rfl) rfl ?_ ?_
        rotate_left 2
        · go_simp
          constructor
          · rfl
          · rfl
        refine at_world (fun e4 he => ?_)
        have nD : e4.heap[e3.heap.size]? = some (.cells #[.int .i64 1, .int .i64 0, .int .i64 0, .slice none 0 0, .slice none 0 0, .int .i64 1, .int .i64 0, .int .i64 0, .slice (some ⟨wd.heap.size, 0, none⟩) 8 8, .slice (some ⟨e2.heap.size, 0, none⟩) 1 1] 25 (0, 0)) := by rw [he]; exact heap_alloc_new _ _
        have hbE : Below e3.heap.size e3 e4 := by rw [he]; exact (Below.refl _ _).alloc (Nat.le_refl _) _
        clear he
        replace D9 := Lib.hid (blk_below D9.out hbE)
        replace Dl := Lib.hid (blk_below Dl.out hbE)
        replace D11 := Lib.hid (blk_below D11.out hbE)
        have D13 := Lib.hid nD
        replace hbR := hbR.trans (hbE.mono hbR.size)
        clear nD hbE
        refine hK.out _ _ ⟨(hbR.cell (p := ⟨w.heap.size + 1, 0, none⟩) l_BSd).trans qd_0, (hbR.cell (p := ⟨w.heap.size + 1, 1, none⟩) l_BSd).trans qd_1, (hbR.cell (p := ⟨w.heap.size + 1, 2, none⟩) l_BSd).trans qd_2, (hbR.cell (p := ⟨w.heap.size + 1, 3, none⟩) l_BSd).trans qd_3, (hbR.cell (p := ⟨w.heap.size + 1, 4, none⟩) l_BSd).trans qd_4⟩ (fun hHeld => ?_)
        clear hK K
        refine norm_ (a' := ?_) ?_ ?_
        rotate_left
        · show Act.put _ (some 13) _ = _
          simp only [Act.put, List.setIfInBounds_toArray, List.set_cons_zero, List.set_cons_succ, i64_w, i32_w]
          rfl
        refine pure_ (i := 6) (N := some 14) (v := ?_) (a' := ?_) #[true, true, true, true, true, true, true, true, false] rfl rfl (by kernel_rfl) (fun _ _ _ h => h) (Or.inl ⟨by rfl, ?_⟩) ?_ ?_
        rotate_left
        · intro w'
          go_simp
          with_reducible rfl
        rotate_left
        · simp only [Act.put, List.setIfInBounds_toArray, List.set_cons_zero, List.set_cons_succ, i64_w, i32_w]
          rfl
        exact norm_ (by simp only [putAll, Act.put, List.setIfInBounds_toArray, List.set_cons_zero, List.set_cons_succ]) (hCont (wd.heap.size, e2.heap.size, e3.heap.size, e1.heap.size) _ ⟨⟨(hbR.cell (p := ⟨w.heap.size + 1, 0, none⟩) l_BSd).trans qd_0, (hbR.cell (p := ⟨w.heap.size + 1, 1, none⟩) l_BSd).trans qd_1, (hbR.cell (p := ⟨w.heap.size + 1, 2, none⟩) l_BSd).trans qd_2, (hbR.cell (p := ⟨w.heap.size + 1, 3, none⟩) l_BSd).trans qd_3, (hbR.cell (p := ⟨w.heap.size + 1, 4, none⟩) l_BSd).trans qd_4⟩, hbR, hgl, D9, D11, D13, Dl⟩)
    · skip
      refine value_ (w1 := ?_) (v := ?_) (by rfl) rfl ?_ ?_
      rotate_left 2
      · go_simp
        constructor
        · rfl
        · rfl
      refine at_world (fun e1 he => ?_)
      have nD : e1.heap[wd.heap.size]? = some (.cells #[.int .i64 1, .int .i64 0, .int .i64 0, .slice none 0 0, .slice (some ⟨w.heap.size, 0, none⟩) 1 1] 25 (0, 0)) := by rw [he]; exact heap_alloc_new _ _
      have hbE : Below wd.heap.size wd e1 := by rw [he]; exact (Below.refl _ _).alloc (Nat.le_refl _) _
      clear he
      have D11 := Lib.hid nD
      replace hbR := hbR.trans (hbE.mono hbR.size)
      clear nD hbE
      refine hK.out _ _ ⟨(hbR.cell (p := ⟨w.heap.size + 1, 0, none⟩) l_BSd).trans qd_0, (hbR.cell (p := ⟨w.heap.size + 1, 1, none⟩) l_BSd).trans qd_1, (hbR.cell (p := ⟨w.heap.size + 1, 2, none⟩) l_BSd).trans qd_2, (hbR.cell (p := ⟨w.heap.size + 1, 3, none⟩) l_BSd).trans qd_3, (hbR.cell (p := ⟨w.heap.size + 1, 4, none⟩) l_BSd).trans qd_4⟩ (fun hHeld => ?_)
      clear hK K
      refine norm_ (a' := ?_) ?_ ?_
      rotate_left
      · show Act.put _ (some 11) _ = _
        simp only [Act.put, List.setIfInBounds_toArray, List.set_cons_zero, List.set_cons_succ, i64_w, i32_w]
        rfl
      refine two_ (i := 1) (j := 7) (Ni := some 9) (Nj := some 2) #[true, true, true, true, false, false, false, false, false] #[true, false, true, true, false, false, false, true, false] rfl rfl rfl rfl (by kernel_rfl) (by decide) (by decide) (fun K hK => ?_) (fun K hK => ?_)
      · skip
        refine value_ (w1 := ?_) (v := ?_) (by rfl) rfl ?_ ?_
        rotate_left 2
        · go_simp
          constructor
          · rfl
          · rfl
        refine at_world (fun e2 he => ?_)
        have nD : e2.heap[e1.heap.size]? = some (.cells #[(.int .u8 0), (.int .u8 0), (.int .u8 0), (.int .u8 0), (.int .u8 0), (.int .u8 0), (.int .u8 0), (.int .u8 0)] 5 (0, 0)) := by rw [he]; exact heap_alloc_new _ _
        have hbE : Below e1.heap.size e1 e2 := by rw [he]; exact (Below.refl _ _).alloc (Nat.le_refl _) _
        clear he
        replace D11 := Lib.hid (blk_below D11.out hbE)
        have D9 := Lib.hid nD
        replace hbR := hbR.trans (hbE.mono hbR.size)
        clear nD hbE
        refine hK.out _ _ ⟨(hbR.cell (p := ⟨w.heap.size + 1, 0, none⟩) l_BSd).trans qd_0, (hbR.cell (p := ⟨w.heap.size + 1, 1, none⟩) l_BSd).trans qd_1, (hbR.cell (p := ⟨w.heap.size + 1, 2, none⟩) l_BSd).trans qd_2, (hbR.cell (p := ⟨w.heap.size + 1, 3, none⟩) l_BSd).trans qd_3, (hbR.cell (p := ⟨w.heap.size + 1, 4, none⟩) l_BSd).trans qd_4⟩ (fun hHeld => ?_)
        clear hK K
        refine norm_ (a' := ?_) ?_ ?_
        rotate_left
        · show Act.put _ (some 9) _ = _
          simp only [Act.put, List.setIfInBounds_toArray, List.set_cons_zero, List.set_cons_succ, i64_w, i32_w]
          rfl
        refine pure_ (i := 4) (N := some 12) (v := ?_) (a' := ?_) #[true, true, true, true, true, false, false, false, false] rfl rfl (by kernel_rfl) (fun _ _ _ h => h) (Or.inl ⟨by rfl, ?_⟩) ?_ ?_
        rotate_left
        · intro w'
          go_simp
          with_reducible rfl
        rotate_left
        · simp only [Act.put, List.setIfInBounds_toArray, List.set_cons_zero, List.set_cons_succ, i64_w, i32_w]
          rfl
        refine two_ (i := 5) (j := 7) (Ni := some 13) (Nj := some 2) #[true, true, true, true, true, true, false, false, false] #[true, true, true, true, true, false, false, true, false] rfl rfl rfl rfl (by kernel_rfl) (by decide) (by decide) (fun K hK => ?_) (fun K hK => ?_)
        · skip
          refine value_ (w1 := ?_) (v := ?_) (by rfl) rfl ?_ ?_
          rotate_left 2
          · go_simp
            constructor
            · rfl
            · rfl
          refine at_world (fun e3 he => ?_)
          have nD : e3.heap[e2.heap.size]? = some (.cells #[.int .i64 1, .int .i64 0, .int .i64 0, .slice none 0 0, .slice none 0 0, .int .i64 1, .int .i64 0, .int .i64 0, .slice (some ⟨e1.heap.size, 0, none⟩) 8 8, .slice (some ⟨wd.heap.size, 0, none⟩) 1 1] 25 (0, 0)) := by rw [he]; exact heap_alloc_new _ _
          have hbE : Below e2.heap.size e2 e3 := by rw [he]; exact (Below.refl _ _).alloc (Nat.le_refl _) _
          clear he
          replace D11 := Lib.hid (blk_below D11.out hbE)
          replace D9 := Lib.hid (blk_below D9.out hbE)
          have D13 := Lib.hid nD
          replace hbR := hbR.trans (hbE.mono hbR.size)
          clear nD hbE
          refine hK.out _ _ ⟨(hbR.cell (p := ⟨w.heap.size + 1, 0, none⟩) l_BSd).trans qd_0, (hbR.cell (p := ⟨w.heap.size + 1, 1, none⟩) l_BSd).trans qd_1, (hbR.cell (p := ⟨w.heap.size + 1, 2, none⟩) l_BSd).trans qd_2, (hbR.cell (p := ⟨w.heap.size + 1, 3, none⟩) l_BSd).trans qd_3, (hbR.cell (p := ⟨w.heap.size + 1, 4, none⟩) l_BSd).trans qd_4⟩ (fun hHeld => ?_)
          clear hK K
          refine norm_ (a' := ?_) ?_ ?_
          rotate_left
          · show Act.put _ (some 13) _ = _
            simp only [Act.put, List.setIfInBounds_toArray, List.set_cons_zero, List.set_cons_succ, i64_w, i32_w]
            rfl
          refine pure_ (i := 6) (N := some 14) (v := ?_) (a' := ?_) #[true, true, true, true, true, true, true, false, false] rfl rfl (by kernel_rfl) (fun _ _ _ h => h) (Or.inl ⟨by rfl, ?_⟩) ?_ ?_
          rotate_left
          · intro w'
            go_simp
            with_reducible rfl
          rotate_left
          · simp only [Act.put, List.setIfInBounds_toArray, List.set_cons_zero, List.set_cons_succ, i64_w, i32_w]
            rfl
          refine one_ (i := 7) (N := some 2) #[true, true, true, true, true, true, true, true, false] rfl rfl (by kernel_rfl) (by decide) (fun K hK => ?_)
          refine value_ (w1 := ?_) (v := ?_) (by rfl) rfl ?_ ?_
          rotate_left 2
          · go_simp
            constructor
            · rfl
            · rfl
          refine at_world (fun e4 he => ?_)
          have nD : e4.heap[e3.heap.size]? = some (.cells #[.int .i64 0, .int .i64 0, .int .i64 0, .slice none 0 0, .slice none 0 0] 25 (0, 0)) := by rw [he]; exact heap_alloc_new _ _
          have hbE : Below e3.heap.size e3 e4 := by rw [he]; exact (Below.refl _ _).alloc (Nat.le_refl _) _
          clear he
          have hgl : wd.heap.size ≤ e3.heap.size := hbR.size
          replace D11 := Lib.hid (blk_below D11.out hbE)
          replace D9 := Lib.hid (blk_below D9.out hbE)
          replace D13 := Lib.hid (blk_below D13.out hbE)
          have Dl := Lib.hid nD
          replace hbR := hbR.trans (hbE.mono hbR.size)
          clear nD hbE
          refine hK.out _ _ ⟨(hbR.cell (p := ⟨w.heap.size + 1, 0, none⟩) l_BSd).trans qd_0, (hbR.cell (p := ⟨w.heap.size + 1, 1, none⟩) l_BSd).trans qd_1, (hbR.cell (p := ⟨w.heap.size + 1, 2, none⟩) l_BSd).trans qd_2, (hbR.cell (p := ⟨w.heap.size + 1, 3, none⟩) l_BSd).trans qd_3, (hbR.cell (p := ⟨w.heap.size + 1, 4, none⟩) l_BSd).trans qd_4⟩ (fun hHeld => ?_)
          clear hK K
          refine norm_ (a' := ?_) ?_ ?_
          rotate_left
          · show Act.put _ (some 2) _ = _
            simp only [Act.put, List.setIfInBounds_toArray, List.set_cons_zero, List.set_cons_succ, i64_w, i32_w]
            rfl
          exact norm_ (by simp only [putAll, Act.put, List.setIfInBounds_toArray, List.set_cons_zero, List.set_cons_succ]) (hCont (e1.heap.size, wd.heap.size, e2.heap.size, e3.heap.size) _ ⟨⟨(hbR.cell (p := ⟨w.heap.size + 1, 0, none⟩) l_BSd).trans qd_0, (hbR.cell (p := ⟨w.heap.size + 1, 1, none⟩) l_BSd).trans qd_1, (hbR.cell (p := ⟨w.heap.size + 1, 2, none⟩) l_BSd).trans qd_2, (hbR.cell (p := ⟨w.heap.size + 1, 3, none⟩) l_BSd).trans qd_3, (hbR.cell (p := ⟨w.heap.size + 1, 4, none⟩) l_BSd).trans qd_4⟩, hbR, hgl, D9, D11, D13, Dl⟩)
        · skip
          refine value_ (w1 := ?_) (v := ?_) (by rfl) rfl ?_ ?_
          rotate_left 2
          · go_simp
            constructor
            · rfl
            · rfl
          refine at_world (fun e3 he => ?_)
          have nD : e3.heap[e2.heap.size]? = some (.cells #[.int .i64 0, .int .i64 0, .int .i64 0, .slice none 0 0, .slice none 0 0] 25 (0, 0)) := by rw [he]; exact heap_alloc_new _ _
          have hbE : Below e2.heap.size e2 e3 := by rw [he]; exact (Below.refl _ _).alloc (Nat.le_refl _) _
          clear he
          have hgl : wd.heap.size ≤ e2.heap.size := hbR.size
          replace D11 := Lib.hid (blk_below D11.out hbE)
          replace D9 := Lib.hid (blk_below D9.out hbE)
          have Dl := Lib.hid nD
          replace hbR := hbR.trans (hbE.mono hbR.size)
          clear nD hbE
          refine hK.out _ _ ⟨(hbR.cell (p := ⟨w.heap.size + 1, 0, none⟩) l_BSd).trans qd_0, (hbR.cell (p := ⟨w.heap.size + 1, 1, none⟩) l_BSd).trans qd_1, (hbR.cell (p := ⟨w.heap.size + 1, 2, none⟩) l_BSd).trans qd_2, (hbR.cell (p := ⟨w.heap.size + 1, 3, none⟩) l_BSd).trans qd_3, (hbR.cell (p := ⟨w.heap.size + 1, 4, none⟩) l_BSd).trans qd_4⟩ (fun hHeld => ?_)
          clear hK K
          refine norm_ (a' := ?_) ?_ ?_
          rotate_left
          · show Act.put _ (some 2) _ = _
            simp only [Act.put, List.setIfInBounds_toArray, List.set_cons_zero, List.set_cons_succ, i64_w, i32_w]
            rfl
          refine one_ (i := 5) (N := some 13) #[true, true, true, true, true, true, false, true, false] rfl rfl (by kernel_rfl) (by decide) (fun K hK => ?_)
          refine value_ (w1 := ?_) (v := ?_) (by rfl) rfl ?_ ?_
          rotate_left 2
          · go_simp
            constructor
            · rfl
            · rfl
          refine at_world (fun e4 he => ?_)
          have nD : e4.heap[e3.heap.size]? = some (.cells #[.int .i64 1, .int .i64 0, .int .i64 0, .slice none 0 0, .slice none 0 0, .int .i64 1, .int .i64 0, .int .i64 0, .slice (some ⟨e1.heap.size, 0, none⟩) 8 8, .slice (some ⟨wd.heap.size, 0, none⟩) 1 1] 25 (0, 0)) := by rw [he]; exact heap_alloc_new _ _
          have hbE : Below e3.heap.size e3 e4 := by rw [he]; exact (Below.refl _ _).alloc (Nat.le_refl _) _
          clear he
          replace D11 := Lib.hid (blk_below D11.out hbE)
          replace D9 := Lib.hid (blk_below D9.out hbE)
          replace Dl := Lib.hid (blk_below Dl.out hbE)
          have D13 := Lib.hid nD
          replace hbR := hbR.trans (hbE.mono hbR.size)
          clear nD hbE
          refine hK.out _ _ ⟨(hbR.cell (p := ⟨w.heap.size + 1, 0, none⟩) l_BSd).trans qd_0, (hbR.cell (p := ⟨w.heap.size + 1, 1, none⟩) l_BSd).trans qd_1, (hbR.cell (p := ⟨w.heap.size + 1, 2, none⟩) l_BSd).trans qd_2, (hbR.cell (p := ⟨w.heap.size + 1, 3, none⟩) l_BSd).trans qd_3, (hbR.cell (p := ⟨w.heap.size + 1, 4, none⟩) l_BSd).trans qd_4⟩ (fun hHeld => ?_)
          clear hK K
          refine norm_ (a' := ?_) ?_ ?_
          rotate_left
          · show Act.put _ (some 13) _ = _
            simp only [Act.put, List.setIfInBounds_toArray, List.set_cons_zero, List.set_cons_succ, i64_w, i32_w]
            rfl
          refine pure_ (i := 6) (N := some 14) (v := ?_) (a' := ?_) #[true, true, true, true, true, true, true, true, false] rfl rfl (by kernel_rfl) (fun _ _ _ h => h) (Or.inl ⟨by rfl, ?_⟩) ?_ ?_
          rotate_left
          · intro w'
            go_simp
            with_reducible rfl
          rotate_left
          · simp only [Act.put, List.setIfInBounds_toArray, List.set_cons_zero, List.set_cons_succ, i64_w, i32_w]
            rfl
          exact norm_ (by simp only [putAll, Act.put, List.setIfInBounds_toArray, List.set_cons_zero, List.set_cons_succ]) (hCont (e1.heap.size, wd.heap.size, e3.heap.size, e2.heap.size) _ ⟨⟨(hbR.cell (p := ⟨w.heap.size + 1, 0, none⟩) l_BSd).trans qd_0, (hbR.cell (p := ⟨w.heap.size + 1, 1, none⟩) l_BSd).trans qd_1, (hbR.cell (p := ⟨w.heap.size + 1, 2, none⟩) l_BSd).trans qd_2, (hbR.cell (p := ⟨w.heap.size + 1, 3, none⟩) l_BSd).trans qd_3, (hbR.cell (p := ⟨w.heap.size + 1, 4, none⟩) l_BSd).trans qd_4⟩, hbR, hgl, D9, D11, D13, Dl⟩)
      · skip
        refine value_ (w1 := ?_) (v := ?_) (by rfl) rfl ?_ ?_
        rotate_left 2
        · go_simp
          constructor
          · rfl
          · rfl
        refine at_world (fun e2 he => ?_)
        have nD : e2.heap[e1.heap.size]? = some (.cells #[.int .i64 0, .int .i64 0, .int .i64 0, .slice none 0 0, .slice none 0 0] 25 (0, 0)) := by rw [he]; exact heap_alloc_new _ _
        have hbE : Below e1.heap.size e1 e2 := by rw [he]; exact (Below.refl _ _).alloc (Nat.le_refl _) _
        clear he
        have hgl : wd.heap.size ≤ e1.heap.size := hbR.size
        replace D11 := Lib.hid (blk_below D11.out hbE)
        have Dl := Lib.hid nD
        replace hbR := hbR.trans (hbE.mono hbR.size)
        clear nD hbE
        refine hK.out _ _ ⟨(hbR.cell (p := ⟨w.heap.size + 1, 0, none⟩) l_BSd).trans qd_0, (hbR.cell (p := ⟨w.heap.size + 1, 1, none⟩) l_BSd).trans qd_1, (hbR.cell (p := ⟨w.heap.size + 1, 2, none⟩) l_BSd).trans qd_2, (hbR.cell (p := ⟨w.heap.size + 1, 3, none⟩) l_BSd).trans qd_3, (hbR.cell (p := ⟨w.heap.size + 1, 4, none⟩) l_BSd).trans qd_4⟩ (fun hHeld => ?_)
        clear hK K
        refine norm_ (a' := ?_) ?_ ?_
        rotate_left
        · show Act.put _ (some 2) _ = _
          simp only [Act.put, List.setIfInBounds_toArray, List.set_cons_zero, List.set_cons_succ, i64_w, i32_w]
          rfl
        refine one_ (i := 1) (N := some 9) #[true, true, true, true, false, false, false, true, false] rfl rfl (by kernel_rfl) (by decide) (fun K hK => ?_)
        refine value_ (w1 := ?_) (v := ?_) (by rfl) rfl ?_ ?_
        rotate_left 2
        · go_simp
          constructor
          · rfl
          · rfl
        refine at_world (fun e3 he => ?_)
        have nD : e3.heap[e2.heap.size]? = some (.cells #[(.int .u8 0), (.int .u8 0), (.int .u8 0), (.int .u8 0), (.int .u8 0), (.int .u8 0), (.int .u8 0), (.int .u8 0)] 5 (0, 0)) := by rw [he]; exact heap_alloc_new _ _
        have hbE : Below e2.heap.size e2 e3 := by rw [he]; exact (Below.refl _ _).alloc (Nat.le_refl _) _
        clear he
        replace D11 := Lib.hid (blk_below D11.out hbE)
        replace Dl := Lib.hid (blk_below Dl.out hbE)
        have D9 := Lib.hid nD
        replace hbR := hbR.trans (hbE.mono hbR.size)
        clear nD hbE
        refine hK.out _ _ ⟨(hbR.cell (p := ⟨w.heap.size + 1, 0, none⟩) l_BSd).trans qd_0, (hbR.cell (p := ⟨w.heap.size + 1, 1, none⟩) l_BSd).trans qd_1, (hbR.cell (p := ⟨w.heap.size + 1, 2, none⟩) l_BSd).trans qd_2, (hbR.cell (p := ⟨w.heap.size + 1, 3, none⟩) l_BSd).trans qd_3, (hbR.cell (p := ⟨w.heap.size + 1, 4, none⟩) l_BSd).trans qd_4⟩ (fun hHeld => ?_)
        clear hK K
        refine norm_ (a' := ?_) ?_ ?_
        rotate_left
        · show Act.put _ (some 9) _ = _
          simp only [Act.put, List.setIfInBounds_toArray, List.set_cons_zero, List.set_cons_succ, i64_w, i32_w]
          rfl
        refine pure_ (i := 4) (N := some 12) (v := ?_) (a' := ?_) #[true, true, true, true, true, false, false, true, false] rfl rfl (by kernel_rfl) (fun _ _ _ h => h) (Or.inl ⟨by rfl, ?_⟩) ?_ ?_
        rotate_left
        · intro w'
          go_simp
          with_reducible rfl
        rotate_left
        · simp only [Act.put, List.setIfInBounds_toArray, List.set_cons_zero, List.set_cons_succ, i64_w, i32_w]
          rfl
        refine one_ (i := 5) (N := some 13) #[true, true, true, true, true, true, false, true, false] rfl rfl (by kernel_rfl) (by decide) (fun K hK => ?_)
        refine value_ (w1 := ?_) (v := ?_) (by rfl) rfl ?_ ?_
        rotate_left 2
        · go_simp
          constructor
          · rfl
          · rfl
        refine at_world (fun e4 he => ?_)
        have nD : e4.heap[e3.heap.size]? = some (.cells #[.int .i64 1, .int .i64 0, .int .i64 0, .slice none 0 0, .slice none 0 0, .int .i64 1, .int .i64 0, .int .i64 0, .slice (some ⟨e2.heap.size, 0, none⟩) 8 8, .slice (some ⟨wd.heap.size, 0, none⟩) 1 1] 25 (0, 0)) := by rw [he]; exact heap_alloc_new _ _
        have hbE : Below e3.heap.size e3 e4 := by rw [he]; exact (Below.refl _ _).alloc (Nat.le_refl _) _
        clear he
        replace D11 := Lib.hid (blk_below D11.out hbE)
        replace Dl := Lib.hid (blk_below Dl.out hbE)
        replace D9 := Lib.hid (blk_below D9.out hbE)
        have D13 := Lib.hid nD
        replace hbR := hbR.trans (hbE.mono hbR.size)
        clear nD hbE
        refine hK.out _ _ ⟨(hbR.cell (p := ⟨w.heap.size + 1, 0, none⟩) l_BSd).trans qd_0, (hbR.cell (p := ⟨w.heap.size + 1, 1, none⟩) l_BSd).trans qd_1, (hbR.cell (p := ⟨w.heap.size + 1, 2, none⟩) l_BSd).trans qd_2, (hbR.cell (p := ⟨w.heap.size + 1, 3, none⟩) l_BSd).trans qd_3, (hbR.cell (p := ⟨w.heap.size + 1, 4, none⟩) l_BSd).trans qd_4⟩ (fun hHeld => ?_)
        clear hK K
        refine norm_ (a' := ?_) ?_ ?_
        rotate_left
        · show Act.put _ (some 13) _ = _
          simp only [Act.put, List.setIfInBounds_toArray, List.set_cons_zero, List.set_cons_succ, i64_w, i32_w]
          rfl
        refine pure_ (i := 6) (N := some 14) (v := ?_) (a' := ?_) #[true, true, true, true, true, true, true, true, false] rfl rfl (by kernel_rfl) (fun _ _ _ h => h) (Or.inl ⟨by rfl, ?_⟩) ?_ ?_
        rotate_left
        · intro w'
          go_simp
          with_reducible rfl
        rotate_left
        · simp only [Act.put, List.setIfInBounds_toArray, List.set_cons_zero, List.set_cons_succ, i64_w, i32_w]
          rfl
        exact norm_ (by simp only [putAll, Act.put, List.setIfInBounds_toArray, List.set_cons_zero, List.set_cons_succ]) (hCont (e2.heap.size, wd.heap.size, e3.heap.size, e1.heap.size) _ ⟨⟨(hbR.cell (p := ⟨w.heap.size + 1, 0, none⟩) l_BSd).trans qd_0, (hbR.cell (p := ⟨w.heap.size + 1, 1, none⟩) l_BSd).trans qd_1, (hbR.cell (p := ⟨w.heap.size + 1, 2, none⟩) l_BSd).trans qd_2, (hbR.cell (p := ⟨w.heap.size + 1, 3, none⟩) l_BSd).trans qd_3, (hbR.cell (p := ⟨w.heap.size + 1, 4, none⟩) l_BSd).trans qd_4⟩, hbR, hgl, D9, D11, D13, Dl⟩)
    · skip
      refine value_ (w1 := ?_) (v := ?_) (by rfl) rfl ?_ ?_
      rotate_left 2
      · go_simp
        constructor
        · rfl
        · rfl
      refine at_world (fun e1 he => ?_)
      have nD : e1.heap[wd.heap.size]? = some (.cells #[.int .i64 0, .int .i64 0, .int .i64 0, .slice none 0 0, .slice none 0 0] 25 (0, 0)) := by rw [he]; exact heap_alloc_new _ _
      have hbE : Below wd.heap.size wd e1 := by rw [he]; exact (Below.refl _ _).alloc (Nat.le_refl _) _
      clear he
      have hgl : wd.heap.size ≤ wd.heap.size := hbR.size
      have Dl := Lib.hid nD
      replace hbR := hbR.trans (hbE.mono hbR.size)
      clear nD hbE
      refine hK.out _ _ ⟨(hbR.cell (p := ⟨w.heap.size + 1, 0, none⟩) l_BSd).trans qd_0, (hbR.cell (p := ⟨w.heap.size + 1, 1, none⟩) l_BSd).trans qd_1, (hbR.cell (p := ⟨w.heap.size + 1, 2, none⟩) l_BSd).trans qd_2, (hbR.cell (p := ⟨w.heap.size + 1, 3, none⟩) l_BSd).trans qd_3, (hbR.cell (p := ⟨w.heap.size + 1, 4, none⟩) l_BSd).trans qd_4⟩ (fun hHeld => ?_)
      clear hK K
      refine norm_ (a' := ?_) ?_ ?_
      rotate_left
      · show Act.put _ (some 2) _ = _
        simp only [Act.put, List.setIfInBounds_toArray, List.set_cons_zero, List.set_cons_succ, i64_w, i32_w]
        rfl
      refine two_ (i := 1) (j := 3) (Ni := some 9) (Nj := some 11) #[true, true, true, false, false, false, false, true, false] #[true, false, true, true, false, false, false, true, false] rfl rfl rfl rfl (by kernel_rfl) (by decide) (by decide) (fun K hK => ?_) (fun K hK => ?_)
      · skip
        refine value_ (w1 := ?_) (v := ?_) (by rfl) rfl ?_ ?_
        rotate_left 2
        · go_simp
          constructor
          · rfl
          · rfl
        refine at_world (fun e2 he => ?_)
        have nD : e2.heap[e1.heap.size]? = some (.cells #[(.int .u8 0), (.int .u8 0), (.int .u8 0), (.int .u8 0), (.int .u8 0), (.int .u8 0), (.int .u8 0), (.int .u8 0)] 5 (0, 0)) := by rw [he]; exact heap_alloc_new _ _
        have hbE : Below e1.heap.size e1 e2 := by rw [he]; exact (Below.refl _ _).alloc (Nat.le_refl _) _
        clear he
        replace Dl := Lib.hid (blk_below Dl.out hbE)
        have D9 := Lib.hid nD
        replace hbR := hbR.trans (hbE.mono hbR.size)
        clear nD hbE
        refine hK.out _ _ ⟨(hbR.cell (p := ⟨w.heap.size + 1, 0, none⟩) l_BSd).trans qd_0, (hbR.cell (p := ⟨w.heap.size + 1, 1, none⟩) l_BSd).trans qd_1, (hbR.cell (p := ⟨w.heap.size + 1, 2, none⟩) l_BSd).trans qd_2, (hbR.cell (p := ⟨w.heap.size + 1, 3, none⟩) l_BSd).trans qd_3, (hbR.cell (p := ⟨w.heap.size + 1, 4, none⟩) l_BSd).trans qd_4⟩ (fun hHeld => ?_)
        clear hK K
        refine norm_ (a' := ?_) ?_ ?_
        rotate_left
        · show Act.put _ (some 9) _ = _
          simp only [Act.put, List.setIfInBounds_toArray, List.set_cons_zero, List.set_cons_succ, i64_w, i32_w]
          rfl
        refine one_ (i := 3) (N := some 11) #[true, true, true, true, false, false, false, true, false] rfl rfl (by kernel_rfl) (by decide) (fun K hK => ?_)
        refine value_ (w1 := ?_) (v := ?_) (by rfl) rfl ?_ ?_
        rotate_left 2
        · go_simp
          constructor
          · rfl
          · rfl
        refine at_world (fun e3 he => ?_)
        have nD : e3.heap[e2.heap.size]? = some (.cells #[.int .i64 1, .int .i64 0, .int .i64 0, .slice none 0 0, .slice (some ⟨w.heap.size, 0, none⟩) 1 1] 25 (0, 0)) := by rw [he]; exact heap_alloc_new _ _
        have hbE : Below e2.heap.size e2 e3 := by rw [he]; exact (Below.refl _ _).alloc (Nat.le_refl _) _
        clear he
        replace Dl := Lib.hid (blk_below Dl.out hbE)
        replace D9 := Lib.hid (blk_below D9.out hbE)
        have D11 := Lib.hid nD
        replace hbR := hbR.trans (hbE.mono hbR.size)
        clear nD hbE
        refine hK.out _ _ ⟨(hbR.cell (p := ⟨w.heap.size + 1, 0, none⟩) l_BSd).trans qd_0, (hbR.cell (p := ⟨w.heap.size + 1, 1, none⟩) l_BSd).trans qd_1, (hbR.cell (p := ⟨w.heap.size + 1, 2, none⟩) l_BSd).trans qd_2, (hbR.cell (p := ⟨w.heap.size + 1, 3, none⟩) l_BSd).trans qd_3, (hbR.cell (p := ⟨w.heap.size + 1, 4, none⟩) l_BSd).trans qd_4⟩ (fun hHeld => ?_)
        clear hK K
        refine norm_ (a' := ?_) ?_ ?_
        rotate_left
        · show Act.put _ (some 11) _ = _
          simp only [Act.put, List.setIfInBounds_toArray, List.set_cons_zero, List.set_cons_succ, i64_w, i32_w]
          rfl
        refine pure_ (i := 4) (N := some 12) (v := ?_) (a' := ?_) #[true, true, true, true, true, false, false, true, false] rfl rfl (by kernel_rfl) (fun _ _ _ h => h) (Or.inl ⟨by rfl, ?_⟩) ?_ ?_
        rotate_left
        · intro w'
          go_simp
          with_reducible rfl
        rotate_left
        · simp only [Act.put, List.setIfInBounds_toArray, List.set_cons_zero, List.set_cons_succ, i64_w, i32_w]
          rfl
        refine one_ (i := 5) (N := some 13) #[true, true, true, true, true, true, false, true, false] rfl rfl (by kernel_rfl) (by decide) (fun K hK => ?_)
        refine value_ (w1 := ?_) (v := ?_) (by rfl) rfl ?_ ?_
        rotate_left 2
        · go_simp
          constructor
          · rfl
          · rfl
        refine at_world (fun e4 he => ?_)
        have nD : e4.heap[e3.heap.size]? = some (.cells #[.int .i64 1, .int .i64 0, .int .i64 0, .slice none 0 0, .slice none 0 0, .int .i64 1, .int .i64 0, .int .i64 0, .slice (some ⟨e1.heap.size, 0, none⟩) 8 8, .slice (some ⟨e2.heap.size, 0, none⟩) 1 1] 25 (0, 0)) := by rw [he]; exact heap_alloc_new _ _
        have hbE : Below e3.heap.size e3 e4 := by rw [he]; exact (Below.refl _ _).alloc (Nat.le_refl _) _
        clear he
        replace Dl := Lib.hid (blk_below Dl.out hbE)
        replace D9 := Lib.hid (blk_below D9.out hbE)
        replace D11 := Lib.hid (blk_below D11.out hbE)
        have D13 := Lib.hid nD
        replace hbR := hbR.trans (hbE.mono hbR.size)
        clear nD hbE
        refine hK.out _ _ ⟨(hbR.cell (p := ⟨w.heap.size + 1, 0, none⟩) l_BSd).trans qd_0, (hbR.cell (p := ⟨w.heap.size + 1, 1, none⟩) l_BSd).trans qd_1, (hbR.cell (p := ⟨w.heap.size + 1, 2, none⟩) l_BSd).trans qd_2, (hbR.cell (p := ⟨w.heap.size + 1, 3, none⟩) l_BSd).trans qd_3, (hbR.cell (p := ⟨w.heap.size + 1, 4, none⟩) l_BSd).trans qd_4⟩ (fun hHeld => ?_)
        clear hK K
        refine norm_ (a' := ?_) ?_ ?_
        rotate_left
        · show Act.put _ (some 13) _ = _
          simp only [Act.put, List.setIfInBounds_toArray, List.set_cons_zero, List.set_cons_succ, i64_w, i32_w]
          rfl
        refine pure_ (i := 6) (N := some 14) (v := ?_) (a' := ?_) #[true, true, true, true, true, true, true, true, false] rfl rfl (by kernel_rfl) (fun _ _ _ h => h) (Or.inl ⟨by rfl, ?_⟩) ?_ ?_
        rotate_left
        · intro w'
          go_simp
          with_reducible rfl
        rotate_left
        · simp only [Act.put, List.setIfInBounds_toArray, List.set_cons_zero, List.set_cons_succ, i64_w, i32_w]
          rfl
        exact norm_ (by simp only [putAll, Act.put, List.setIfInBounds_toArray, List.set_cons_zero, List.set_cons_succ]) (hCont (e1.heap.size, e2.heap.size, e3.heap.size, wd.heap.size) _ ⟨⟨(hbR.cell (p := ⟨w.heap.size + 1, 0, none⟩) l_BSd).trans qd_0, (hbR.cell (p := ⟨w.heap.size + 1, 1, none⟩) l_BSd).trans qd_1, (hbR.cell (p := ⟨w.heap.size + 1, 2, none⟩) l_BSd).trans qd_2, (hbR.cell (p := ⟨w.heap.size + 1, 3, none⟩) l_BSd).trans qd_3, (hbR.cell (p := ⟨w.heap.size + 1, 4, none⟩) l_BSd).trans qd_4⟩, hbR, hgl, D9, D11, D13, Dl⟩)
      · skip
        refine value_ (w1 := ?_) (v := ?_) (by rfl) rfl ?_ ?_
        rotate_left 2
        · go_simp
          constructor
          · rfl
          · rfl
        refine at_world (fun e2 he => ?_)
        have nD : e2.heap[e1.heap.size]? = some (.cells #[.int .i64 1, .int .i64 0, .int .i64 0, .slice none 0 0, .slice (some ⟨w.heap.size, 0, none⟩) 1 1] 25 (0, 0)) := by rw [he]; exact heap_alloc_new _ _
        have hbE : Below e1.heap.size e1 e2 := by rw [he]; exact (Below.refl _ _).alloc (Nat.le_refl _) _
        clear he
        replace Dl := Lib.hid (blk_below Dl.out hbE)
        have D11 := Lib.hid nD
        replace hbR := hbR.trans (hbE.mono hbR.size)
        clear nD hbE
        refine hK.out _ _ ⟨(hbR.cell (p := ⟨w.heap.size + 1, 0, none⟩) l_BSd).trans qd_0, (hbR.cell (p := ⟨w.heap.size + 1, 1, none⟩) l_BSd).trans qd_1, (hbR.cell (p := ⟨w.heap.size + 1, 2, none⟩) l_BSd).trans qd_2, (hbR.cell (p := ⟨w.heap.size + 1, 3, none⟩) l_BSd).trans qd_3, (hbR.cell (p := ⟨w.heap.size + 1, 4, none⟩) l_BSd).trans qd_4⟩ (fun hHeld => ?_)
        clear hK K
        refine norm_ (a' := ?_) ?_ ?_
        rotate_left
        · show Act.put _ (some 11) _ = _
          simp only [Act.put, List.setIfInBounds_toArray, List.set_cons_zero, List.set_cons_succ, i64_w, i32_w]
          rfl
        refine one_ (i := 1) (N := some 9) #[true, true, true, true, false, false, false, true, false] rfl rfl (by kernel_rfl) (by decide) (fun K hK => ?_)
        refine value_ (w1 := ?_) (v := ?_) (by rfl) rfl ?_ ?_
        rotate_left 2
        · go_simp
          constructor
          · rfl
          · rfl
        refine at_world (fun e3 he => ?_)
        have nD : e3.heap[e2.heap.size]? = some (.cells #[(.int .u8 0), (.int .u8 0), (.int .u8 0), (.int .u8 0), (.int .u8 0), (.int .u8 0), (.int .u8 0), (.int .u8 0)] 5 (0, 0)) := by rw [he]; exact heap_alloc_new _ _
        have hbE : Below e2.heap.size e2 e3 := by rw [he]; exact (Below.refl _ _).alloc (Nat.le_refl _) _
        clear he
        replace Dl := Lib.hid (blk_below Dl.out hbE)
        replace D11 := Lib.hid (blk_below D11.out hbE)
        have D9 := Lib.hid nD
        replace hbR := hbR.trans (hbE.mono hbR.size)
        clear nD hbE
        refine hK.out _ _ ⟨(hbR.cell (p := ⟨w.heap.size + 1, 0, none⟩) l_BSd).trans qd_0, (hbR.cell (p := ⟨w.heap.size + 1, 1, none⟩) l_BSd).trans qd_1, (hbR.cell (p := ⟨w.heap.size + 1, 2, none⟩) l_BSd).trans qd_2, (hbR.cell (p := ⟨w.heap.size + 1, 3, none⟩) l_BSd).trans qd_3, (hbR.cell (p := ⟨w.heap.size + 1, 4, none⟩) l_BSd).trans qd_4⟩ (fun hHeld => ?_)
        clear hK K
        refine norm_ (a' := ?_) ?_ ?_
        rotate_left
        · show Act.put _ (some 9) _ = _
          simp only [Act.put, List.setIfInBounds_toArray, List.set_cons_zero, List.set_cons_succ, i64_w, i32_w]
          rfl
        refine pure_ (i := 4) (N := some 12) (v := ?_) (a' := ?_) #[true, true, true, true, true, false, false, true, false] rfl rfl (by kernel_rfl) (fun _ _ _ h => h) (Or.inl ⟨by rfl, ?_⟩) ?_ ?_
        rotate_left
        · intro w'
          go_simp
          with_reducible rfl
        rotate_left
        · simp only [Act.put, List.setIfInBounds_toArray, List.set_cons_zero, List.set_cons_succ, i64_w, i32_w]
          rfl
        refine one_ (i := 5) (N := some 13) #[true, true, true, true, true, true, false, true, false] rfl rfl (by kernel_rfl) (by decide) (fun K hK => ?_)
        refine value_ (w1 := ?_) (v := ?_) (by rfl) rfl ?_ ?_
        rotate_left 2
        · go_simp
          constructor
          · rfl
          · rfl
        refine at_world (fun e4 he => ?_)
        have nD : e4.heap[e3.heap.size]? = some (.cells #[.int .i64 1, .int .i64 0, .int .i64 0, .slice none 0 0, .slice none 0 0, .int .i64 1, .int .i64 0, .int .i64 0, .slice (some ⟨e2.heap.size, 0, none⟩) 8 8, .slice (some ⟨e1.heap.size, 0, none⟩) 1 1] 25 (0, 0)) := by rw [he]; exact heap_alloc_new _ _
        have hbE : Below e3.heap.size e3 e4 := by rw [he]; exact (Below.refl _ _).alloc (Nat.le_refl _) _
        clear he
        replace Dl := Lib.hid (blk_below Dl.out hbE)
        replace D11 := Lib.hid (blk_below D11.out hbE)
        replace D9 := Lib.hid (blk_below D9.out hbE)
        have D13 := Lib.hid nD
        replace hbR := hbR.trans (hbE.mono hbR.size)
        clear nD hbE
        refine hK.out _ _ ⟨(hbR.cell (p := ⟨w.heap.size + 1, 0, none⟩) l_BSd).trans qd_0, (hbR.cell (p := ⟨w.heap.size + 1, 1, none⟩) l_BSd).trans qd_1, (hbR.cell (p := ⟨w.heap.size + 1, 2, none⟩) l_BSd).trans qd_2, (hbR.cell (p := ⟨w.heap.size + 1, 3, none⟩) l_BSd).trans qd_3, (hbR.cell (p := ⟨w.heap.size + 1, 4, none⟩) l_BSd).trans qd_4⟩ (fun hHeld => ?_)
        clear hK K
        refine norm_ (a' := ?_) ?_ ?_
        rotate_left
        · show Act.put _ (some 13) _ = _
          simp only [Act.put, List.setIfInBounds_toArray, List.set_cons_zero, List.set_cons_succ, i64_w, i32_w]
          rfl
        refine pure_ (i := 6) (N := some 14) (v := ?_) (a' := ?_) #[true, true, true, true, true, true, true, true, false] rfl rfl (by kernel_rfl) (fun _ _ _ h => h) (Or.inl ⟨by rfl, ?_⟩) ?_ ?_
        rotate_left
        · intro w'
          go_simp
          with_reducible rfl
        rotate_left
        · simp only [Act.put, List.setIfInBounds_toArray, List.set_cons_zero, List.set_cons_succ, i64_w, i32_w]
          rfl
        exact norm_ (by simp only [putAll, Act.put, List.setIfInBounds_toArray, List.set_cons_zero, List.set_cons_succ]) (hCont (e2.heap.size, e1.heap.size, e3.heap.size, wd.heap.size) _ ⟨⟨(hbR.cell (p := ⟨w.heap.size + 1, 0, none⟩) l_BSd).trans qd_0, (hbR.cell (p := ⟨w.heap.size + 1, 1, none⟩) l_BSd).trans qd_1, (hbR.cell (p := ⟨w.heap.size + 1, 2, none⟩) l_BSd).trans qd_2, (hbR.cell (p := ⟨w.heap.size + 1, 3, none⟩) l_BSd).trans qd_3, (hbR.cell (p := ⟨w.heap.size + 1, 4, none⟩) l_BSd).trans qd_4⟩, hbR, hgl, D9, D11, D13, Dl⟩)
  rintro ⟨g9, g11, g13, gl⟩ wj ⟨hS_, hbj, hgl, D9, D11, D13, Dl⟩
  dsimp only at D9 D11 D13 Dl hgl
  have hHeld : wj.cell? ⟨w.heap.size + 1, 0, none⟩ = some (.int .i64 1) ∧ wj.cell? ⟨w.heap.size + 1, 1, none⟩ = some (.int .i64 0) ∧ wj.cell? ⟨w.heap.size + 1, 2, none⟩ = some (.int .i64 0) ∧ wj.cell? ⟨w.heap.size + 1, 3, none⟩ = some (.slice none 0 0) ∧ wj.cell? ⟨w.heap.size + 1, 4, none⟩ = some (.slice (some ⟨w.heap.size, 0, none⟩) 1 1) := hS_
  clear hS_
  refine norm_ (a' := ?_) ?_ ?_
  rotate_left
  · simp only [putAll, Act.put, List.setIfInBounds_toArray, List.set_cons_zero, List.set_cons_succ]
    rfl
  refine last_ (i := 8) (N := none) #[true, true, true, true, true, true, true, true, true] rfl rfl (by kernel_rfl) (by decide) (fun K hK => ?_)
  have z0 : wj.cell? ⟨gl, 0, none⟩ = some (.int .i64 0) := (blk_cell Dl.out 0).trans rfl
  have z1 : wj.cell? ⟨gl, 1, none⟩ = some (.int .i64 0) := (blk_cell Dl.out 1).trans rfl
  have z2 : wj.cell? ⟨gl, 2, none⟩ = some (.int .i64 0) := (blk_cell Dl.out 2).trans rfl
  have z3 : wj.cell? ⟨gl, 3, none⟩ = some (.slice none 0 0) := (blk_cell Dl.out 3).trans rfl
  have z4 : wj.cell? ⟨gl, 4, none⟩ = some (.slice none 0 0) := (blk_cell Dl.out 4).trans rfl
  have y0 := blk_frozen Dl.out 0
  have y1 := blk_frozen Dl.out 1
  have y2 := blk_frozen Dl.out 2
  have y3 := blk_frozen Dl.out 3
  have y4 := blk_frozen Dl.out 4
  have lg := blk_lt Dl.out
  refine skip_ (w1 := ?_) (by rfl) rfl ?_ ?_
  rotate_left
  · go_simp
    rfl
  refine hK.out _ _ ?_
  clear hK K
  refine done_ (by kernel_rfl) ?_
  clear z0 z1 z2 z3 z4 y0 y1 y2 y3 y4 lg hHeld qd_0 qd_1 qd_2 qd_3 qd_4 hbR
  have n9 : g9 ≠ gl := by rintro rfl; have hh := D9.out.symm.trans Dl.out; simp at hh
  have n11 : g11 ≠ gl := by rintro rfl; have hh := D11.out.symm.trans Dl.out; simp at hh
  have n13 : g13 ≠ gl := by rintro rfl; have hh := D13.out.symm.trans Dl.out; simp at hh
  obtain ⟨wf, hwf⟩ : ∃ W, W = (((((wj.setCell ⟨gl, 0, none⟩ (.int .i64 2)).setCell ⟨gl, 1, none⟩ (.int .i64 7)).setCell ⟨gl, 2, none⟩ (.int .i64 2)).setCell ⟨gl, 3, none⟩ (.slice none 0 0)).setCell ⟨gl, 4, none⟩ (.slice (some ⟨g13, 0, none⟩) 2 2)) := ⟨_, rfl⟩
  rw [← hwf]
  have hb : Below wd.heap.size wd wf := by rw [hwf]; exact (((((hbj.setCell (p := ⟨gl, 0, none⟩) hgl _).setCell (p := ⟨gl, 1, none⟩) hgl _).setCell (p := ⟨gl, 2, none⟩) hgl _).setCell (p := ⟨gl, 3, none⟩) hgl _).setCell (p := ⟨gl, 4, none⟩) hgl _)
  have nL : wf.heap[gl]? = some (.cells #[.int .i64 2, .int .i64 7, .int .i64 2, .slice none 0 0, .slice (some ⟨g13, 0, none⟩) 2 2] 25 (0, 0)) := by rw [hwf]; exact (blk_put (blk_put (blk_put (blk_put (blk_put Dl.out 0 _ rfl) 1 _ rfl) 2 _ rfl) 3 _ rfl) 4 _ rfl)
  have m9 : wf.heap[g9]? = some (.cells #[(.int .u8 0), (.int .u8 0), (.int .u8 0), (.int .u8 0), (.int .u8 0), (.int .u8 0), (.int .u8 0), (.int .u8 0)] 5 (0, 0)) := by rw [hwf]; exact (Below.heap_setCell _ ⟨gl, 4, none⟩ _ _ n9).trans ((Below.heap_setCell _ ⟨gl, 3, none⟩ _ _ n9).trans ((Below.heap_setCell _ ⟨gl, 2, none⟩ _ _ n9).trans ((Below.heap_setCell _ ⟨gl, 1, none⟩ _ _ n9).trans ((Below.heap_setCell _ ⟨gl, 0, none⟩ _ _ n9).trans (D9.out)))))
  have m11 : wf.heap[g11]? = some (.cells #[.int .i64 1, .int .i64 0, .int .i64 0, .slice none 0 0, .slice (some ⟨w.heap.size, 0, none⟩) 1 1] 25 (0, 0)) := by rw [hwf]; exact (Below.heap_setCell _ ⟨gl, 4, none⟩ _ _ n11).trans ((Below.heap_setCell _ ⟨gl, 3, none⟩ _ _ n11).trans ((Below.heap_setCell _ ⟨gl, 2, none⟩ _ _ n11).trans ((Below.heap_setCell _ ⟨gl, 1, none⟩ _ _ n11).trans ((Below.heap_setCell _ ⟨gl, 0, none⟩ _ _ n11).trans (D11.out)))))
  have m13 : wf.heap[g13]? = some (.cells #[.int .i64 1, .int .i64 0, .int .i64 0, .slice none 0 0, .slice none 0 0, .int .i64 1, .int .i64 0, .int .i64 0, .slice (some ⟨g9, 0, none⟩) 8 8, .slice (some ⟨g11, 0, none⟩) 1 1] 25 (0, 0)) := by rw [hwf]; exact (Below.heap_setCell _ ⟨gl, 4, none⟩ _ _ n13).trans ((Below.heap_setCell _ ⟨gl, 3, none⟩ _ _ n13).trans ((Below.heap_setCell _ ⟨gl, 2, none⟩ _ _ n13).trans ((Below.heap_setCell _ ⟨gl, 1, none⟩ _ _ n13).trans ((Below.heap_setCell _ ⟨gl, 0, none⟩ _ _ n13).trans (D13.out)))))
  clear hwf n9 n11 n13 D9 D11 D13 Dl hbj l_BSd
  replace HT := Lib.hid (HT.out.below hb)
  replace HB := Lib.hid (below_step HB.out hb)
  replace B6 := Lib.hid (blk_below B6.out hb)
  replace BS := Lib.hid (blk_below BS.out hb)
  have BL := Lib.hid nL
  clear nL hb hgl
  have C1 : k25.C wf (some ⟨w.heap.size, 0, none⟩) 1 [z25] := C_node1 (K_nil wf 0 0 0) B6.out
  have KS : k25.K wf (⟨1, 0, 0, [], [z25]⟩ : S25) [.int .i64 1, .int .i64 0, .int .i64 0, .slice none 0 0, .slice (some ⟨w.heap.size, 0, none⟩) 1 1] := k25_mk wf (⟨1, 0, 0, [], [z25]⟩ : S25) (c3 := 0) (Nat.le_refl _) (Kd.C_nil _ _) (c4 := 1) (Nat.le_refl _) C1
  have C11 : k25.C wf (some ⟨g11, 0, none⟩) 1 [(⟨1, 0, 0, [], [z25]⟩ : S25)] := C_node1 KS m11
  have C9 := C_ints (xs := [0, 0, 0, 0, 0, 0, 0, 0]) (k := .u8) m9 (by decide)
  have K8 : k25.K wf (⟨1, 0, 0, [0, 0, 0, 0, 0, 0, 0, 0], [(⟨1, 0, 0, [], [z25]⟩ : S25)]⟩ : S25) [.int .i64 1, .int .i64 0, .int .i64 0, .slice (some ⟨g9, 0, none⟩) 8 8, .slice (some ⟨g11, 0, none⟩) 1 1] := k25_mk wf (⟨1, 0, 0, [0, 0, 0, 0, 0, 0, 0, 0], [(⟨1, 0, 0, [], [z25]⟩ : S25)]⟩ : S25) (c3 := 8) (Nat.le_refl _) C9 (c4 := 1) (Nat.le_refl _) C11
  have C13 : k25.C wf (some ⟨g13, 0, none⟩) 2 [(⟨1, 0, 0, [], []⟩ : S25), (⟨1, 0, 0, [0, 0, 0, 0, 0, 0, 0, 0], [(⟨1, 0, 0, [], [z25]⟩ : S25)]⟩ : S25)] := C_node2 (K_nil wf 1 0 0) K8 m13
  have HS4 := Lib.hid (C1)
  have H13 := Lib.hid (C13)
  clear C1 KS C11 C9 K8 C13 m9 m11 m13 B6
  have l_BL : gl < wf.heap.size := blk_lt BL.out
  have q_BL_0 : wf.cell? ⟨gl, 0, none⟩ = some (.int .i64 2) := (blk_cell BL.out 0).trans rfl
  have q_BL_1 : wf.cell? ⟨gl, 1, none⟩ = some (.int .i64 7) := (blk_cell BL.out 1).trans rfl
  have q_BL_2 : wf.cell? ⟨gl, 2, none⟩ = some (.int .i64 2) := (blk_cell BL.out 2).trans rfl
  have q_BL_3 : wf.cell? ⟨gl, 3, none⟩ = some (.slice none 0 0) := (blk_cell BL.out 3).trans rfl
  have q_BL_4 : wf.cell? ⟨gl, 4, none⟩ = some (.slice (some ⟨g13, 0, none⟩) 2 2) := (blk_cell BL.out 4).trans rfl
  go_upto_region 6 with fail
  clear l_BL q_BL_0 q_BL_1 q_BL_2 q_BL_3 q_BL_4
  refine wp_at (fun W6 hW => ?_)
  have hb : Below wf.heap.size wf W6 := by rw [hW]; repeat (first | exact Below.refl _ _ | refine Below.alloc ?_ (by first | exact Nat.le_refl _ | (simp <;> omega)) _)
  have nD7 : W6.heap[wf.heap.size]? = some (.cells #[.int .u8 7] 5 (0, 0)) := by rw [hW]; repeat (first | exact heap_alloc_new _ _ | exact blk_new _ _ _ (by simp) | refine blk_alloc ?_ _)
  have nBB : W6.heap[wf.heap.size + 1]? = some (.cells #[.int .i64 2, .int .i64 1, .int .i64 3, .slice (some ⟨wf.heap.size, 0, none⟩) 1 1, .slice none 0 0] 25 (0, 0)) := by rw [hW]; repeat (first | exact heap_alloc_new _ _ | exact blk_new _ _ _ (by simp) | refine blk_alloc ?_ _)
  have nBD : W6.heap[wf.heap.size + 1 + 1]? = some (.cells #[.int .i64 2, .int .i64 1, .int .i64 3, .slice (some ⟨wf.heap.size + 1 + 1 + 1, 0, none⟩) 1 1, .slice none 0 0] 25 (0, 0)) := by rw [hW]; repeat (first | exact heap_alloc_new _ _ | exact blk_new _ _ _ (by simp) | refine blk_alloc ?_ _)
  have nD8 : W6.heap[wf.heap.size + 1 + 1 + 1]? = some (.cells #[.int .u8 8] 5 (0, 0)) := by rw [hW]; repeat (first | exact heap_alloc_new _ _ | exact blk_new _ _ _ (by simp) | refine blk_alloc ?_ _)
  clear hW
  replace HT := Lib.hid (HT.out.below hb)
  replace HB := Lib.hid (below_step HB.out hb)
  replace HS4 := Lib.hid (Kd.C_below HS4.out hb)
  replace H13 := Lib.hid (Kd.C_below H13.out hb)
  replace BS := Lib.hid (blk_below BS.out hb)
  replace BL := Lib.hid (blk_below BL.out hb)
  clear hb
  have D7 := Lib.hid nD7
  clear nD7
  have BB := Lib.hid nBB
  clear nBB
  have BD := Lib.hid nBD
  clear nBD
  have D8 := Lib.hid nD8
  clear nD8
  have C7 := C_ints (xs := [7]) (k := .u8) D7.out (by decide)
  have C8 := C_ints (xs := [8]) (k := .u8) D8.out (by decide)
  have H7 := Lib.hid (C7)
  have H8 := Lib.hid (C8)
  clear C7 C8 D7 D8
  have l_BL : gl < W6.heap.size := blk_lt BL.out
  have q_BL_0 : W6.cell? ⟨gl, 0, none⟩ = some (.int .i64 2) := (blk_cell BL.out 0).trans rfl
  have q_BL_1 : W6.cell? ⟨gl, 1, none⟩ = some (.int .i64 7) := (blk_cell BL.out 1).trans rfl
  have q_BL_2 : W6.cell? ⟨gl, 2, none⟩ = some (.int .i64 2) := (blk_cell BL.out 2).trans rfl
  have q_BL_3 : W6.cell? ⟨gl, 3, none⟩ = some (.slice none 0 0) := (blk_cell BL.out 3).trans rfl
  have q_BL_4 : W6.cell? ⟨gl, 4, none⟩ = some (.slice (some ⟨g13, 0, none⟩) 2 2) := (blk_cell BL.out 4).trans rfl
  go_wp2_with fail
  clear l_BL q_BL_0 q_BL_1 q_BL_2 q_BL_3 q_BL_4
  refine calls_at (fun W8 hW => ?_)
  have hb : Below W6.heap.size W6 W8 := by rw [hW]; repeat (first | exact Below.refl _ _ | refine Below.alloc ?_ (by first | exact Nat.le_refl _ | (simp <;> omega)) _)
  have nBO : W8.heap[W6.heap.size]? = some (.cells #[.int .i64 2, .int .i64 7, .int .i64 2, .slice none 0 0, .slice (some ⟨W6.heap.size + 1, 0, none⟩) 2 2] 25 (0, 0)) := by rw [hW]; repeat (first | exact heap_alloc_new _ _ | exact blk_new _ _ _ (by simp) | refine blk_alloc ?_ _)
  have nDO : W8.heap[W6.heap.size + 1]? = some (.cells #[.int .i64 1, .int .i64 0, .int .i64 0, .slice none 0 0, .slice none 0 0, .int .i64 0, .int .i64 0, .int .i64 0, .slice none 0 0, .slice none 0 0] 25 (0, 0)) := by rw [hW]; repeat (first | exact heap_alloc_new _ _ | exact blk_new _ _ _ (by simp) | refine blk_alloc ?_ _)
  clear hW
  replace HT := Lib.hid (HT.out.below hb)
  replace HB := Lib.hid (below_step HB.out hb)
  replace HS4 := Lib.hid (Kd.C_below HS4.out hb)
  replace H13 := Lib.hid (Kd.C_below H13.out hb)
  replace H7 := Lib.hid (Kd.C_below H7.out hb)
  replace H8 := Lib.hid (Kd.C_below H8.out hb)
  replace BS := Lib.hid (blk_below BS.out hb)
  replace BL := Lib.hid (blk_below BL.out hb)
  replace BB := Lib.hid (blk_below BB.out hb)
  replace BD := Lib.hid (blk_below BD.out hb)
  clear hb
  have BO := Lib.hid nBO
  clear nBO
  have DO := Lib.hid nDO
  clear nDO
  have CO : k25.C W8 (some ⟨W6.heap.size + 1, 0, none⟩) 2 [exN, exZ] := C_node2 (K_nil W8 1 0 0) (K_nil W8 0 0 0) DO.out
  have HO := Lib.hid (CO)
  clear CO DO
  refine (node_Valid.calls 0 0 0 0 none 0 [] none 0 [] true _ (Kd.C_nil _ _) (Nat.le_refl _) (Kd.C_nil _ _) (Nat.le_refl _) fx1 HT.out).mono ?_
  rintro e w1 ⟨rfl, hb⟩
  replace HT := Lib.hid (HT.out.below hb)
  replace HB := Lib.hid (below_step HB.out hb)
  replace HS4 := Lib.hid (Kd.C_below HS4.out hb)
  replace H13 := Lib.hid (Kd.C_below H13.out hb)
  replace H7 := Lib.hid (Kd.C_below H7.out hb)
  replace H8 := Lib.hid (Kd.C_below H8.out hb)
  replace HO := Lib.hid (Kd.C_below HO.out hb)
  replace BS := Lib.hid (blk_below BS.out hb)
  replace BL := Lib.hid (blk_below BL.out hb)
  replace BB := Lib.hid (blk_below BB.out hb)
  replace BD := Lib.hid (blk_below BD.out hb)
  replace BO := Lib.hid (blk_below BO.out hb)
  clear hb
  have l_BS : w.heap.size + 1 < w1.heap.size := blk_lt BS.out
  have q_BS_0 : w1.cell? ⟨w.heap.size + 1, 0, none⟩ = some (.int .i64 1) := (blk_cell BS.out 0).trans rfl
  have q_BS_1 : w1.cell? ⟨w.heap.size + 1, 1, none⟩ = some (.int .i64 0) := (blk_cell BS.out 1).trans rfl
  have q_BS_2 : w1.cell? ⟨w.heap.size + 1, 2, none⟩ = some (.int .i64 0) := (blk_cell BS.out 2).trans rfl
  have q_BS_3 : w1.cell? ⟨w.heap.size + 1, 3, none⟩ = some (.slice none 0 0) := (blk_cell BS.out 3).trans rfl
  have q_BS_4 : w1.cell? ⟨w.heap.size + 1, 4, none⟩ = some (.slice (some ⟨w.heap.size, 0, none⟩) 1 1) := (blk_cell BS.out 4).trans rfl
  go_wp2_with fail
  clear l_BS q_BS_0 q_BS_1 q_BS_2 q_BS_3 q_BS_4
  refine (node_Valid.calls 0 1 0 0 none 0 [] _ 1 [z25] true _ (Kd.C_nil _ _) (Nat.le_refl _) HS4.out (Nat.le_refl _) fx2 HT.out).mono ?_
  rintro e w2 ⟨rfl, hb⟩
  replace HT := Lib.hid (HT.out.below hb)
  replace HB := Lib.hid (below_step HB.out hb)
  replace HS4 := Lib.hid (Kd.C_below HS4.out hb)
  replace H13 := Lib.hid (Kd.C_below H13.out hb)
  replace H7 := Lib.hid (Kd.C_below H7.out hb)
  replace H8 := Lib.hid (Kd.C_below H8.out hb)
  replace HO := Lib.hid (Kd.C_below HO.out hb)
  replace BS := Lib.hid (blk_below BS.out hb)
  replace BL := Lib.hid (blk_below BL.out hb)
  replace BB := Lib.hid (blk_below BB.out hb)
  replace BD := Lib.hid (blk_below BD.out hb)
  replace BO := Lib.hid (blk_below BO.out hb)
  clear hb
  have l_BL : gl < w2.heap.size := blk_lt BL.out
  have q_BL_0 : w2.cell? ⟨gl, 0, none⟩ = some (.int .i64 2) := (blk_cell BL.out 0).trans rfl
  have q_BL_1 : w2.cell? ⟨gl, 1, none⟩ = some (.int .i64 7) := (blk_cell BL.out 1).trans rfl
  have q_BL_2 : w2.cell? ⟨gl, 2, none⟩ = some (.int .i64 2) := (blk_cell BL.out 2).trans rfl
  have q_BL_3 : w2.cell? ⟨gl, 3, none⟩ = some (.slice none 0 0) := (blk_cell BL.out 3).trans rfl
  have q_BL_4 : w2.cell? ⟨gl, 4, none⟩ = some (.slice (some ⟨g13, 0, none⟩) 2 2) := (blk_cell BL.out 4).trans rfl
  go_wp2_with fail
  clear l_BL q_BL_0 q_BL_1 q_BL_2 q_BL_3 q_BL_4
  refine (node_Valid.calls 0 2 7 2 none 0 [] _ 2 [exN, exE] true _ (Kd.C_nil _ _) (Nat.le_refl _) H13.out (Nat.le_refl _) fx3 HT.out).mono ?_
  rintro e w3 ⟨rfl, hb⟩
  replace HT := Lib.hid (HT.out.below hb)
  replace HB := Lib.hid (below_step HB.out hb)
  replace HS4 := Lib.hid (Kd.C_below HS4.out hb)
  replace H13 := Lib.hid (Kd.C_below H13.out hb)
  replace H7 := Lib.hid (Kd.C_below H7.out hb)
  replace H8 := Lib.hid (Kd.C_below H8.out hb)
  replace HO := Lib.hid (Kd.C_below HO.out hb)
  replace BS := Lib.hid (blk_below BS.out hb)
  replace BL := Lib.hid (blk_below BL.out hb)
  replace BB := Lib.hid (blk_below BB.out hb)
  replace BD := Lib.hid (blk_below BD.out hb)
  replace BO := Lib.hid (blk_below BO.out hb)
  clear hb
  have l_BB : wf.heap.size + 1 < w3.heap.size := blk_lt BB.out
  have q_BB_0 : w3.cell? ⟨wf.heap.size + 1, 0, none⟩ = some (.int .i64 2) := (blk_cell BB.out 0).trans rfl
  have q_BB_1 : w3.cell? ⟨wf.heap.size + 1, 1, none⟩ = some (.int .i64 1) := (blk_cell BB.out 1).trans rfl
  have q_BB_2 : w3.cell? ⟨wf.heap.size + 1, 2, none⟩ = some (.int .i64 3) := (blk_cell BB.out 2).trans rfl
  have q_BB_3 : w3.cell? ⟨wf.heap.size + 1, 3, none⟩ = some (.slice (some ⟨wf.heap.size, 0, none⟩) 1 1) := (blk_cell BB.out 3).trans rfl
  have q_BB_4 : w3.cell? ⟨wf.heap.size + 1, 4, none⟩ = some (.slice none 0 0) := (blk_cell BB.out 4).trans rfl
  go_wp2_with fail
  clear l_BB q_BB_0 q_BB_1 q_BB_2 q_BB_3 q_BB_4
  refine (node_Valid.calls 0 2 1 3 _ 1 [7] none 0 [] true _ H7.out (Nat.le_refl _) (Kd.C_nil _ _) (Nat.le_refl _) fx4 HT.out).mono ?_
  rintro e w4 ⟨rfl, hb⟩
  replace HT := Lib.hid (HT.out.below hb)
  replace HB := Lib.hid (below_step HB.out hb)
  replace HS4 := Lib.hid (Kd.C_below HS4.out hb)
  replace H13 := Lib.hid (Kd.C_below H13.out hb)
  replace H7 := Lib.hid (Kd.C_below H7.out hb)
  replace H8 := Lib.hid (Kd.C_below H8.out hb)
  replace HO := Lib.hid (Kd.C_below HO.out hb)
  replace BS := Lib.hid (blk_below BS.out hb)
  replace BL := Lib.hid (blk_below BL.out hb)
  replace BB := Lib.hid (blk_below BB.out hb)
  replace BD := Lib.hid (blk_below BD.out hb)
  replace BO := Lib.hid (blk_below BO.out hb)
  clear hb
  have l_BD : wf.heap.size + 1 + 1 < w4.heap.size := blk_lt BD.out
  have q_BD_0 : w4.cell? ⟨wf.heap.size + 1 + 1, 0, none⟩ = some (.int .i64 2) := (blk_cell BD.out 0).trans rfl
  have q_BD_1 : w4.cell? ⟨wf.heap.size + 1 + 1, 1, none⟩ = some (.int .i64 1) := (blk_cell BD.out 1).trans rfl
  have q_BD_2 : w4.cell? ⟨wf.heap.size + 1 + 1, 2, none⟩ = some (.int .i64 3) := (blk_cell BD.out 2).trans rfl
  have q_BD_3 : w4.cell? ⟨wf.heap.size + 1 + 1, 3, none⟩ = some (.slice (some ⟨wf.heap.size + 1 + 1 + 1, 0, none⟩) 1 1) := (blk_cell BD.out 3).trans rfl
  have q_BD_4 : w4.cell? ⟨wf.heap.size + 1 + 1, 4, none⟩ = some (.slice none 0 0) := (blk_cell BD.out 4).trans rfl
  go_wp2_with fail
  clear l_BD q_BD_0 q_BD_1 q_BD_2 q_BD_3 q_BD_4
  refine (node_Valid.calls 0 2 1 3 _ 1 [8] none 0 [] false _ H8.out (Nat.le_refl _) (Kd.C_nil _ _) (Nat.le_refl _) fx5 HT.out).mono ?_
  rintro e w5 ⟨rfl, hb⟩
  replace HT := Lib.hid (HT.out.below hb)
  replace HB := Lib.hid (below_step HB.out hb)
  replace HS4 := Lib.hid (Kd.C_below HS4.out hb)
  replace H13 := Lib.hid (Kd.C_below H13.out hb)
  replace H7 := Lib.hid (Kd.C_below H7.out hb)
  replace H8 := Lib.hid (Kd.C_below H8.out hb)
  replace HO := Lib.hid (Kd.C_below HO.out hb)
  replace BS := Lib.hid (blk_below BS.out hb)
  replace BL := Lib.hid (blk_below BL.out hb)
  replace BB := Lib.hid (blk_below BB.out hb)
  replace BD := Lib.hid (blk_below BD.out hb)
  replace BO := Lib.hid (blk_below BO.out hb)
  clear hb
  have l_BO : W6.heap.size < w5.heap.size := blk_lt BO.out
  have q_BO_0 : w5.cell? ⟨W6.heap.size, 0, none⟩ = some (.int .i64 2) := (blk_cell BO.out 0).trans rfl
  have q_BO_1 : w5.cell? ⟨W6.heap.size, 1, none⟩ = some (.int .i64 7) := (blk_cell BO.out 1).trans rfl
  have q_BO_2 : w5.cell? ⟨W6.heap.size, 2, none⟩ = some (.int .i64 2) := (blk_cell BO.out 2).trans rfl
  have q_BO_3 : w5.cell? ⟨W6.heap.size, 3, none⟩ = some (.slice none 0 0) := (blk_cell BO.out 3).trans rfl
  have q_BO_4 : w5.cell? ⟨W6.heap.size, 4, none⟩ = some (.slice (some ⟨W6.heap.size + 1, 0, none⟩) 2 2) := (blk_cell BO.out 4).trans rfl
  go_wp2_with fail
  clear l_BO q_BO_0 q_BO_1 q_BO_2 q_BO_3 q_BO_4
  refine (node_Valid.calls 0 2 7 2 none 0 [] _ 2 [exN, exZ] false _ (Kd.C_nil _ _) (Nat.le_refl _) HO.out (Nat.le_refl _) fx6 HT.out).mono ?_
  rintro e w6 ⟨rfl, hb⟩
  replace HT := Lib.hid (HT.out.below hb)
  replace HB := Lib.hid (below_step HB.out hb)
  replace HS4 := Lib.hid (Kd.C_below HS4.out hb)
  replace H13 := Lib.hid (Kd.C_below H13.out hb)
  replace H7 := Lib.hid (Kd.C_below H7.out hb)
  replace H8 := Lib.hid (Kd.C_below H8.out hb)
  replace HO := Lib.hid (Kd.C_below HO.out hb)
  replace BS := Lib.hid (blk_below BS.out hb)
  replace BL := Lib.hid (blk_below BL.out hb)
  replace BB := Lib.hid (blk_below BB.out hb)
  replace BD := Lib.hid (blk_below BD.out hb)
  replace BO := Lib.hid (blk_below BO.out hb)
  clear hb
  go_wp2_with fail
  refine (node_Valid.calls 0 3 0 0 none 0 [] none 0 [] false _ (Kd.C_nil _ _) (Nat.le_refl _) (Kd.C_nil _ _) (Nat.le_refl _) fx7 HT.out).mono ?_
  rintro e w7 ⟨rfl, hb⟩
  replace HT := Lib.hid (HT.out.below hb)
  replace HB := Lib.hid (below_step HB.out hb)
  replace HS4 := Lib.hid (Kd.C_below HS4.out hb)
  replace H13 := Lib.hid (Kd.C_below H13.out hb)
  replace H7 := Lib.hid (Kd.C_below H7.out hb)
  replace H8 := Lib.hid (Kd.C_below H8.out hb)
  replace HO := Lib.hid (Kd.C_below HO.out hb)
  replace BS := Lib.hid (blk_below BS.out hb)
  replace BL := Lib.hid (blk_below BL.out hb)
  replace BB := Lib.hid (blk_below BB.out hb)
  replace BD := Lib.hid (blk_below BD.out hb)
  replace BO := Lib.hid (blk_below BO.out hb)
  clear hb
  go_wp2_with fail
  refine calls_at (fun W16 hW => ?_)
  have hb : Below w7.heap.size w7 W16 := by rw [hW]; repeat (first | exact Below.refl _ _ | refine Below.alloc ?_ (by first | exact Nat.le_refl _ | (simp <;> omega)) _)
  have nD4 : W16.heap[w7.heap.size]? = some (.cells #[.int .u8 0, .int .u8 0, .int .u8 0, .int .u8 0] 5 (0, 0)) := by rw [hW]; repeat (first | exact heap_alloc_new _ _ | exact blk_new _ _ _ (by simp) | refine blk_alloc ?_ _)
  clear hW
  replace HT := Lib.hid (HT.out.below hb)
  replace HB := Lib.hid (below_step HB.out hb)
  replace HS4 := Lib.hid (Kd.C_below HS4.out hb)
  replace H13 := Lib.hid (Kd.C_below H13.out hb)
  replace H7 := Lib.hid (Kd.C_below H7.out hb)
  replace H8 := Lib.hid (Kd.C_below H8.out hb)
  replace HO := Lib.hid (Kd.C_below HO.out hb)
  replace BS := Lib.hid (blk_below BS.out hb)
  replace BL := Lib.hid (blk_below BL.out hb)
  replace BB := Lib.hid (blk_below BB.out hb)
  replace BD := Lib.hid (blk_below BD.out hb)
  replace BO := Lib.hid (blk_below BO.out hb)
  clear hb
  have D4 := Lib.hid nD4
  clear nD4
  have C4 := C_ints (xs := [0, 0, 0, 0]) (k := .u8) D4.out (by decide)
  have H4 := Lib.hid (C4)
  clear C4 D4
  refine (node_Valid.calls 0 1 0 0 _ 4 [0, 0, 0, 0] none 0 [] false _ H4.out (Nat.le_refl _) (Kd.C_nil _ _) (Nat.le_refl _) fx8 HT.out).mono ?_
  rintro e w8 ⟨rfl, hb⟩
  replace HT := Lib.hid (HT.out.below hb)
  replace HB := Lib.hid (below_step HB.out hb)
  replace HS4 := Lib.hid (Kd.C_below HS4.out hb)
  replace H13 := Lib.hid (Kd.C_below H13.out hb)
  replace H7 := Lib.hid (Kd.C_below H7.out hb)
  replace H8 := Lib.hid (Kd.C_below H8.out hb)
  replace HO := Lib.hid (Kd.C_below HO.out hb)
  replace H4 := Lib.hid (Kd.C_below H4.out hb)
  replace BS := Lib.hid (blk_below BS.out hb)
  replace BL := Lib.hid (blk_below BL.out hb)
  replace BB := Lib.hid (blk_below BB.out hb)
  replace BD := Lib.hid (blk_below BD.out hb)
  replace BO := Lib.hid (blk_below BO.out hb)
  clear hb
  have l_BS : w.heap.size + 1 < w8.heap.size := blk_lt BS.out
  have q_BS_0 : w8.cell? ⟨w.heap.size + 1, 0, none⟩ = some (.int .i64 1) := (blk_cell BS.out 0).trans rfl
  have q_BS_1 : w8.cell? ⟨w.heap.size + 1, 1, none⟩ = some (.int .i64 0) := (blk_cell BS.out 1).trans rfl
  have q_BS_2 : w8.cell? ⟨w.heap.size + 1, 2, none⟩ = some (.int .i64 0) := (blk_cell BS.out 2).trans rfl
  have q_BS_3 : w8.cell? ⟨w.heap.size + 1, 3, none⟩ = some (.slice none 0 0) := (blk_cell BS.out 3).trans rfl
  have q_BS_4 : w8.cell? ⟨w.heap.size + 1, 4, none⟩ = some (.slice (some ⟨w.heap.size, 0, none⟩) 1 1) := (blk_cell BS.out 4).trans rfl
  go_wp2_with fail
  clear l_BS q_BS_0 q_BS_1 q_BS_2 q_BS_3 q_BS_4
  refine (node_Depth.calls 0 1 0 0 none 0 [] _ 1 [z25] 1 _ (Kd.C_nil _ _) (Nat.le_refl _) HS4.out (Nat.le_refl _) fx9).mono ?_
  rintro e w9 ⟨rfl, hb⟩
  replace HT := Lib.hid (HT.out.below hb)
  replace HB := Lib.hid (below_step HB.out hb)
  replace HS4 := Lib.hid (Kd.C_below HS4.out hb)
  replace H13 := Lib.hid (Kd.C_below H13.out hb)
  replace H7 := Lib.hid (Kd.C_below H7.out hb)
  replace H8 := Lib.hid (Kd.C_below H8.out hb)
  replace HO := Lib.hid (Kd.C_below HO.out hb)
  replace H4 := Lib.hid (Kd.C_below H4.out hb)
  replace BS := Lib.hid (blk_below BS.out hb)
  replace BL := Lib.hid (blk_below BL.out hb)
  replace BB := Lib.hid (blk_below BB.out hb)
  replace BD := Lib.hid (blk_below BD.out hb)
  replace BO := Lib.hid (blk_below BO.out hb)
  clear hb
  have l_BS : w.heap.size + 1 < w9.heap.size := blk_lt BS.out
  have q_BS_0 : w9.cell? ⟨w.heap.size + 1, 0, none⟩ = some (.int .i64 1) := (blk_cell BS.out 0).trans rfl
  have q_BS_1 : w9.cell? ⟨w.heap.size + 1, 1, none⟩ = some (.int .i64 0) := (blk_cell BS.out 1).trans rfl
  have q_BS_2 : w9.cell? ⟨w.heap.size + 1, 2, none⟩ = some (.int .i64 0) := (blk_cell BS.out 2).trans rfl
  have q_BS_3 : w9.cell? ⟨w.heap.size + 1, 3, none⟩ = some (.slice none 0 0) := (blk_cell BS.out 3).trans rfl
  have q_BS_4 : w9.cell? ⟨w.heap.size + 1, 4, none⟩ = some (.slice (some ⟨w.heap.size, 0, none⟩) 1 1) := (blk_cell BS.out 4).trans rfl
  go_wp2_with fail
  clear l_BS q_BS_0 q_BS_1 q_BS_2 q_BS_3 q_BS_4
  refine (node_Objects.calls 0 1 0 0 none 0 [] _ 1 [z25] 1 _ (Kd.C_nil _ _) (Nat.le_refl _) HS4.out (Nat.le_refl _) fx10).mono ?_
  rintro e w10 ⟨rfl, hb⟩
  replace HT := Lib.hid (HT.out.below hb)
  replace HB := Lib.hid (below_step HB.out hb)
  replace HS4 := Lib.hid (Kd.C_below HS4.out hb)
  replace H13 := Lib.hid (Kd.C_below H13.out hb)
  replace H7 := Lib.hid (Kd.C_below H7.out hb)
  replace H8 := Lib.hid (Kd.C_below H8.out hb)
  replace HO := Lib.hid (Kd.C_below HO.out hb)
  replace H4 := Lib.hid (Kd.C_below H4.out hb)
  replace BS := Lib.hid (blk_below BS.out hb)
  replace BL := Lib.hid (blk_below BL.out hb)
  replace BB := Lib.hid (blk_below BB.out hb)
  replace BD := Lib.hid (blk_below BD.out hb)
  replace BO := Lib.hid (blk_below BO.out hb)
  clear hb
  have l_BL : gl < w10.heap.size := blk_lt BL.out
  have q_BL_0 : w10.cell? ⟨gl, 0, none⟩ = some (.int .i64 2) := (blk_cell BL.out 0).trans rfl
  have q_BL_1 : w10.cell? ⟨gl, 1, none⟩ = some (.int .i64 7) := (blk_cell BL.out 1).trans rfl
  have q_BL_2 : w10.cell? ⟨gl, 2, none⟩ = some (.int .i64 2) := (blk_cell BL.out 2).trans rfl
  have q_BL_3 : w10.cell? ⟨gl, 3, none⟩ = some (.slice none 0 0) := (blk_cell BL.out 3).trans rfl
  have q_BL_4 : w10.cell? ⟨gl, 4, none⟩ = some (.slice (some ⟨g13, 0, none⟩) 2 2) := (blk_cell BL.out 4).trans rfl
  go_wp2_with fail
  clear l_BL q_BL_0 q_BL_1 q_BL_2 q_BL_3 q_BL_4
  refine (node_Depth.calls 0 2 7 2 none 0 [] _ 2 [exN, exE] 2 _ (Kd.C_nil _ _) (Nat.le_refl _) H13.out (Nat.le_refl _) fx11).mono ?_
  rintro e w11 ⟨rfl, hb⟩
  replace HT := Lib.hid (HT.out.below hb)
  replace HB := Lib.hid (below_step HB.out hb)
  replace HS4 := Lib.hid (Kd.C_below HS4.out hb)
  replace H13 := Lib.hid (Kd.C_below H13.out hb)
  replace H7 := Lib.hid (Kd.C_below H7.out hb)
  replace H8 := Lib.hid (Kd.C_below H8.out hb)
  replace HO := Lib.hid (Kd.C_below HO.out hb)
  replace H4 := Lib.hid (Kd.C_below H4.out hb)
  replace BS := Lib.hid (blk_below BS.out hb)
  replace BL := Lib.hid (blk_below BL.out hb)
  replace BB := Lib.hid (blk_below BB.out hb)
  replace BD := Lib.hid (blk_below BD.out hb)
  replace BO := Lib.hid (blk_below BO.out hb)
  clear hb
  have l_BL : gl < w11.heap.size := blk_lt BL.out
  have q_BL_0 : w11.cell? ⟨gl, 0, none⟩ = some (.int .i64 2) := (blk_cell BL.out 0).trans rfl
  have q_BL_1 : w11.cell? ⟨gl, 1, none⟩ = some (.int .i64 7) := (blk_cell BL.out 1).trans rfl
  have q_BL_2 : w11.cell? ⟨gl, 2, none⟩ = some (.int .i64 2) := (blk_cell BL.out 2).trans rfl
  have q_BL_3 : w11.cell? ⟨gl, 3, none⟩ = some (.slice none 0 0) := (blk_cell BL.out 3).trans rfl
  have q_BL_4 : w11.cell? ⟨gl, 4, none⟩ = some (.slice (some ⟨g13, 0, none⟩) 2 2) := (blk_cell BL.out 4).trans rfl
  go_wp2_with fail
  clear l_BL q_BL_0 q_BL_1 q_BL_2 q_BL_3 q_BL_4
  refine (node_Objects.calls 0 2 7 2 none 0 [] _ 2 [exN, exE] 2 _ (Kd.C_nil _ _) (Nat.le_refl _) H13.out (Nat.le_refl _) fx12).mono ?_
  rintro e w12 ⟨rfl, hb⟩
  replace HT := Lib.hid (HT.out.below hb)
  replace HB := Lib.hid (below_step HB.out hb)
  replace HS4 := Lib.hid (Kd.C_below HS4.out hb)
  replace H13 := Lib.hid (Kd.C_below H13.out hb)
  replace H7 := Lib.hid (Kd.C_below H7.out hb)
  replace H8 := Lib.hid (Kd.C_below H8.out hb)
  replace HO := Lib.hid (Kd.C_below HO.out hb)
  replace H4 := Lib.hid (Kd.C_below H4.out hb)
  replace BS := Lib.hid (blk_below BS.out hb)
  replace BL := Lib.hid (blk_below BL.out hb)
  replace BB := Lib.hid (blk_below BB.out hb)
  replace BD := Lib.hid (blk_below BD.out hb)
  replace BO := Lib.hid (blk_below BO.out hb)
  clear hb
  go_wp2_with fail
  refine (node_Depth.calls 0 0 0 0 none 0 [] none 0 [] 0 _ (Kd.C_nil _ _) (Nat.le_refl _) (Kd.C_nil _ _) (Nat.le_refl _) fx13).mono ?_
  rintro e w13 ⟨rfl, hb⟩
  replace HT := Lib.hid (HT.out.below hb)
  replace HB := Lib.hid (below_step HB.out hb)
  replace HS4 := Lib.hid (Kd.C_below HS4.out hb)
  replace H13 := Lib.hid (Kd.C_below H13.out hb)
  replace H7 := Lib.hid (Kd.C_below H7.out hb)
  replace H8 := Lib.hid (Kd.C_below H8.out hb)
  replace HO := Lib.hid (Kd.C_below HO.out hb)
  replace H4 := Lib.hid (Kd.C_below H4.out hb)
  replace BS := Lib.hid (blk_below BS.out hb)
  replace BL := Lib.hid (blk_below BL.out hb)
  replace BB := Lib.hid (blk_below BB.out hb)
  replace BD := Lib.hid (blk_below BD.out hb)
  replace BO := Lib.hid (blk_below BO.out hb)
  clear hb
  have l_BL : gl < w13.heap.size := blk_lt BL.out
  have q_BL_0 : w13.cell? ⟨gl, 0, none⟩ = some (.int .i64 2) := (blk_cell BL.out 0).trans rfl
  have q_BL_1 : w13.cell? ⟨gl, 1, none⟩ = some (.int .i64 7) := (blk_cell BL.out 1).trans rfl
  have q_BL_2 : w13.cell? ⟨gl, 2, none⟩ = some (.int .i64 2) := (blk_cell BL.out 2).trans rfl
  have q_BL_3 : w13.cell? ⟨gl, 3, none⟩ = some (.slice none 0 0) := (blk_cell BL.out 3).trans rfl
  have q_BL_4 : w13.cell? ⟨gl, 4, none⟩ = some (.slice (some ⟨g13, 0, none⟩) 2 2) := (blk_cell BL.out 4).trans rfl
  go_wp2_with fail
  clear l_BL q_BL_0 q_BL_1 q_BL_2 q_BL_3 q_BL_4
  refine (node_Equal.calls 0 2 7 2 none 0 [] _ 2 [exN, exE] 2 7 2 none 0 [] _ 2 [exN, exE] true _ (Kd.C_nil _ _) (Nat.le_refl _) H13.out (Nat.le_refl _) (Kd.C_nil _ _) (Nat.le_refl _) H13.out (Nat.le_refl _) fx14).mono ?_
  rintro e w14 ⟨rfl, hb⟩
  replace HT := Lib.hid (HT.out.below hb)
  replace HB := Lib.hid (below_step HB.out hb)
  replace HS4 := Lib.hid (Kd.C_below HS4.out hb)
  replace H13 := Lib.hid (Kd.C_below H13.out hb)
  replace H7 := Lib.hid (Kd.C_below H7.out hb)
  replace H8 := Lib.hid (Kd.C_below H8.out hb)
  replace HO := Lib.hid (Kd.C_below HO.out hb)
  replace H4 := Lib.hid (Kd.C_below H4.out hb)
  replace BS := Lib.hid (blk_below BS.out hb)
  replace BL := Lib.hid (blk_below BL.out hb)
  replace BB := Lib.hid (blk_below BB.out hb)
  replace BD := Lib.hid (blk_below BD.out hb)
  replace BO := Lib.hid (blk_below BO.out hb)
  clear hb
  have l_BL : gl < w14.heap.size := blk_lt BL.out
  have q_BL_0 : w14.cell? ⟨gl, 0, none⟩ = some (.int .i64 2) := (blk_cell BL.out 0).trans rfl
  have q_BL_1 : w14.cell? ⟨gl, 1, none⟩ = some (.int .i64 7) := (blk_cell BL.out 1).trans rfl
  have q_BL_2 : w14.cell? ⟨gl, 2, none⟩ = some (.int .i64 2) := (blk_cell BL.out 2).trans rfl
  have q_BL_3 : w14.cell? ⟨gl, 3, none⟩ = some (.slice none 0 0) := (blk_cell BL.out 3).trans rfl
  have q_BL_4 : w14.cell? ⟨gl, 4, none⟩ = some (.slice (some ⟨g13, 0, none⟩) 2 2) := (blk_cell BL.out 4).trans rfl
  have l_BB : wf.heap.size + 1 < w14.heap.size := blk_lt BB.out
  have q_BB_0 : w14.cell? ⟨wf.heap.size + 1, 0, none⟩ = some (.int .i64 2) := (blk_cell BB.out 0).trans rfl
  have q_BB_1 : w14.cell? ⟨wf.heap.size + 1, 1, none⟩ = some (.int .i64 1) := (blk_cell BB.out 1).trans rfl
  have q_BB_2 : w14.cell? ⟨wf.heap.size + 1, 2, none⟩ = some (.int .i64 3) := (blk_cell BB.out 2).trans rfl
  have q_BB_3 : w14.cell? ⟨wf.heap.size + 1, 3, none⟩ = some (.slice (some ⟨wf.heap.size, 0, none⟩) 1 1) := (blk_cell BB.out 3).trans rfl
  have q_BB_4 : w14.cell? ⟨wf.heap.size + 1, 4, none⟩ = some (.slice none 0 0) := (blk_cell BB.out 4).trans rfl
  go_wp2_with fail
  clear l_BL q_BL_0 q_BL_1 q_BL_2 q_BL_3 q_BL_4 l_BB q_BB_0 q_BB_1 q_BB_2 q_BB_3 q_BB_4
  refine (node_Equal.calls 0 2 7 2 none 0 [] _ 2 [exN, exE] 2 1 3 _ 1 [7] none 0 [] false _ (Kd.C_nil _ _) (Nat.le_refl _) H13.out (Nat.le_refl _) H7.out (Nat.le_refl _) (Kd.C_nil _ _) (Nat.le_refl _) fx15).mono ?_
  rintro e w15 ⟨rfl, hb⟩
  replace HT := Lib.hid (HT.out.below hb)
  replace HB := Lib.hid (below_step HB.out hb)
  replace HS4 := Lib.hid (Kd.C_below HS4.out hb)
  replace H13 := Lib.hid (Kd.C_below H13.out hb)
  replace H7 := Lib.hid (Kd.C_below H7.out hb)
  replace H8 := Lib.hid (Kd.C_below H8.out hb)
  replace HO := Lib.hid (Kd.C_below HO.out hb)
  replace H4 := Lib.hid (Kd.C_below H4.out hb)
  replace BS := Lib.hid (blk_below BS.out hb)
  replace BL := Lib.hid (blk_below BL.out hb)
  replace BB := Lib.hid (blk_below BB.out hb)
  replace BD := Lib.hid (blk_below BD.out hb)
  replace BO := Lib.hid (blk_below BO.out hb)
  clear hb
  have l_BB : wf.heap.size + 1 < w15.heap.size := blk_lt BB.out
  have q_BB_0 : w15.cell? ⟨wf.heap.size + 1, 0, none⟩ = some (.int .i64 2) := (blk_cell BB.out 0).trans rfl
  have q_BB_1 : w15.cell? ⟨wf.heap.size + 1, 1, none⟩ = some (.int .i64 1) := (blk_cell BB.out 1).trans rfl
  have q_BB_2 : w15.cell? ⟨wf.heap.size + 1, 2, none⟩ = some (.int .i64 3) := (blk_cell BB.out 2).trans rfl
  have q_BB_3 : w15.cell? ⟨wf.heap.size + 1, 3, none⟩ = some (.slice (some ⟨wf.heap.size, 0, none⟩) 1 1) := (blk_cell BB.out 3).trans rfl
  have q_BB_4 : w15.cell? ⟨wf.heap.size + 1, 4, none⟩ = some (.slice none 0 0) := (blk_cell BB.out 4).trans rfl
  have l_BD : wf.heap.size + 1 + 1 < w15.heap.size := blk_lt BD.out
  have q_BD_0 : w15.cell? ⟨wf.heap.size + 1 + 1, 0, none⟩ = some (.int .i64 2) := (blk_cell BD.out 0).trans rfl
  have q_BD_1 : w15.cell? ⟨wf.heap.size + 1 + 1, 1, none⟩ = some (.int .i64 1) := (blk_cell BD.out 1).trans rfl
  have q_BD_2 : w15.cell? ⟨wf.heap.size + 1 + 1, 2, none⟩ = some (.int .i64 3) := (blk_cell BD.out 2).trans rfl
  have q_BD_3 : w15.cell? ⟨wf.heap.size + 1 + 1, 3, none⟩ = some (.slice (some ⟨wf.heap.size + 1 + 1 + 1, 0, none⟩) 1 1) := (blk_cell BD.out 3).trans rfl
  have q_BD_4 : w15.cell? ⟨wf.heap.size + 1 + 1, 4, none⟩ = some (.slice none 0 0) := (blk_cell BD.out 4).trans rfl
  go_wp2_with fail
  clear l_BB q_BB_0 q_BB_1 q_BB_2 q_BB_3 q_BB_4 l_BD q_BD_0 q_BD_1 q_BD_2 q_BD_3 q_BD_4
  refine (node_Equal.calls 0 2 1 3 _ 1 [7] none 0 [] 2 1 3 _ 1 [8] none 0 [] false _ H7.out (Nat.le_refl _) (Kd.C_nil _ _) (Nat.le_refl _) H8.out (Nat.le_refl _) (Kd.C_nil _ _) (Nat.le_refl _) fx16).mono ?_
  rintro e w16 ⟨rfl, hb⟩
  replace HT := Lib.hid (HT.out.below hb)
  replace HB := Lib.hid (below_step HB.out hb)
  replace HS4 := Lib.hid (Kd.C_below HS4.out hb)
  replace H13 := Lib.hid (Kd.C_below H13.out hb)
  replace H7 := Lib.hid (Kd.C_below H7.out hb)
  replace H8 := Lib.hid (Kd.C_below H8.out hb)
  replace HO := Lib.hid (Kd.C_below HO.out hb)
  replace H4 := Lib.hid (Kd.C_below H4.out hb)
  replace BS := Lib.hid (blk_below BS.out hb)
  replace BL := Lib.hid (blk_below BL.out hb)
  replace BB := Lib.hid (blk_below BB.out hb)
  replace BD := Lib.hid (blk_below BD.out hb)
  replace BO := Lib.hid (blk_below BO.out hb)
  clear hb
  go_wp2
  go_ret
  exact ⟨rfl, HB.out⟩
end Go.Proofs.YtmbockhcmhghlaaDoor.Pr
end
section
namespace Go.Proofs.YtmbockhcmhghlaaDoor.Pr
open Go.RowKit Go.Proofs.YtmbockhcmhghlaaDoorW.PrintWords Go.Proofs.YtmbockhcmhghlaaDoorW.PrintLast Go.Proofs.YtmbockhcmhghlaaDoorW.PrintMore
attribute [local go_sem] max2_int min2_int max_two min_two max_three min_three max_four min_four
set_option linter.unusedVariables false
set_option linter.unusedSimpArgs false
noncomputable section
mutual
def capnplaw10_NodeMatchesReference.j0 : Nat → Bool → Int → Int → Int → List Int → List (S25) → Int → Int → Int → List Int → List (S25) → Option (Bool)
 | 0, _, _, _, _, _, _, _, _, _, _, _ => none
 | k + 1, x16, x157000, x157001, x157002, x157003, x157004, x158000, x158001, x158002, x158003, x158004 => if x16 = true then ((capnplaw10_awake.f).bind fun t161 => (some t161)) else ((node_Valid.f k x157000 x157001 x157002 x157003 x157004).bind fun t162 => ((capnpref10_Valid.f k x157000 x157001 x157002 x157003 x157004).bind fun t163 => (if (t162 != t163) = true then (capnplaw10_NodeMatchesReference.j1 k true x157000 x157001 x157002 x157003 x157004) else ((node_Equal.f k x157000 x157001 x157002 x157003 x157004 x158000 x158001 x158002 x158003 x158004).bind fun t164 => ((capnpref10_Equal.f k x157000 x157001 x157002 x157003 x157004 x158000 x158001 x158002 x158003 x158004).bind fun t165 => (if (t164 != t165) = true then (capnplaw10_NodeMatchesReference.j1 k true x157000 x157001 x157002 x157003 x157004) else ((node_Equal.f k x157000 x157001 x157002 x157003 x157004 x157000 x157001 x157002 x157003 x157004).bind fun t166 => (capnplaw10_NodeMatchesReference.j1 k (!t166) x157000 x157001 x157002 x157003 x157004))))))))
def capnplaw10_NodeMatchesReference.j1 : Nat → Bool → Int → Int → Int → List Int → List (S25) → Option (Bool)
 | 0, _, _, _, _, _, _ => none
 | k + 1, x37, x157000, x157001, x157002, x157003, x157004 => if x37 = true then (none) else ((capnpref10_Valid.f k x157000 x157001 x157002 x157003 x157004).bind fun t167 => (if t167 = true then ((node_Depth.f k x157000 x157001 x157002 x157003 x157004).bind fun t168 => ((capnpref10_Depth.f k x157000 x157001 x157002 x157003 x157004).bind fun t169 => (if t168 = t169 then ((node_Objects.f k x157000 x157001 x157002 x157003 x157004).bind fun t170 => ((capnpref10_Objects.f k x157000 x157001 x157002 x157003 x157004).bind fun t171 => (some (t170 == t171)))) else (none)))) else (some true)))
end
end
end Go.Proofs.YtmbockhcmhghlaaDoor.Pr
end
section
namespace Go.Proofs.YtmbockhcmhghlaaDoor.Pr
open Go.RowKit Go.Proofs.YtmbockhcmhghlaaDoorW.PrintWords Go.Proofs.YtmbockhcmhghlaaDoorW.PrintLast Go.Proofs.YtmbockhcmhghlaaDoorW.PrintMore
attribute [local go_sem] max2_int min2_int max_two min_two max_three min_three max_four min_four
set_option linter.unusedVariables false
set_option linter.unusedSimpArgs false
noncomputable section
mutual
def capnplaw10_NodeValidity.j0 : Nat → Int → Bool → Int → Int → Int → List Int → List (S25) → Option (Bool)
 | 0, _, _, _, _, _, _, _ => none
 | k + 1, x1, x18, x243000, x243001, x243002, x243003, x243004 => if x18 = true then ((capnplaw10_awake.f).bind fun t246 => (some t246)) else (capnplaw10_NodeValidity.l0 k x1 0 x243000 x243001 x243002 x243003 x243004)
def capnplaw10_NodeValidity.l0 : Nat → Int → Int → Int → Int → Int → List Int → List (S25) → Option (Bool)
 | 0, _, _, _, _, _, _, _ => none
 | k + 1, x1, x5, x243000, x243001, x243002, x243003, x243004 => if x5 < (x243004.length : Int) then (if 0 ≤ x5 then ((node_Valid.f k ((rd_T25 x243004 x5).f0) ((rd_T25 x243004 x5).f1) ((rd_T25 x243004 x5).f2) ((rd_T25 x243004 x5).f3) ((rd_T25 x243004 x5).f4)).bind fun t248 => (if t248 = true then (capnplaw10_NodeValidity.l0 k x1 (wrap64 (x5 + 1)) x243000 x243001 x243002 x243003 x243004) else (none))) else (none)) else (if x243000 = 2 then (capnplaw10_NodeValidity.j2 k x1 (decide (x243001 < 2)) x243000 x243001 x243002 x243003 x243004) else (capnplaw10_NodeValidity.j2 k x1 true x243000 x243001 x243002 x243003 x243004))
def capnplaw10_NodeValidity.j2 : Nat → Int → Bool → Int → Int → Int → List Int → List (S25) → Option (Bool)
 | 0, _, _, _, _, _, _, _ => none
 | k + 1, x1, x41, x243000, x243001, x243002, x243003, x243004 => if x41 = true then ((node_Valid.f k x243000 x243001 x243002 x243003 x243004).bind fun t249 => (some t249)) else ((node_Valid.f k x243000 x243001 x1 x243003 x243004).bind fun t251 => (some (t251 == (x1 == x243002))))
end
def capnplaw10_NodeValidity.f (k : Nat) (a0_0 : Int) (a0_1 : Int) (a0_2 : Int) (l0_3 : List Int) (l0_4 : List (S25)) (a1 : Int) : Option (Bool) := (capnplaw10_awake.f).bind fun t243 => (if t243 = true then ((capnpref10_Few.f k a0_0 a0_1 a0_2 l0_3 l0_4).bind fun t244 => (if t244 = true then ((capnpref10_Valid.f k a0_0 a0_1 a0_2 l0_3 l0_4).bind fun t245 => (capnplaw10_NodeValidity.j0 k a1 (!t245) a0_0 a0_1 a0_2 l0_3 l0_4)) else (capnplaw10_NodeValidity.j0 k a1 true a0_0 a0_1 a0_2 l0_3 l0_4))) else (capnplaw10_NodeValidity.j0 k a1 true a0_0 a0_1 a0_2 l0_3 l0_4))
def capnplaw10_NodeValidity.T12 : Bool × List (List Nat × List Nat) := (true, [([], []), ([0], [0]), ([], []), ([], []), ([3], [3]), ([2, 4], [2, 4]), ([1, 5], [1, 5]), ([6, 1, 0, 1, 2, 3, 4, 5, 6], [6])])
def capnplaw10_NodeValidity.B12 : List Nat := [0, 1, 0, 0, 8, 28, 63, 127]
theorem capnplaw10_NodeValidity.tab12 : rtab .any (opsOf Tryd.f6 12) = capnplaw10_NodeValidity.T12 := by kernel_rfl
theorem capnplaw10_NodeValidity.bits12 : waitsOk capnplaw10_NodeValidity.T12.2 capnplaw10_NodeValidity.B12 = true := by kernel_rfl
set_option maxHeartbeats 8000000 in
set_option maxRecDepth 100000 in
theorem capnplaw10_NodeValidity.calls (k : Nat) (a0_0 : Int) (a0_1 : Int) (a0_2 : Int) (A0_3 : Option Addr) (c0_3 : Nat) (l0_3 : List Int) (A0_4 : Option Addr) (c0_4 : Nat) (l0_4 : List (S25)) (a1 : Int) (r : Bool) (w : World) (HT0 : Ls.Tab w) (hr0_3 : Kd.C (Kd.int .u8) w A0_3 l0_3.length l0_3) (hc0_3 : l0_3.length ≤ c0_3) (hr0_4 : Kd.C k25 w A0_4 l0_4.length l0_4) (hc0_4 : l0_4.length ≤ c0_4) (h : capnplaw10_NodeValidity.f k a0_0 a0_1 a0_2 l0_3 l0_4 a1 = some r) :
  Calls Tryd.prog 6 #[.agg #[.int .i64 a0_0, .int .i64 a0_1, .int .i64 a0_2, .slice A0_3 l0_3.length c0_3, .slice A0_4 l0_4.length c0_4], .int .i64 a1] w fun e w' => e = .returned (.bool r) ∧ Below w.heap.size w w' := by
 have hu25 := Tryd.underlying25
 have HTAB := Aside0.mk HT0
 have HR0_3 := Aside0.mk hr0_3
 have HC0_3 := Aside0.mk hc0_3
 clear hr0_3 hc0_3
 have HR0_4 := Aside0.mk hr0_4
 have HC0_4 := Aside0.mk hc0_4
 clear hr0_4 hc0_4
 have HB := Aside0.mk (Below.refl w.heap.size w)
 have H : ((capnplaw10_awake.f).bind fun t243 => (if t243 = true then ((capnpref10_Few.f k a0_0 a0_1 a0_2 l0_3 l0_4).bind fun t244 => (if t244 = true then ((capnpref10_Valid.f k a0_0 a0_1 a0_2 l0_3 l0_4).bind fun t245 => (capnplaw10_NodeValidity.j0 k a1 (!t245) a0_0 a0_1 a0_2 l0_3 l0_4)) else (capnplaw10_NodeValidity.j0 k a1 true a0_0 a0_1 a0_2 l0_3 l0_4))) else (capnplaw10_NodeValidity.j0 k a1 true a0_0 a0_1 a0_2 l0_3 l0_4))) = some r := h
 clear h
 have HC3 := Aside0.mk H
 clear H
 go_enter Tryd.func6, Tryd.ntmps6
 go_upto_region 1 with (first | ((with_reducible refine gate_dst (N := 2) rfl ?_); refine box_event ?hg (N := 2) ?hd (cs := #[.int .i64 a0_0, .int .i64 a0_1, .int .i64 a0_2, .slice A0_3 l0_3.length c0_3, .slice A0_4 l0_4.length c0_4]) (t := 25) ?hr ?_; (case hd => rfl); (case hg => rfl); (case hr => first | (go_simp; done) | (go_simp; rfl)); intro gb242 hg w4 hbox hb; have n0_ := Aside0.mk (below_step (by repeat (first | (with_reducible first | exact HB.out | apply below_alloc | apply pw_below_drewN | apply below_drew1) | exact HB.out)) hb); have n1_ := Aside0.mk (hbox); have n2_ := Aside0.mk ((by rw [hg]; exact (below_size (by repeat (first | (with_reducible first | exact HB.out | apply below_alloc | apply pw_below_drewN | apply below_drew1) | exact HB.out))) : w.heap.size ≤ gb242)); have n3_ := Aside0.mk ((by rw [hg]; exact (below_size (by repeat (first | (with_reducible first | exact HB.out | apply below_alloc | apply pw_below_drewN | apply below_drew1) | exact HB.out))) : w.heap.size ≤ gb242)); clear HB; have HB := n0_; have BK242 := n1_; have GW242 := n2_; have GE242 := n3_; clear n0_ n1_ n2_ n3_; clear hb hbox hg))
 (try simp only [Act.put, List.setIfInBounds_toArray, List.set_cons_zero, List.set_cons_succ])
 go_cut [18] (fun v18 wc => ∃ (kq : Nat) (x18_2 : Bool), v18 = .bool x18_2 ∧ Aside0 (capnplaw10_NodeValidity.j0 kq a1 x18_2 a0_0 a0_1 a0_2 l0_3 l0_4 = some r) ∧ Aside0 (kq ≤ k) ∧ Aside0 (wc.heap[gb242]? = some (.cells #[.int .i64 a0_0, .int .i64 a0_1, .int .i64 a0_2, (.slice A0_3 l0_3.length c0_3), (.slice A0_4 l0_4.length c0_4)] 25 (0, 0))) ∧ Aside0 (Below w.heap.size w wc))
 case first =>
  have H := HC3.out
  clear HC3
  replace H := Option.bind_eq_some_iff.mp H
  obtain ⟨t243, A50, H⟩ := H
  replace H : (if t243 = true then ((capnpref10_Few.f k a0_0 a0_1 a0_2 l0_3 l0_4).bind fun t244 => (if t244 = true then ((capnpref10_Valid.f k a0_0 a0_1 a0_2 l0_3 l0_4).bind fun t245 => (capnplaw10_NodeValidity.j0 k a1 (!t245) a0_0 a0_1 a0_2 l0_3 l0_4)) else (capnplaw10_NodeValidity.j0 k a1 true a0_0 a0_1 a0_2 l0_3 l0_4))) else (capnplaw10_NodeValidity.j0 k a1 true a0_0 a0_1 a0_2 l0_3 l0_4)) = some r := H
  have A5 := Aside0.mk A50
  clear A50
  by_cases c6 : t243 = true
  ·subst c6
   have H1 : ((capnpref10_Few.f k a0_0 a0_1 a0_2 l0_3 l0_4).bind fun t244 => (if t244 = true then ((capnpref10_Valid.f k a0_0 a0_1 a0_2 l0_3 l0_4).bind fun t245 => (capnplaw10_NodeValidity.j0 k a1 (!t245) a0_0 a0_1 a0_2 l0_3 l0_4)) else (capnplaw10_NodeValidity.j0 k a1 true a0_0 a0_1 a0_2 l0_3 l0_4))) = some r := by rw [if_pos rfl] at H; exact H
   clear H
   have H := H1
   clear H1
   replace H := Option.bind_eq_some_iff.mp H
   obtain ⟨t244, A70, H⟩ := H
   replace H : (if t244 = true then ((capnpref10_Valid.f k a0_0 a0_1 a0_2 l0_3 l0_4).bind fun t245 => (capnplaw10_NodeValidity.j0 k a1 (!t245) a0_0 a0_1 a0_2 l0_3 l0_4)) else (capnplaw10_NodeValidity.j0 k a1 true a0_0 a0_1 a0_2 l0_3 l0_4)) = some r := H
   have A7 := Aside0.mk A70
   clear A70
   by_cases c8 : t244 = true
   ·subst c8
    have H1 : ((capnpref10_Valid.f k a0_0 a0_1 a0_2 l0_3 l0_4).bind fun t245 => (capnplaw10_NodeValidity.j0 k a1 (!t245) a0_0 a0_1 a0_2 l0_3 l0_4)) = some r := by rw [if_pos rfl] at H; exact H
    clear H
    have H := H1
    clear H1
    replace H := Option.bind_eq_some_iff.mp H
    obtain ⟨t245, A90, H⟩ := H
    replace H : (capnplaw10_NodeValidity.j0 k a1 (!t245) a0_0 a0_1 a0_2 l0_3 l0_4) = some r := H
    have A9 := Aside0.mk A90
    clear A90
    have H' := Aside0.mk H
    clear H
    go_wp2_with (first | ((with_reducible refine gate_callee (f := 8) rfl ?_); refine goesL_ (some 7) rfl rfl Tryd.func8 (by kernel_rfl) rfl #[] rfl (by (try simp only [List.map_toArray, List.map_cons, List.map_nil]); first | done | rfl | (simp only [List.length_drop, List.length_take]; rfl)) ?_; (with_reducible refine (capnplaw10_awake.calls  true _ A5.out ?tab).mono ?_); (case tab => exact HTAB.out.below (by repeat (first | (with_reducible first | exact HB.out | apply below_alloc | apply pw_below_drewN | apply below_drew1 | refine below_set ?_ GE242.out) | exact HB.out))); rintro e w10 ⟨rfl, hb⟩; refine ⟨_, rfl, ?_⟩; have n0_ := Aside0.mk (blk_below (g := gb242) (o := .cells #[.int .i64 a0_0, .int .i64 a0_1, .int .i64 a0_2, .slice A0_3 l0_3.length c0_3, .slice A0_4 l0_4.length c0_4] 25 (0, 0)) (by (with_reducible repeat (first | refine blk_drewN ?_ _ | refine blk_drew ?_ | refine blk_alloc ?_ _)); exact BK242.out) hb); have n1_ := Aside0.mk (below_step (by repeat (first | (with_reducible first | exact HB.out | apply below_alloc | apply pw_below_drewN | apply below_drew1 | refine below_set ?_ GE242.out) | exact HB.out)) hb); clear BK242; clear HB; have BK242 := n0_; have HB := n1_; clear n0_ n1_; (try clear hb); (try clear hb2); (try clear hk); (try clear hi); have hcz11_0 : w10.cell? ⟨gb242, 0, none⟩ = some (.int .i64 a0_0) := (blk_cell BK242.out 0).trans rfl; have hcz11_1 : w10.cell? ⟨gb242, 1, none⟩ = some (.int .i64 a0_1) := (blk_cell BK242.out 1).trans rfl; have hcz11_2 : w10.cell? ⟨gb242, 2, none⟩ = some (.int .i64 a0_2) := (blk_cell BK242.out 2).trans rfl; have hcz11_3 : w10.cell? ⟨gb242, 3, none⟩ = some (.slice A0_3 l0_3.length c0_3) := (blk_cell BK242.out 3).trans rfl; have hcz11_4 : w10.cell? ⟨gb242, 4, none⟩ = some (.slice A0_4 l0_4.length c0_4) := (blk_cell BK242.out 4).trans rfl; have hfz11_0 := blk_frozen BK242.out 0; have hfz11_1 := blk_frozen BK242.out 1; have hfz11_2 := blk_frozen BK242.out 2; have hfz11_3 := blk_frozen BK242.out 3; have hfz11_4 := blk_frozen BK242.out 4) | (go_at_call 9; (with_reducible refine (capnpref10_Few.calls k a0_0 a0_1 a0_2 _ _ l0_3 _ _ l0_4 true _ ?side1 ?side2 ?side3 ?side4 A7.out).mono ?_); (case side1 => repeat (first | exact (Kd.C_below HR0_3.out HB.out) | (with_reducible refine Kd.C_alloc ?_ _) | (with_reducible refine Kd.C_drewN ?_ _) | (with_reducible refine Kd.C_drew ?_))); (case side2 => exact HC0_3.out); (case side3 => repeat (first | exact (Kd.C_below HR0_4.out HB.out) | (with_reducible refine Kd.C_alloc ?_ _) | (with_reducible refine Kd.C_drewN ?_ _) | (with_reducible refine Kd.C_drew ?_))); (case side4 => exact HC0_4.out); rintro e w12 ⟨rfl, hb⟩; have n0_ := Aside0.mk (blk_below (g := gb242) (o := .cells #[.int .i64 a0_0, .int .i64 a0_1, .int .i64 a0_2, .slice A0_3 l0_3.length c0_3, .slice A0_4 l0_4.length c0_4] 25 (0, 0)) (by (with_reducible repeat (first | refine blk_drewN ?_ _ | refine blk_drew ?_ | refine blk_alloc ?_ _)); exact BK242.out) hb); have n1_ := Aside0.mk (below_step (by repeat (first | (with_reducible first | exact HB.out | apply below_alloc | apply pw_below_drewN | apply below_drew1 | refine below_set ?_ GE242.out) | exact HB.out)) hb); clear BK242; clear HB; have BK242 := n0_; have HB := n1_; clear n0_ n1_; (try clear hb); (try clear hb2); (try clear hk); (try clear hi); have hcz13_0 : w12.cell? ⟨gb242, 0, none⟩ = some (.int .i64 a0_0) := (blk_cell BK242.out 0).trans rfl; have hcz13_1 : w12.cell? ⟨gb242, 1, none⟩ = some (.int .i64 a0_1) := (blk_cell BK242.out 1).trans rfl; have hcz13_2 : w12.cell? ⟨gb242, 2, none⟩ = some (.int .i64 a0_2) := (blk_cell BK242.out 2).trans rfl; have hcz13_3 : w12.cell? ⟨gb242, 3, none⟩ = some (.slice A0_3 l0_3.length c0_3) := (blk_cell BK242.out 3).trans rfl; have hcz13_4 : w12.cell? ⟨gb242, 4, none⟩ = some (.slice A0_4 l0_4.length c0_4) := (blk_cell BK242.out 4).trans rfl; have hfz13_0 := blk_frozen BK242.out 0; have hfz13_1 := blk_frozen BK242.out 1; have hfz13_2 := blk_frozen BK242.out 2; have hfz13_3 := blk_frozen BK242.out 3; have hfz13_4 := blk_frozen BK242.out 4) | (go_at_call 11; (with_reducible refine (capnpref10_Valid.calls k a0_0 a0_1 a0_2 _ _ l0_3 _ _ l0_4 t245 _ ?side1 ?side2 ?side3 ?side4 A9.out).mono ?_); (case side1 => repeat (first | exact (Kd.C_below HR0_3.out HB.out) | (with_reducible refine Kd.C_alloc ?_ _) | (with_reducible refine Kd.C_drewN ?_ _) | (with_reducible refine Kd.C_drew ?_))); (case side2 => exact HC0_3.out); (case side3 => repeat (first | exact (Kd.C_below HR0_4.out HB.out) | (with_reducible refine Kd.C_alloc ?_ _) | (with_reducible refine Kd.C_drewN ?_ _) | (with_reducible refine Kd.C_drew ?_))); (case side4 => exact HC0_4.out); rintro e w14 ⟨rfl, hb⟩; have n0_ := Aside0.mk (blk_below (g := gb242) (o := .cells #[.int .i64 a0_0, .int .i64 a0_1, .int .i64 a0_2, .slice A0_3 l0_3.length c0_3, .slice A0_4 l0_4.length c0_4] 25 (0, 0)) (by (with_reducible repeat (first | refine blk_drewN ?_ _ | refine blk_drew ?_ | refine blk_alloc ?_ _)); exact BK242.out) hb); have n1_ := Aside0.mk (below_step (by repeat (first | (with_reducible first | exact HB.out | apply below_alloc | apply pw_below_drewN | apply below_drew1 | refine below_set ?_ GE242.out) | exact HB.out)) hb); clear BK242; clear HB; have BK242 := n0_; have HB := n1_; clear n0_ n1_; (try clear hb); (try clear hb2); (try clear hk); (try clear hi)))
    go_meet
    case rel => exact ⟨_, (!t245), (by first | rfl | (simp; done) | (simp [*]; done)), H', ⟨by first | omega | exact Nat.le_refl _⟩, ⟨by (with_reducible repeat (first | refine blk_drewN ?_ _ | refine blk_drew ?_ | refine blk_alloc ?_ _)); exact BK242.out⟩, ⟨by repeat (first | (with_reducible first | exact HB.out | apply below_alloc | apply pw_below_drewN | apply below_drew1 | refine below_set ?_ GE242.out) | exact HB.out)⟩⟩
   ·replace c8 := Bool.eq_false_iff.mpr c8
    subst c8
    have H1 : (capnplaw10_NodeValidity.j0 k a1 true a0_0 a0_1 a0_2 l0_3 l0_4) = some r := by rw [if_neg (show ¬ (false = true) by decide)] at H; exact H
    clear H
    have H := H1
    clear H1
    have H' := Aside0.mk H
    clear H
    go_wp2_with (first | ((with_reducible refine gate_callee (f := 8) rfl ?_); refine goesL_ (some 7) rfl rfl Tryd.func8 (by kernel_rfl) rfl #[] rfl (by (try simp only [List.map_toArray, List.map_cons, List.map_nil]); first | done | rfl | (simp only [List.length_drop, List.length_take]; rfl)) ?_; (with_reducible refine (capnplaw10_awake.calls  true _ A5.out ?tab).mono ?_); (case tab => exact HTAB.out.below (by repeat (first | (with_reducible first | exact HB.out | apply below_alloc | apply pw_below_drewN | apply below_drew1 | refine below_set ?_ GE242.out) | exact HB.out))); rintro e w15 ⟨rfl, hb⟩; refine ⟨_, rfl, ?_⟩; have n0_ := Aside0.mk (blk_below (g := gb242) (o := .cells #[.int .i64 a0_0, .int .i64 a0_1, .int .i64 a0_2, .slice A0_3 l0_3.length c0_3, .slice A0_4 l0_4.length c0_4] 25 (0, 0)) (by (with_reducible repeat (first | refine blk_drewN ?_ _ | refine blk_drew ?_ | refine blk_alloc ?_ _)); exact BK242.out) hb); have n1_ := Aside0.mk (below_step (by repeat (first | (with_reducible first | exact HB.out | apply below_alloc | apply pw_below_drewN | apply below_drew1 | refine below_set ?_ GE242.out) | exact HB.out)) hb); clear BK242; clear HB; have BK242 := n0_; have HB := n1_; clear n0_ n1_; (try clear hb); (try clear hb2); (try clear hk); (try clear hi); have hcz16_0 : w15.cell? ⟨gb242, 0, none⟩ = some (.int .i64 a0_0) := (blk_cell BK242.out 0).trans rfl; have hcz16_1 : w15.cell? ⟨gb242, 1, none⟩ = some (.int .i64 a0_1) := (blk_cell BK242.out 1).trans rfl; have hcz16_2 : w15.cell? ⟨gb242, 2, none⟩ = some (.int .i64 a0_2) := (blk_cell BK242.out 2).trans rfl; have hcz16_3 : w15.cell? ⟨gb242, 3, none⟩ = some (.slice A0_3 l0_3.length c0_3) := (blk_cell BK242.out 3).trans rfl; have hcz16_4 : w15.cell? ⟨gb242, 4, none⟩ = some (.slice A0_4 l0_4.length c0_4) := (blk_cell BK242.out 4).trans rfl; have hfz16_0 := blk_frozen BK242.out 0; have hfz16_1 := blk_frozen BK242.out 1; have hfz16_2 := blk_frozen BK242.out 2; have hfz16_3 := blk_frozen BK242.out 3; have hfz16_4 := blk_frozen BK242.out 4) | (go_at_call 9; (with_reducible refine (capnpref10_Few.calls k a0_0 a0_1 a0_2 _ _ l0_3 _ _ l0_4 false _ ?side1 ?side2 ?side3 ?side4 A7.out).mono ?_); (case side1 => repeat (first | exact (Kd.C_below HR0_3.out HB.out) | (with_reducible refine Kd.C_alloc ?_ _) | (with_reducible refine Kd.C_drewN ?_ _) | (with_reducible refine Kd.C_drew ?_))); (case side2 => exact HC0_3.out); (case side3 => repeat (first | exact (Kd.C_below HR0_4.out HB.out) | (with_reducible refine Kd.C_alloc ?_ _) | (with_reducible refine Kd.C_drewN ?_ _) | (with_reducible refine Kd.C_drew ?_))); (case side4 => exact HC0_4.out); rintro e w17 ⟨rfl, hb⟩; have n0_ := Aside0.mk (blk_below (g := gb242) (o := .cells #[.int .i64 a0_0, .int .i64 a0_1, .int .i64 a0_2, .slice A0_3 l0_3.length c0_3, .slice A0_4 l0_4.length c0_4] 25 (0, 0)) (by (with_reducible repeat (first | refine blk_drewN ?_ _ | refine blk_drew ?_ | refine blk_alloc ?_ _)); exact BK242.out) hb); have n1_ := Aside0.mk (below_step (by repeat (first | (with_reducible first | exact HB.out | apply below_alloc | apply pw_below_drewN | apply below_drew1 | refine below_set ?_ GE242.out) | exact HB.out)) hb); clear BK242; clear HB; have BK242 := n0_; have HB := n1_; clear n0_ n1_; (try clear hb); (try clear hb2); (try clear hk); (try clear hi)))
    go_meet
    case rel => exact ⟨_, (true), (by first | rfl | (simp; done) | (simp [*]; done)), H', ⟨by first | omega | exact Nat.le_refl _⟩, ⟨by (with_reducible repeat (first | refine blk_drewN ?_ _ | refine blk_drew ?_ | refine blk_alloc ?_ _)); exact BK242.out⟩, ⟨by repeat (first | (with_reducible first | exact HB.out | apply below_alloc | apply pw_below_drewN | apply below_drew1 | refine below_set ?_ GE242.out) | exact HB.out)⟩⟩
  ·replace c6 := Bool.eq_false_iff.mpr c6
   subst c6
   have H1 : (capnplaw10_NodeValidity.j0 k a1 true a0_0 a0_1 a0_2 l0_3 l0_4) = some r := by rw [if_neg (show ¬ (false = true) by decide)] at H; exact H
   clear H
   have H := H1
   clear H1
   have H' := Aside0.mk H
   clear H
   go_wp2_with (first | ((with_reducible refine gate_callee (f := 8) rfl ?_); refine goesL_ (some 7) rfl rfl Tryd.func8 (by kernel_rfl) rfl #[] rfl (by (try simp only [List.map_toArray, List.map_cons, List.map_nil]); first | done | rfl | (simp only [List.length_drop, List.length_take]; rfl)) ?_; (with_reducible refine (capnplaw10_awake.calls  false _ A5.out ?tab).mono ?_); (case tab => exact HTAB.out.below (by repeat (first | (with_reducible first | exact HB.out | apply below_alloc | apply pw_below_drewN | apply below_drew1 | refine below_set ?_ GE242.out) | exact HB.out))); rintro e w18 ⟨rfl, hb⟩; refine ⟨_, rfl, ?_⟩; have n0_ := Aside0.mk (blk_below (g := gb242) (o := .cells #[.int .i64 a0_0, .int .i64 a0_1, .int .i64 a0_2, .slice A0_3 l0_3.length c0_3, .slice A0_4 l0_4.length c0_4] 25 (0, 0)) (by (with_reducible repeat (first | refine blk_drewN ?_ _ | refine blk_drew ?_ | refine blk_alloc ?_ _)); exact BK242.out) hb); have n1_ := Aside0.mk (below_step (by repeat (first | (with_reducible first | exact HB.out | apply below_alloc | apply pw_below_drewN | apply below_drew1 | refine below_set ?_ GE242.out) | exact HB.out)) hb); clear BK242; clear HB; have BK242 := n0_; have HB := n1_; clear n0_ n1_; (try clear hb); (try clear hb2); (try clear hk); (try clear hi)))
   go_meet
   case rel => exact ⟨_, (true), (by first | rfl | (simp; done) | (simp [*]; done)), H', ⟨by first | omega | exact Nat.le_refl _⟩, ⟨by (with_reducible repeat (first | refine blk_drewN ?_ _ | refine blk_drew ?_ | refine blk_alloc ?_ _)); exact BK242.out⟩, ⟨by repeat (first | (with_reducible first | exact HB.out | apply below_alloc | apply pw_below_drewN | apply below_drew1 | refine below_set ?_ GE242.out) | exact HB.out)⟩⟩
 case rest =>
  clear HC3
  try clear p2
  try clear c6
  try clear c8
  try clear hcz11_0
  try clear hcz11_1
  try clear hcz11_2
  try clear hcz11_3
  try clear hcz11_4
  try clear hcz13_0
  try clear hcz13_1
  try clear hcz13_2
  try clear hcz13_3
  try clear hcz13_4
  try clear hcz16_0
  try clear hcz16_1
  try clear hcz16_2
  try clear hcz16_3
  try clear hcz16_4
  try clear hfz11_0
  try clear hfz11_1
  try clear hfz11_2
  try clear hfz11_3
  try clear hfz11_4
  try clear hfz13_0
  try clear hfz13_1
  try clear hfz13_2
  try clear hfz13_3
  try clear hfz13_4
  try clear hfz16_0
  try clear hfz16_1
  try clear hfz16_2
  try clear hfz16_3
  try clear hfz16_4
  obtain ⟨kq, x18_2, rfl, HA, HJ2, BK242, HB⟩ := hcut
  cases kq with
  | zero => exact absurd HA.out (by simp [capnplaw10_NodeValidity.j0])
  | succ kj2 =>
   have H := HA.out
   clear HA
   simp only [capnplaw10_NodeValidity.j0] at H
   by_cases c19 : x18_2 = true
   ·subst c19
    have H1 : ((capnplaw10_awake.f).bind fun t246 => (some t246)) = some r := by rw [if_pos rfl] at H; exact H
    clear H
    have H := H1
    clear H1
    replace H := Option.bind_eq_some_iff.mp H
    obtain ⟨t246, A200, H⟩ := H
    replace H : (some t246) = some r := H
    have A20 := Aside0.mk A200
    clear A200
    obtain rfl := Option.some.inj H
    go_wp2_with (first | ((with_reducible refine gate_callee (f := 8) rfl ?_); refine goesL_ (some 19) rfl rfl Tryd.func8 (by kernel_rfl) rfl #[] rfl (by (try simp only [List.map_toArray, List.map_cons, List.map_nil]); first | done | rfl | (simp only [List.length_drop, List.length_take]; rfl)) ?_; (with_reducible refine (capnplaw10_awake.calls  t246 _ A20.out ?tab).mono ?_); (case tab => exact HTAB.out.below (by repeat (first | (with_reducible first | exact HB.out | apply below_alloc | apply pw_below_drewN | apply below_drew1 | refine below_set ?_ GE242.out) | exact HB.out))); rintro e w21 ⟨rfl, hb⟩; refine ⟨_, rfl, ?_⟩; have n0_ := Aside0.mk (blk_below (g := gb242) (o := .cells #[.int .i64 a0_0, .int .i64 a0_1, .int .i64 a0_2, .slice A0_3 l0_3.length c0_3, .slice A0_4 l0_4.length c0_4] 25 (0, 0)) (by (with_reducible repeat (first | refine blk_drewN ?_ _ | refine blk_drew ?_ | refine blk_alloc ?_ _)); exact BK242.out) hb); have n1_ := Aside0.mk (below_step (by repeat (first | (with_reducible first | exact HB.out | apply below_alloc | apply pw_below_drewN | apply below_drew1 | refine below_set ?_ GE242.out) | exact HB.out)) hb); clear BK242; clear HB; have BK242 := n0_; have HB := n1_; clear n0_ n1_; (try clear hb); (try clear hb2); (try clear hk); (try clear hi)))
    go_ret
    exact ⟨by first | rfl | (simp [errW_none, errW_some] <;> rfl) | (simp [*, errW_none, errW_some] <;> rfl), by repeat (first | (with_reducible first | exact HB.out | apply below_alloc | apply pw_below_drewN | apply below_drew1 | refine below_set ?_ GE242.out) | exact HB.out)⟩
   ·replace c19 := Bool.eq_false_iff.mpr c19
    subst c19
    have H1 : (capnplaw10_NodeValidity.l0 kj2 a1 0 a0_0 a0_1 a0_2 l0_3 l0_4) = some r := by rw [if_neg (show ¬ (false = true) by decide)] at H; exact H
    clear H
    have H := H1
    clear H1
    have H' := Aside0.mk H
    clear H
    go_wp2
    go_loopg [5] kj2 (fun kq v5 w' => ∃ (x5_2 : Int), v5 = .int .i64 x5_2 ∧ Aside0 (capnplaw10_NodeValidity.l0 kq a1 x5_2 a0_0 a0_1 a0_2 l0_3 l0_4 = some r) ∧ Aside0 (kq ≤ kj2) ∧ Aside0 (w'.heap[gb242]? = some (.cells #[.int .i64 a0_0, .int .i64 a0_1, .int .i64 a0_2, (.slice A0_3 l0_3.length c0_3), (.slice A0_4 l0_4.length c0_4)] 25 (0, 0))) ∧ Aside0 (Below w.heap.size w w'))
    case atStart => exact ⟨(0), (by first | rfl | (simp; done) | (simp [*]; done)), H', ⟨Nat.le_refl _⟩, ⟨by (with_reducible repeat (first | refine blk_drewN ?_ _ | refine blk_drew ?_ | refine blk_alloc ?_ _)); exact BK242.out⟩, ⟨by repeat (first | (with_reducible first | exact HB.out | apply below_alloc | apply pw_below_drewN | apply below_drew1 | refine below_set ?_ GE242.out) | exact HB.out)⟩⟩
    case round =>
     clear H'
     try clear c1
     try clear p2
     try clear c6
     try clear c8
     try clear c19
     try clear hcz11_0
     try clear hcz11_1
     try clear hcz11_2
     try clear hcz11_3
     try clear hcz11_4
     try clear hcz13_0
     try clear hcz13_1
     try clear hcz13_2
     try clear hcz13_3
     try clear hcz13_4
     try clear hcz16_0
     try clear hcz16_1
     try clear hcz16_2
     try clear hcz16_3
     try clear hcz16_4
     try clear hfz11_0
     try clear hfz11_1
     try clear hfz11_2
     try clear hfz11_3
     try clear hfz11_4
     try clear hfz13_0
     try clear hfz13_1
     try clear hfz13_2
     try clear hfz13_3
     try clear hfz13_4
     try clear hfz16_0
     try clear hfz16_1
     try clear hfz16_2
     try clear hfz16_3
     try clear hfz16_4
     try clear p2
     try clear BK242
     obtain ⟨x5_2, rfl, HA, HK2, BK242, HB⟩ := hrel
     cases gk with
     | zero => exact absurd HA.out (by simp [capnplaw10_NodeValidity.l0])
     | succ k2 =>
      have H := HA.out
      clear HA
      simp only [capnplaw10_NodeValidity.l0] at H
      by_cases c22 : x5_2 < (l0_4.length : Int)
      ·rw [if_pos c22] at H
       have c22b0 : decide (x5_2 < (l0_4.length : Int)) = true := decide_eq_true c22
       clear c22
       by_cases c23 : 0 ≤ x5_2
       ·rw [if_pos c23] at H
        have c23b0 : decide (0 ≤ x5_2) = true := decide_eq_true c23
        clear c23
        replace H := Option.bind_eq_some_iff.mp H
        obtain ⟨t248, A240, H⟩ := H
        replace H : (if t248 = true then (capnplaw10_NodeValidity.l0 k2 a1 (wrap64 (x5_2 + 1)) a0_0 a0_1 a0_2 l0_3 l0_4) else (none)) = some r := H
        have A24 := Aside0.mk A240
        clear A240
        by_cases c25 : t248 = true
        ·subst c25
         have H1 : (capnplaw10_NodeValidity.l0 k2 a1 (wrap64 (x5_2 + 1)) a0_0 a0_1 a0_2 l0_3 l0_4) = some r := by rw [if_pos rfl] at H; exact H
         clear H
         have H := H1
         clear H1
         have H' := Aside0.mk H
         clear H
         have hcz26_0 : wr.cell? ⟨gb242, 0, none⟩ = some (.int .i64 a0_0) := (blk_cell BK242.out 0).trans rfl
         have hcz26_1 : wr.cell? ⟨gb242, 1, none⟩ = some (.int .i64 a0_1) := (blk_cell BK242.out 1).trans rfl
         have hcz26_2 : wr.cell? ⟨gb242, 2, none⟩ = some (.int .i64 a0_2) := (blk_cell BK242.out 2).trans rfl
         have hcz26_3 : wr.cell? ⟨gb242, 3, none⟩ = some (.slice A0_3 l0_3.length c0_3) := (blk_cell BK242.out 3).trans rfl
         have hcz26_4 : wr.cell? ⟨gb242, 4, none⟩ = some (.slice A0_4 l0_4.length c0_4) := (blk_cell BK242.out 4).trans rfl
         have hfz26_0 := blk_frozen BK242.out 0
         have hfz26_1 := blk_frozen BK242.out 1
         have hfz26_2 := blk_frozen BK242.out 2
         have hfz26_3 := blk_frozen BK242.out 3
         have hfz26_4 := blk_frozen BK242.out 4
         have p247 : 0 ≤ (x5_2 : Int) := of_decide_eq_true (by first | (with_reducible assumption) | assumption)
         have q247 : x5_2 < (l0_4.length : Int) := of_decide_eq_true (by first | (with_reducible assumption) | assumption)
         obtain ⟨ad247, A247_3, c247_3, A247_4, c247_4, e247, hx247_0, hx247_1, hx247_2, hx247_3, hx247_4, hl247_3, hi247_3, hl247_4, hi247_4⟩ := at_T25 HR0_4.out x5_2 p247 q247
         cases e247
         replace hx247_0 := (HB.out.cell (World.block_lt_of_cell? w _ hx247_0)).trans hx247_0
         replace hx247_1 := (HB.out.cell (World.block_lt_of_cell? w _ hx247_1)).trans hx247_1
         replace hx247_2 := (HB.out.cell (World.block_lt_of_cell? w _ hx247_2)).trans hx247_2
         replace hx247_3 := (HB.out.cell (World.block_lt_of_cell? w _ hx247_3)).trans hx247_3
         replace hx247_4 := (HB.out.cell (World.block_lt_of_cell? w _ hx247_4)).trans hx247_4
         have HR247_3 := Aside0.mk hi247_3
         have HC247_3 := Aside0.mk hl247_3
         clear hi247_3 hl247_3
         have HR247_4 := Aside0.mk hi247_4
         have HC247_4 := Aside0.mk hl247_4
         clear hi247_4 hl247_4
         replace p247 := eq_true p247
         replace q247 := eq_true q247
         go_wp2_with (first | ((with_reducible refine gate_callee (f := 10) rfl ?_); refine goesL_ (some 32) rfl rfl Tryd.func10 (by kernel_rfl) rfl #[.agg #[.int .i64 ((rd_T25 l0_4 x5_2).f0), .int .i64 ((rd_T25 l0_4 x5_2).f1), .int .i64 ((rd_T25 l0_4 x5_2).f2), .slice A247_3 ((rd_T25 l0_4 x5_2).f3).length c247_3, .slice A247_4 ((rd_T25 l0_4 x5_2).f4).length c247_4]] rfl (by (try simp only [List.map_toArray, List.map_cons, List.map_nil]); first | done | rfl | (simp only [List.length_drop, List.length_take]; rfl)) ?_; (with_reducible refine (node_Valid.calls k2 ((rd_T25 l0_4 x5_2).f0) ((rd_T25 l0_4 x5_2).f1) ((rd_T25 l0_4 x5_2).f2) _ _ ((rd_T25 l0_4 x5_2).f3) _ _ ((rd_T25 l0_4 x5_2).f4) true _ ?side1 ?side2 ?side3 ?side4 A24.out ?tab).mono ?_); (case tab => exact HTAB.out.below (by repeat (first | (with_reducible first | exact HB.out | apply below_alloc | apply pw_below_drewN | apply below_drew1 | refine below_set ?_ GE242.out) | exact HB.out))); (case side1 => repeat (first | exact (Kd.C_below HR247_3.out HB.out) | (with_reducible refine Kd.C_alloc ?_ _) | (with_reducible refine Kd.C_drewN ?_ _) | (with_reducible refine Kd.C_drew ?_))); (case side2 => exact HC247_3.out); (case side3 => repeat (first | exact (Kd.C_below HR247_4.out HB.out) | (with_reducible refine Kd.C_alloc ?_ _) | (with_reducible refine Kd.C_drewN ?_ _) | (with_reducible refine Kd.C_drew ?_))); (case side4 => exact HC247_4.out); rintro e w27 ⟨rfl, hb⟩; refine ⟨_, rfl, ?_⟩; have n0_ := Aside0.mk (blk_below (g := gb242) (o := .cells #[.int .i64 a0_0, .int .i64 a0_1, .int .i64 a0_2, .slice A0_3 l0_3.length c0_3, .slice (some ad247) l0_4.length c0_4] 25 (0, 0)) (by (with_reducible repeat (first | refine blk_drewN ?_ _ | refine blk_drew ?_ | refine blk_alloc ?_ _)); exact BK242.out) hb); have n1_ := Aside0.mk (below_step (by repeat (first | (with_reducible first | exact HB.out | apply below_alloc | apply pw_below_drewN | apply below_drew1 | refine below_set ?_ GE242.out) | exact HB.out)) hb); clear BK242; clear HB; have BK242 := n0_; have HB := n1_; clear n0_ n1_; (try clear hb); (try clear hb2); (try clear hk); (try clear hi)))
         go_roundg k2
         case measure => have := HJ2.out; have := HK2.out; omega
         case rel => exact ⟨(wrap64 (x5_2 + 1)), (by first | rfl | (simp; done) | (simp [*]; done)), H', ⟨by have := HJ2.out; have := HK2.out; omega⟩, ⟨by (with_reducible repeat (first | refine blk_drewN ?_ _ | refine blk_drew ?_ | refine blk_alloc ?_ _)); exact BK242.out⟩, ⟨by repeat (first | (with_reducible first | exact HB.out | apply below_alloc | apply pw_below_drewN | apply below_drew1 | refine below_set ?_ GE242.out) | exact HB.out)⟩⟩
        ·replace c25 := Bool.eq_false_iff.mpr c25
         subst c25
         have H1 : (none) = some r := by rw [if_neg (show ¬ (false = true) by decide)] at H; exact H
         clear H
         have H := H1
         clear H1
         exact absurd H (by simp)
       ·rw [if_neg c23] at H
        exact absurd H (by simp)
      ·rw [if_neg c22] at H
       have c22b0 : decide (x5_2 < (l0_4.length : Int)) = false := decide_eq_false c22
       clear c22
       have HC28 := Aside0.mk H
       clear H
       have hcz29_0 : wr.cell? ⟨gb242, 0, none⟩ = some (.int .i64 a0_0) := (blk_cell BK242.out 0).trans rfl
       have hcz29_1 : wr.cell? ⟨gb242, 1, none⟩ = some (.int .i64 a0_1) := (blk_cell BK242.out 1).trans rfl
       have hcz29_2 : wr.cell? ⟨gb242, 2, none⟩ = some (.int .i64 a0_2) := (blk_cell BK242.out 2).trans rfl
       have hcz29_3 : wr.cell? ⟨gb242, 3, none⟩ = some (.slice A0_3 l0_3.length c0_3) := (blk_cell BK242.out 3).trans rfl
       have hcz29_4 : wr.cell? ⟨gb242, 4, none⟩ = some (.slice A0_4 l0_4.length c0_4) := (blk_cell BK242.out 4).trans rfl
       have hfz29_0 := blk_frozen BK242.out 0
       have hfz29_1 := blk_frozen BK242.out 1
       have hfz29_2 := blk_frozen BK242.out 2
       have hfz29_3 := blk_frozen BK242.out 3
       have hfz29_4 := blk_frozen BK242.out 4
       go_upto_region 8 with (fail)
       go_cut [41] (fun v41 wc => ∃ (kq : Nat) (x41_27 : Bool), v41 = .bool x41_27 ∧ Aside0 (capnplaw10_NodeValidity.j2 kq a1 x41_27 a0_0 a0_1 a0_2 l0_3 l0_4 = some r) ∧ Aside0 (kq ≤ k2) ∧ Aside0 (wc.heap[gb242]? = some (.cells #[.int .i64 a0_0, .int .i64 a0_1, .int .i64 a0_2, (.slice A0_3 l0_3.length c0_3), (.slice A0_4 l0_4.length c0_4)] 25 (0, 0))) ∧ Aside0 (Below w.heap.size w wc))
       case first =>
        have H := HC28.out
        clear HC28
        by_cases c30 : a0_0 = 2
        ·rw [if_pos c30] at H
         have c30b0 : (a0_0 == 2) = true := beq_iff_eq.mpr c30
         have c30b1 : (a0_0 != 2) = false := bne_eq_false_iff_eq.mpr c30
         clear c30
         (first | rw [c30b0] | (simp only [i64_w, i32_w]; rw [c30b0]) | skip)
         have H' := Aside0.mk H
         clear H
         have hcz31_0 : wr.cell? ⟨gb242, 0, none⟩ = some (.int .i64 a0_0) := (blk_cell BK242.out 0).trans rfl
         have hcz31_1 : wr.cell? ⟨gb242, 1, none⟩ = some (.int .i64 a0_1) := (blk_cell BK242.out 1).trans rfl
         have hcz31_2 : wr.cell? ⟨gb242, 2, none⟩ = some (.int .i64 a0_2) := (blk_cell BK242.out 2).trans rfl
         have hcz31_3 : wr.cell? ⟨gb242, 3, none⟩ = some (.slice A0_3 l0_3.length c0_3) := (blk_cell BK242.out 3).trans rfl
         have hcz31_4 : wr.cell? ⟨gb242, 4, none⟩ = some (.slice A0_4 l0_4.length c0_4) := (blk_cell BK242.out 4).trans rfl
         have hfz31_0 := blk_frozen BK242.out 0
         have hfz31_1 := blk_frozen BK242.out 1
         have hfz31_2 := blk_frozen BK242.out 2
         have hfz31_3 := blk_frozen BK242.out 3
         have hfz31_4 := blk_frozen BK242.out 4
         go_wp2
         go_meet
         case rel => exact ⟨_, (decide (a0_1 < 2)), (by first | rfl | (simp; done) | (simp [*]; done)), H', ⟨by have := HJ2.out; have := HK2.out; first | omega | exact Nat.le_refl _⟩, ⟨by (with_reducible repeat (first | refine blk_drewN ?_ _ | refine blk_drew ?_ | refine blk_alloc ?_ _)); exact BK242.out⟩, ⟨by repeat (first | (with_reducible first | exact HB.out | apply below_alloc | apply pw_below_drewN | apply below_drew1 | refine below_set ?_ GE242.out) | exact HB.out)⟩⟩
        ·rw [if_neg c30] at H
         have c30b0 : (a0_0 == 2) = false := beq_eq_false_iff_ne.mpr c30
         have c30b1 : (a0_0 != 2) = true := bne_iff_ne.mpr c30
         (first | rw [c30b0] | (simp only [i64_w, i32_w]; rw [c30b0]) | skip)
         have H' := Aside0.mk H
         clear H
         have hcz32_0 : wr.cell? ⟨gb242, 0, none⟩ = some (.int .i64 a0_0) := (blk_cell BK242.out 0).trans rfl
         have hcz32_1 : wr.cell? ⟨gb242, 1, none⟩ = some (.int .i64 a0_1) := (blk_cell BK242.out 1).trans rfl
         have hcz32_2 : wr.cell? ⟨gb242, 2, none⟩ = some (.int .i64 a0_2) := (blk_cell BK242.out 2).trans rfl
         have hcz32_3 : wr.cell? ⟨gb242, 3, none⟩ = some (.slice A0_3 l0_3.length c0_3) := (blk_cell BK242.out 3).trans rfl
         have hcz32_4 : wr.cell? ⟨gb242, 4, none⟩ = some (.slice A0_4 l0_4.length c0_4) := (blk_cell BK242.out 4).trans rfl
         have hfz32_0 := blk_frozen BK242.out 0
         have hfz32_1 := blk_frozen BK242.out 1
         have hfz32_2 := blk_frozen BK242.out 2
         have hfz32_3 := blk_frozen BK242.out 3
         have hfz32_4 := blk_frozen BK242.out 4
         go_wp2
         go_meet
         case rel => exact ⟨_, (true), (by first | rfl | (simp; done) | (simp [*]; done)), H', ⟨by have := HJ2.out; have := HK2.out; first | omega | exact Nat.le_refl _⟩, ⟨by (with_reducible repeat (first | refine blk_drewN ?_ _ | refine blk_drew ?_ | refine blk_alloc ?_ _)); exact BK242.out⟩, ⟨by repeat (first | (with_reducible first | exact HB.out | apply below_alloc | apply pw_below_drewN | apply below_drew1 | refine below_set ?_ GE242.out) | exact HB.out)⟩⟩
       case rest =>
        clear HC28
        try clear c1
        try clear c2
        try clear p2
        try clear q2
        try clear hx2
        try clear c3
        try clear c6
        try clear p6
        try clear c8
        try clear c10
        try clear c19
        try clear c22
        try clear c22b0
        try clear c23
        try clear c23b0
        try clear c24
        try clear p24
        try clear q24
        try clear hx24
        try clear c25
        try clear c30
        try clear c30b0
        try clear c30b1
        try clear hcz11_0
        try clear hcz11_1
        try clear hcz11_2
        try clear hcz11_3
        try clear hcz11_4
        try clear hcz13_0
        try clear hcz13_1
        try clear hcz13_2
        try clear hcz13_3
        try clear hcz13_4
        try clear hcz16_0
        try clear hcz16_1
        try clear hcz16_2
        try clear hcz16_3
        try clear hcz16_4
        try clear hcz26_0
        try clear hcz26_1
        try clear hcz26_2
        try clear hcz26_3
        try clear hcz26_4
        try clear hcz29_0
        try clear hcz29_1
        try clear hcz29_2
        try clear hcz29_3
        try clear hcz29_4
        try clear hcz31_0
        try clear hcz31_1
        try clear hcz31_2
        try clear hcz31_3
        try clear hcz31_4
        try clear hcz32_0
        try clear hcz32_1
        try clear hcz32_2
        try clear hcz32_3
        try clear hcz32_4
        try clear hfz11_0
        try clear hfz11_1
        try clear hfz11_2
        try clear hfz11_3
        try clear hfz11_4
        try clear hfz13_0
        try clear hfz13_1
        try clear hfz13_2
        try clear hfz13_3
        try clear hfz13_4
        try clear hfz16_0
        try clear hfz16_1
        try clear hfz16_2
        try clear hfz16_3
        try clear hfz16_4
        try clear hfz26_0
        try clear hfz26_1
        try clear hfz26_2
        try clear hfz26_3
        try clear hfz26_4
        try clear hfz29_0
        try clear hfz29_1
        try clear hfz29_2
        try clear hfz29_3
        try clear hfz29_4
        try clear hfz31_0
        try clear hfz31_1
        try clear hfz31_2
        try clear hfz31_3
        try clear hfz31_4
        try clear hfz32_0
        try clear hfz32_1
        try clear hfz32_2
        try clear hfz32_3
        try clear hfz32_4
        try clear hx247_0
        try clear hx247_1
        try clear hx247_2
        try clear hx247_3
        try clear hx247_4
        try clear p2
        try clear p247
        try clear q247
        obtain ⟨kq, x41_27, rfl, HA, HJ27, BK242, HB⟩ := hcut
        cases kq with
        | zero => exact absurd HA.out (by simp [capnplaw10_NodeValidity.j2])
        | succ kj27 =>
         have H := HA.out
         clear HA
         simp only [capnplaw10_NodeValidity.j2] at H
         by_cases c33 : x41_27 = true
         ·subst c33
          have H1 : ((node_Valid.f kj27 a0_0 a0_1 a0_2 l0_3 l0_4).bind fun t249 => (some t249)) = some r := by rw [if_pos rfl] at H; exact H
          clear H
          have H := H1
          clear H1
          replace H := Option.bind_eq_some_iff.mp H
          obtain ⟨t249, A340, H⟩ := H
          replace H : (some t249) = some r := H
          have A34 := Aside0.mk A340
          clear A340
          obtain rfl := Option.some.inj H
          have hcz35_0 : wc.cell? ⟨gb242, 0, none⟩ = some (.int .i64 a0_0) := (blk_cell BK242.out 0).trans rfl
          have hcz35_1 : wc.cell? ⟨gb242, 1, none⟩ = some (.int .i64 a0_1) := (blk_cell BK242.out 1).trans rfl
          have hcz35_2 : wc.cell? ⟨gb242, 2, none⟩ = some (.int .i64 a0_2) := (blk_cell BK242.out 2).trans rfl
          have hcz35_3 : wc.cell? ⟨gb242, 3, none⟩ = some (.slice A0_3 l0_3.length c0_3) := (blk_cell BK242.out 3).trans rfl
          have hcz35_4 : wc.cell? ⟨gb242, 4, none⟩ = some (.slice A0_4 l0_4.length c0_4) := (blk_cell BK242.out 4).trans rfl
          have hfz35_0 := blk_frozen BK242.out 0
          have hfz35_1 := blk_frozen BK242.out 1
          have hfz35_2 := blk_frozen BK242.out 2
          have hfz35_3 := blk_frozen BK242.out 3
          have hfz35_4 := blk_frozen BK242.out 4
          go_wp2_with (first | ((with_reducible refine gate_callee (f := 10) rfl ?_); refine goesL_ (some 43) rfl rfl Tryd.func10 (by kernel_rfl) rfl #[.agg #[.int .i64 a0_0, .int .i64 a0_1, .int .i64 a0_2, .slice A0_3 l0_3.length c0_3, .slice A0_4 l0_4.length c0_4]] rfl (by (try simp only [List.map_toArray, List.map_cons, List.map_nil]); first | done | rfl | (simp only [List.length_drop, List.length_take]; rfl)) ?_; (with_reducible refine (node_Valid.calls kj27 a0_0 a0_1 a0_2 _ _ l0_3 _ _ l0_4 t249 _ ?side1 ?side2 ?side3 ?side4 A34.out ?tab).mono ?_); (case tab => exact HTAB.out.below (by repeat (first | (with_reducible first | exact HB.out | apply below_alloc | apply pw_below_drewN | apply below_drew1 | refine below_set ?_ GE242.out) | exact HB.out))); (case side1 => repeat (first | exact (Kd.C_below HR0_3.out HB.out) | (with_reducible refine Kd.C_alloc ?_ _) | (with_reducible refine Kd.C_drewN ?_ _) | (with_reducible refine Kd.C_drew ?_))); (case side2 => exact HC0_3.out); (case side3 => repeat (first | exact (Kd.C_below HR0_4.out HB.out) | (with_reducible refine Kd.C_alloc ?_ _) | (with_reducible refine Kd.C_drewN ?_ _) | (with_reducible refine Kd.C_drew ?_))); (case side4 => exact HC0_4.out); rintro e w36 ⟨rfl, hb⟩; refine ⟨_, rfl, ?_⟩; have n0_ := Aside0.mk (blk_below (g := gb242) (o := .cells #[.int .i64 a0_0, .int .i64 a0_1, .int .i64 a0_2, .slice A0_3 l0_3.length c0_3, .slice A0_4 l0_4.length c0_4] 25 (0, 0)) (by (with_reducible repeat (first | refine blk_drewN ?_ _ | refine blk_drew ?_ | refine blk_alloc ?_ _)); exact BK242.out) hb); have n1_ := Aside0.mk (below_step (by repeat (first | (with_reducible first | exact HB.out | apply below_alloc | apply pw_below_drewN | apply below_drew1 | refine below_set ?_ GE242.out) | exact HB.out)) hb); clear BK242; clear HB; have BK242 := n0_; have HB := n1_; clear n0_ n1_; (try clear hb); (try clear hb2); (try clear hk); (try clear hi)))
          go_ret
          exact ⟨by first | rfl | (simp [errW_none, errW_some] <;> rfl) | (simp [*, errW_none, errW_some] <;> rfl), by repeat (first | (with_reducible first | exact HB.out | apply below_alloc | apply pw_below_drewN | apply below_drew1 | refine below_set ?_ GE242.out) | exact HB.out)⟩
         ·replace c33 := Bool.eq_false_iff.mpr c33
          subst c33
          have H1 : ((node_Valid.f kj27 a0_0 a0_1 a1 l0_3 l0_4).bind fun t251 => (some (t251 == (a1 == a0_2)))) = some r := by rw [if_neg (show ¬ (false = true) by decide)] at H; exact H
          clear H
          have H := H1
          clear H1
          replace H := Option.bind_eq_some_iff.mp H
          obtain ⟨t251, A370, H⟩ := H
          replace H : (some (t251 == (a1 == a0_2))) = some r := H
          have A37 := Aside0.mk A370
          clear A370
          obtain rfl := Option.some.inj H
          have hcz38_0 : wc.cell? ⟨gb242, 0, none⟩ = some (.int .i64 a0_0) := (blk_cell BK242.out 0).trans rfl
          have hcz38_1 : wc.cell? ⟨gb242, 1, none⟩ = some (.int .i64 a0_1) := (blk_cell BK242.out 1).trans rfl
          have hcz38_2 : wc.cell? ⟨gb242, 2, none⟩ = some (.int .i64 a0_2) := (blk_cell BK242.out 2).trans rfl
          have hcz38_3 : wc.cell? ⟨gb242, 3, none⟩ = some (.slice A0_3 l0_3.length c0_3) := (blk_cell BK242.out 3).trans rfl
          have hcz38_4 : wc.cell? ⟨gb242, 4, none⟩ = some (.slice A0_4 l0_4.length c0_4) := (blk_cell BK242.out 4).trans rfl
          have hfz38_0 := blk_frozen BK242.out 0
          have hfz38_1 := blk_frozen BK242.out 1
          have hfz38_2 := blk_frozen BK242.out 2
          have hfz38_3 := blk_frozen BK242.out 3
          have hfz38_4 := blk_frozen BK242.out 4
          try go_wp2_with (first | ((with_reducible refine gate_dst (N := 6) rfl ?_); refine box_event ?hg (N := 6) ?hd (cs := #[.int .i64 0, .int .i64 0, .int .i64 0, .slice none 0 0, .slice none 0 0]) (t := 25) ?hr ?_; (case hd => rfl); (case hg => rfl); (case hr => first | (go_simp; done) | (go_simp; rfl)); intro gb250 hg w39 hbox hb; have n0_ := Aside0.mk (blk_below (g := gb242) (o := .cells #[.int .i64 a0_0, .int .i64 a0_1, .int .i64 a0_2, .slice A0_3 l0_3.length c0_3, .slice A0_4 l0_4.length c0_4] 25 (0, 0)) (by (with_reducible repeat (first | refine blk_drewN ?_ _ | refine blk_drew ?_ | refine blk_alloc ?_ _)); exact BK242.out) hb); have n1_ := Aside0.mk (below_step (by repeat (first | (with_reducible first | exact HB.out | apply below_alloc | apply pw_below_drewN | apply below_drew1 | refine below_set ?_ GE242.out) | exact HB.out)) hb); have n2_ := Aside0.mk (hbox); have n3_ := Aside0.mk ((by rw [hg]; exact (below_size (by repeat (first | (with_reducible first | exact HB.out | apply below_alloc | apply pw_below_drewN | apply below_drew1 | refine below_set ?_ GE242.out) | exact HB.out))) : w.heap.size ≤ gb250)); have n4_ := Aside0.mk ((by rw [hg]; exact (below_size (by repeat (first | (with_reducible first | exact HB.out | apply below_alloc | apply pw_below_drewN | apply below_drew1 | refine below_set ?_ GE242.out) | exact HB.out))) : w.heap.size ≤ gb250)); have n5_ := Aside0.mk ((by rw [hg]; exact Nat.ne_of_lt (blk_lt (g := gb242) (o := .cells #[.int .i64 a0_0, .int .i64 a0_1, .int .i64 a0_2, .slice A0_3 l0_3.length c0_3, .slice A0_4 l0_4.length c0_4] 25 (0, 0)) (by (with_reducible repeat (first | refine blk_drewN ?_ _ | refine blk_drew ?_ | refine blk_alloc ?_ _)); exact BK242.out)) : gb242 ≠ gb250)); have n6_ := Aside0.mk ((by rw [hg]; exact Nat.ne_of_gt (blk_lt (g := gb242) (o := .cells #[.int .i64 a0_0, .int .i64 a0_1, .int .i64 a0_2, .slice A0_3 l0_3.length c0_3, .slice A0_4 l0_4.length c0_4] 25 (0, 0)) (by (with_reducible repeat (first | refine blk_drewN ?_ _ | refine blk_drew ?_ | refine blk_alloc ?_ _)); exact BK242.out)) : gb250 ≠ gb242)); clear BK242; clear HB; have BK242 := n0_; have HB := n1_; have BK250 := n2_; have GW250 := n3_; have GE250 := n4_; have NB242_250 := n5_; have NB250_242 := n6_; clear n0_ n1_ n2_ n3_ n4_ n5_ n6_; clear hb hbox hg; have hnb40 := NB250_242.out; have hnc40 := NB242_250.out; have hcz41_0 : w39.cell? ⟨gb250, 0, none⟩ = some (.int .i64 0) := (blk_cell BK250.out 0).trans rfl; have hcz41_1 : w39.cell? ⟨gb250, 1, none⟩ = some (.int .i64 0) := (blk_cell BK250.out 1).trans rfl; have hcz41_2 : w39.cell? ⟨gb250, 2, none⟩ = some (.int .i64 0) := (blk_cell BK250.out 2).trans rfl; have hcz41_3 : w39.cell? ⟨gb250, 3, none⟩ = some (.slice none 0 0) := (blk_cell BK250.out 3).trans rfl; have hcz41_4 : w39.cell? ⟨gb250, 4, none⟩ = some (.slice none 0 0) := (blk_cell BK250.out 4).trans rfl; have hfz41_0 := blk_frozen BK250.out 0; have hfz41_1 := blk_frozen BK250.out 1; have hfz41_2 := blk_frozen BK250.out 2; have hfz41_3 := blk_frozen BK250.out 3; have hfz41_4 := blk_frozen BK250.out 4))
          have n0_ : Aside0 (((((((w39.setCell ⟨gb250, 0, none⟩ (.int .i64 a0_0)).setCell ⟨gb250, 1, none⟩ (.int .i64 a0_1)).setCell ⟨gb250, 2, none⟩ (.int .i64 a0_2)).setCell ⟨gb250, 3, none⟩ (.slice A0_3 l0_3.length c0_3)).setCell ⟨gb250, 4, none⟩ (.slice A0_4 l0_4.length c0_4)).setCell ⟨gb250, 2, none⟩ (.int .i64 a1)).heap[gb242]? = some (.cells #[.int .i64 a0_0, .int .i64 a0_1, .int .i64 a0_2, .slice A0_3 l0_3.length c0_3, .slice A0_4 l0_4.length c0_4] 25 (0, 0))) := ⟨by (with_reducible repeat (first | refine blk_drewN ?_ _ | refine blk_drew ?_ | refine blk_alloc ?_ _)); refine blk_far ?_ NB242_250.out _; (with_reducible repeat (first | refine blk_drewN ?_ _ | refine blk_drew ?_ | refine blk_alloc ?_ _)); refine blk_far ?_ NB242_250.out _; (with_reducible repeat (first | refine blk_drewN ?_ _ | refine blk_drew ?_ | refine blk_alloc ?_ _)); refine blk_far ?_ NB242_250.out _; (with_reducible repeat (first | refine blk_drewN ?_ _ | refine blk_drew ?_ | refine blk_alloc ?_ _)); refine blk_far ?_ NB242_250.out _; (with_reducible repeat (first | refine blk_drewN ?_ _ | refine blk_drew ?_ | refine blk_alloc ?_ _)); refine blk_far ?_ NB242_250.out _; (with_reducible repeat (first | refine blk_drewN ?_ _ | refine blk_drew ?_ | refine blk_alloc ?_ _)); refine blk_far ?_ NB242_250.out _; (with_reducible repeat (first | refine blk_drewN ?_ _ | refine blk_drew ?_ | refine blk_alloc ?_ _)); exact BK242.out⟩
          have n1_ : Aside0 (((((((w39.setCell ⟨gb250, 0, none⟩ (.int .i64 a0_0)).setCell ⟨gb250, 1, none⟩ (.int .i64 a0_1)).setCell ⟨gb250, 2, none⟩ (.int .i64 a0_2)).setCell ⟨gb250, 3, none⟩ (.slice A0_3 l0_3.length c0_3)).setCell ⟨gb250, 4, none⟩ (.slice A0_4 l0_4.length c0_4)).setCell ⟨gb250, 2, none⟩ (.int .i64 a1)).heap[gb250]? = some (.cells #[.int .i64 a0_0, .int .i64 a0_1, .int .i64 a1, .slice A0_3 l0_3.length c0_3, .slice A0_4 l0_4.length c0_4] 25 (0, 0))) := ⟨by (with_reducible repeat (first | refine blk_drewN ?_ _ | refine blk_drew ?_ | refine blk_alloc ?_ _)); refine blk_put (cs := #[.int .i64 a0_0, .int .i64 a0_1, .int .i64 a0_2, .slice A0_3 l0_3.length c0_3, .slice A0_4 l0_4.length c0_4]) ?_ 2 _ rfl; (with_reducible repeat (first | refine blk_drewN ?_ _ | refine blk_drew ?_ | refine blk_alloc ?_ _)); refine blk_put (cs := #[.int .i64 a0_0, .int .i64 a0_1, .int .i64 a0_2, .slice A0_3 l0_3.length c0_3, .slice none 0 0]) ?_ 4 _ rfl; (with_reducible repeat (first | refine blk_drewN ?_ _ | refine blk_drew ?_ | refine blk_alloc ?_ _)); refine blk_put (cs := #[.int .i64 a0_0, .int .i64 a0_1, .int .i64 a0_2, .slice none 0 0, .slice none 0 0]) ?_ 3 _ rfl; (with_reducible repeat (first | refine blk_drewN ?_ _ | refine blk_drew ?_ | refine blk_alloc ?_ _)); refine blk_put (cs := #[.int .i64 a0_0, .int .i64 a0_1, .int .i64 0, .slice none 0 0, .slice none 0 0]) ?_ 2 _ rfl; (with_reducible repeat (first | refine blk_drewN ?_ _ | refine blk_drew ?_ | refine blk_alloc ?_ _)); refine blk_put (cs := #[.int .i64 a0_0, .int .i64 0, .int .i64 0, .slice none 0 0, .slice none 0 0]) ?_ 1 _ rfl; (with_reducible repeat (first | refine blk_drewN ?_ _ | refine blk_drew ?_ | refine blk_alloc ?_ _)); refine blk_put (cs := #[.int .i64 0, .int .i64 0, .int .i64 0, .slice none 0 0, .slice none 0 0]) ?_ 0 _ rfl; (with_reducible repeat (first | refine blk_drewN ?_ _ | refine blk_drew ?_ | refine blk_alloc ?_ _)); exact BK250.out⟩
          have n2_ : Aside0 (Below w.heap.size w ((((((w39.setCell ⟨gb250, 0, none⟩ (.int .i64 a0_0)).setCell ⟨gb250, 1, none⟩ (.int .i64 a0_1)).setCell ⟨gb250, 2, none⟩ (.int .i64 a0_2)).setCell ⟨gb250, 3, none⟩ (.slice A0_3 l0_3.length c0_3)).setCell ⟨gb250, 4, none⟩ (.slice A0_4 l0_4.length c0_4)).setCell ⟨gb250, 2, none⟩ (.int .i64 a1))) := ⟨by repeat (first | (with_reducible first | exact HB.out | apply below_alloc | apply pw_below_drewN | apply below_drew1 | refine below_set ?_ GE242.out | refine below_set ?_ GE250.out) | exact HB.out)⟩
          (try clear BK242)
          (try clear BK250)
          (try clear HB)
          generalize ((((((w39.setCell ⟨gb250, 0, none⟩ (.int .i64 a0_0)).setCell ⟨gb250, 1, none⟩ (.int .i64 a0_1)).setCell ⟨gb250, 2, none⟩ (.int .i64 a0_2)).setCell ⟨gb250, 3, none⟩ (.slice A0_3 l0_3.length c0_3)).setCell ⟨gb250, 4, none⟩ (.slice A0_4 l0_4.length c0_4)).setCell ⟨gb250, 2, none⟩ (.int .i64 a1)) = w42 at n0_ n1_ n2_ ⊢
          have BK242 := n0_
          have BK250 := n1_
          have HB := n2_
          clear n0_ n1_ n2_
          have n0_ := Aside0.mk (blk_drew BK242.out)
          have n1_ := Aside0.mk (blk_drew BK250.out)
          have n2_ := Aside0.mk (below_drew1 HB.out)
          clear BK242
          clear BK250
          clear HB
          have BK242 := n0_
          have BK250 := n1_
          have HB := n2_
          clear n0_ n1_ n2_
          refine start_ (n := 8) (S := fun w' => w'.cell? ⟨gb250, 0, none⟩ = some (.int .i64 a0_0) ∧ w'.cell? ⟨gb250, 1, none⟩ = some (.int .i64 a0_1) ∧ w'.cell? ⟨gb250, 2, none⟩ = some (.int .i64 a1) ∧ w'.cell? ⟨gb250, 3, none⟩ = some (.slice A0_3 l0_3.length c0_3) ∧ w'.cell? ⟨gb250, 4, none⟩ = some (.slice A0_4 l0_4.length c0_4) ∧ w'.cell? ⟨gb242, 0, none⟩ = some (.int .i64 a0_0) ∧ w'.cell? ⟨gb242, 1, none⟩ = some (.int .i64 a0_1) ∧ w'.cell? ⟨gb242, 2, none⟩ = some (.int .i64 a0_2) ∧ w'.cell? ⟨gb242, 3, none⟩ = some (.slice A0_3 l0_3.length c0_3) ∧ w'.cell? ⟨gb242, 4, none⟩ = some (.slice A0_4 l0_4.length c0_4)) (ds := []) #[false, false, false, false, false, false, false, false] (by kernel_rfl) rfl rfl ⟨(blk_cell BK250.out 0).trans rfl, (blk_cell BK250.out 1).trans rfl, (blk_cell BK250.out 2).trans rfl, (blk_cell BK250.out 3).trans rfl, (blk_cell BK250.out 4).trans rfl, (blk_cell BK242.out 0).trans rfl, (blk_cell BK242.out 1).trans rfl, (blk_cell BK242.out 2).trans rfl, (blk_cell BK242.out 3).trans rfl, (blk_cell BK242.out 4).trans rfl⟩ (fun hHeld => ?_); refine with_tabW capnplaw10_NodeValidity.tab12 capnplaw10_NodeValidity.bits12 (fun HT_ HW_ => ?_)
          generalize w42.drew = w43 at BK242 BK250 HB hHeld ⊢
          refine pure_ (i := 2) (N := some 49) (v := ?_) (a' := ?_) #[false, false, true, false, false, false, false, false] rfl rfl (any_of HT_.out (by kernel_rfl)) (fun _ _ _ h => h) (Or.inl ⟨by rfl, ?_⟩) ?_ ?_
          rotate_left
          ·intro w'
           go_simp
           with_reducible rfl
          rotate_left
          ·simp only [Act.put, List.setIfInBounds_toArray, List.set_cons_zero, List.set_cons_succ, i64_w, i32_w]
           rfl
          refine pure_ (i := 3) (N := some 50) (v := ?_) (a' := ?_) #[false, false, true, true, false, false, false, false] rfl rfl (any_of HT_.out (by kernel_rfl)) (fun _ _ _ h => h) (Or.inl ⟨by rfl, ?_⟩) ?_ ?_
          rotate_left
          ·intro w'
           go_simp
           with_reducible rfl
          rotate_left
          ·simp only [Act.put, List.setIfInBounds_toArray, List.set_cons_zero, List.set_cons_succ, i64_w, i32_w]
           rfl
          refine take_ (i := 0) (N := some 47) (v := ?_) (a' := ?_) #[true, false, true, true, false, false, false, false] rfl rfl (take_ofW HT_.out HW_.out (by kernel_rfl)) (fun _ _ _ h => h) (Or.inl ⟨by rfl, ?_⟩) hHeld ?_ ?_
          rotate_left
          ·rintro w' ⟨s0, s1, s2, s3, s4, s5, s6, s7, s8, s9⟩
           go_simp
           with_reducible rfl
          rotate_left
          ·simp only [Act.put, List.setIfInBounds_toArray, List.set_cons_zero, List.set_cons_succ, i64_w, i32_w]
           rfl
          refine take_ (i := 4) (N := some 51) (v := ?_) (a' := ?_) #[true, false, true, true, true, false, false, false] rfl rfl (take_ofW HT_.out HW_.out (by kernel_rfl)) (fun _ _ _ h => h) (Or.inl ⟨by rfl, ?_⟩) hHeld ?_ ?_
          rotate_left
          ·rintro w' ⟨s0, s1, s2, s3, s4, s5, s6, s7, s8, s9⟩
           go_simp
           with_reducible rfl
          rotate_left
          ·simp only [Act.put, List.setIfInBounds_toArray, List.set_cons_zero, List.set_cons_succ, i64_w, i32_w]
           rfl
          refine pure_ (i := 5) (N := some 52) (v := ?_) (a' := ?_) #[true, false, true, true, true, true, false, false] rfl rfl (any_of HT_.out (by kernel_rfl)) (fun _ _ _ h => h) (Or.inl ⟨by rfl, ?_⟩) ?_ ?_
          rotate_left
          ·intro w'
           go_simp
           with_reducible rfl
          rotate_left
          ·simp only [Act.put, List.setIfInBounds_toArray, List.set_cons_zero, List.set_cons_succ, i64_w, i32_w]
           rfl
          refine one_ (i := 1) (N := some 48) #[true, true, true, true, true, true, false, false] rfl rfl (one_of HT_.out (by kernel_rfl)) (by decide) (fun K hK => ?_)
          refine goes_ Tryd.func10 (by kernel_rfl) rfl #[.agg #[.int .i64 a0_0, .int .i64 a0_1, .int .i64 a1, .slice A0_3 l0_3.length c0_3, .slice A0_4 l0_4.length c0_4]] (by rfl) rfl rfl (by (try simp only [List.map_toArray, List.map_cons, List.map_nil]); first | done | rfl | (simp only [List.length_drop, List.length_take]; rfl)) ?_
          with_reducible refine (node_Valid.calls kj27 a0_0 a0_1 a1 _ _ l0_3 _ _ l0_4 t251 _ ?side1 ?side2 ?side3 ?side4 A37.out ?tab).mono ?_
          (case tab => exact HTAB.out.below (by repeat (first | (with_reducible first | exact HB.out | apply below_alloc | apply pw_below_drewN | apply below_drew1) | exact HB.out)))
          (case side1 => repeat (first | exact (Kd.C_below HR0_3.out HB.out) | (with_reducible refine Kd.C_alloc ?_ _) | (with_reducible refine Kd.C_drewN ?_ _) | (with_reducible refine Kd.C_drew ?_)))
          (case side2 => exact HC0_3.out)
          (case side3 => repeat (first | exact (Kd.C_below HR0_4.out HB.out) | (with_reducible refine Kd.C_alloc ?_ _) | (with_reducible refine Kd.C_drewN ?_ _) | (with_reducible refine Kd.C_drew ?_)))
          (case side4 => exact HC0_4.out)
          rintro e w44 ⟨rfl, hb⟩
          refine ⟨_, rfl, ?_⟩
          have n0_ := Aside0.mk (blk_below (g := gb242) (o := .cells #[.int .i64 a0_0, .int .i64 a0_1, .int .i64 a0_2, .slice A0_3 l0_3.length c0_3, .slice A0_4 l0_4.length c0_4] 25 (0, 0)) (by (with_reducible repeat (first | refine blk_drewN ?_ _ | refine blk_drew ?_ | refine blk_alloc ?_ _)); exact BK242.out) hb)
          have n1_ := Aside0.mk (blk_below (g := gb250) (o := .cells #[.int .i64 a0_0, .int .i64 a0_1, .int .i64 a1, .slice A0_3 l0_3.length c0_3, .slice A0_4 l0_4.length c0_4] 25 (0, 0)) (by (with_reducible repeat (first | refine blk_drewN ?_ _ | refine blk_drew ?_ | refine blk_alloc ?_ _)); exact BK250.out) hb)
          have n2_ := Aside0.mk (below_step (by repeat (first | (with_reducible first | exact HB.out | apply below_alloc | apply pw_below_drewN | apply below_drew1 | refine below_set ?_ GE242.out | refine below_set ?_ GE250.out) | exact HB.out)) hb)
          clear BK242
          clear BK250
          clear HB
          have BK242 := n0_
          have BK250 := n1_
          have HB := n2_
          clear n0_ n1_ n2_
          (try clear hb)
          (try clear hb2)
          (try clear hk)
          (try clear hi)
          refine hK.out _ _ ⟨(blk_cell BK250.out 0).trans rfl, (blk_cell BK250.out 1).trans rfl, (blk_cell BK250.out 2).trans rfl, (blk_cell BK250.out 3).trans rfl, (blk_cell BK250.out 4).trans rfl, (blk_cell BK242.out 0).trans rfl, (blk_cell BK242.out 1).trans rfl, (blk_cell BK242.out 2).trans rfl, (blk_cell BK242.out 3).trans rfl, (blk_cell BK242.out 4).trans rfl⟩ (fun hHeld => ?_)
          clear hK K
          refine norm_ (a' := ?_) ?_ ?_
          rotate_left
          ·show Act.put _ (some 48) _ = _
           simp only [Act.put, List.setIfInBounds_toArray, List.set_cons_zero, List.set_cons_succ, i64_w, i32_w]
           rfl
          refine pure_ (i := 6) (N := some 53) (v := ?_) (a' := ?_) #[true, true, true, true, true, true, true, false] rfl rfl (any_of HT_.out (by kernel_rfl)) (fun _ _ _ h => h) (Or.inl ⟨by rfl, ?_⟩) ?_ ?_
          rotate_left
          ·intro w'
           go_simp
           with_reducible rfl
          rotate_left
          ·simp only [Act.put, List.setIfInBounds_toArray, List.set_cons_zero, List.set_cons_succ, i64_w, i32_w]
           rfl
          refine pure_ (i := 7) (N := some 4) (v := ?_) (a' := ?_) #[true, true, true, true, true, true, true, true] rfl rfl (any_of HT_.out (by kernel_rfl)) (fun _ _ _ h => h) (Or.inl ⟨by rfl, ?_⟩) ?_ ?_
          rotate_left
          ·intro w'
           go_simp
           with_reducible rfl
          rotate_left
          ·simp only [Act.put, List.setIfInBounds_toArray, List.set_cons_zero, List.set_cons_succ, i64_w, i32_w]
           rfl
          refine done_ (done_of HT_.out (by kernel_rfl)) ?_
          try go_wp2
          go_ret
          exact ⟨by first | rfl | (simp [errW_none, errW_some] <;> rfl) | (simp [*, errW_none, errW_some] <;> rfl), by repeat (first | (with_reducible first | exact HB.out | apply below_alloc | apply pw_below_drewN | apply below_drew1 | refine below_set ?_ GE242.out | refine below_set ?_ GE250.out) | exact HB.out)⟩
end
end Go.Proofs.YtmbockhcmhghlaaDoor.Pr
end
section
namespace Go.Proofs.YtmbockhcmhghlaaDoor.Pr
open Go.RowKit Go.Proofs.YtmbockhcmhghlaaDoorW.PrintWords Go.Proofs.YtmbockhcmhghlaaDoorW.PrintLast Go.Proofs.YtmbockhcmhghlaaDoorW.PrintMore
attribute [local go_sem] max2_int min2_int max_two min_two max_three min_three max_four min_four
set_option linter.unusedVariables false
set_option linter.unusedSimpArgs false
noncomputable section
mutual
def capnplaw10_NodeCopies.j0 : Nat → Bool → Int → Int → Int → List Int → List (S25) → Option (Bool)
 | 0, _, _, _, _, _, _ => none
 | k + 1, x12, x275000, x275001, x275002, x275003, x275004 => if x12 = true then ((capnplaw10_awake.f).bind fun t277 => (some t277)) else ((capnpref10_Copy.f k x275000 x275001 x275002 x275003 x275004).bind fun bt278 => ((node_Equal.f k bt278.1 bt278.2.1 bt278.2.2.1 bt278.2.2.2.1 bt278.2.2.2.2 x275000 x275001 x275002 x275003 x275004).bind fun t288 => (if t288 = true then ((node_Valid.f k bt278.1 bt278.2.1 bt278.2.2.1 bt278.2.2.2.1 bt278.2.2.2.2).bind fun t289 => ((node_Valid.f k x275000 x275001 x275002 x275003 x275004).bind fun t290 => (if (t289 != t290) = true then (capnplaw10_NodeCopies.j1 k true x275000 x275001 x275002 x275003 x275004 bt278.1 bt278.2.1 bt278.2.2.1 bt278.2.2.2.1 bt278.2.2.2.2) else ((node_Equal.f k x275000 x275001 x275002 x275003 x275004 bt278.1 bt278.2.1 bt278.2.2.1 bt278.2.2.2.1 bt278.2.2.2.2).bind fun t291 => (capnplaw10_NodeCopies.j1 k (!t291) x275000 x275001 x275002 x275003 x275004 bt278.1 bt278.2.1 bt278.2.2.1 bt278.2.2.2.1 bt278.2.2.2.2))))) else (capnplaw10_NodeCopies.j1 k true x275000 x275001 x275002 x275003 x275004 bt278.1 bt278.2.1 bt278.2.2.1 bt278.2.2.2.1 bt278.2.2.2.2))))
def capnplaw10_NodeCopies.j1 : Nat → Bool → Int → Int → Int → List Int → List (S25) → Int → Int → Int → List Int → List (S25) → Option (Bool)
 | 0, _, _, _, _, _, _, _, _, _, _, _ => none
 | k + 1, x32, x275000, x275001, x275002, x275003, x275004, x288000, x288001, x288002, x288003, x288004 => if x32 = true then (none) else ((capnpref10_Valid.f k x275000 x275001 x275002 x275003 x275004).bind fun t292 => (if t292 = true then ((node_Depth.f k x288000 x288001 x288002 x288003 x288004).bind fun t293 => ((node_Objects.f k x288000 x288001 x288002 x288003 x288004).bind fun t294 => ((capnpref10_Equal.f k x288000 x288001 x288002 x288003 x288004 x275000 x275001 x275002 x275003 x275004).bind fun t295 => (if t295 = true then ((node_Depth.f k x275000 x275001 x275002 x275003 x275004).bind fun t296 => (if t293 = t296 then ((node_Objects.f k x275000 x275001 x275002 x275003 x275004).bind fun t297 => (if t294 = t297 then (if t293 ≥ 0 then (if ((t294 == 0) == (t293 == 0)) = true then (some (decide (t293 ≤ t294))) else (none)) else (none)) else (none))) else (none))) else (none))))) else (some true)))
end
end
end Go.Proofs.YtmbockhcmhghlaaDoor.Pr
end
section
namespace Go.Proofs.YtmbockhcmhghlaaDoor.Pr
open Go.RowKit Go.Proofs.YtmbockhcmhghlaaDoorW.PrintWords Go.Proofs.YtmbockhcmhghlaaDoorW.PrintLast Go.Proofs.YtmbockhcmhghlaaDoorW.PrintMore
set_option linter.unusedVariables false
set_option linter.unusedSimpArgs false
theorem awake_bind {β : Type} {f : Nat → Bool → Option β} {r : β} (h : Ev (fun k => f k true) r) : Ev (fun k => (capnplaw10_awake.f).bind (f k)) r := h
theorem ev_if {β : Type} {c : Prop} [Decidable c] {f g : Nat → Option β} {r : β} (h1 : c → Ev f r) (h2 : ¬ c → Ev g r) : Ev (fun k => if c then f k else g k) r := by
  by_cases hc : c
  · exact Ev.congr (fun k => by rw [if_pos hc]) (h1 hc)
  · exact Ev.congr (fun k => by rw [if_neg hc]) (h2 hc)
theorem nval_ev (a : S25) (h : okT a) : Ev (fun k => node_Valid.f k a.f0 a.f1 a.f2 a.f3 a.f4) (tvalid a) :=
  Ev.congr (f := fun _ => some (tvalid a)) (fun k => by unfold node_Valid.f; rw [if_pos (show okT ⟨a.f0, a.f1, a.f2, a.f3, a.f4⟩ by rw [S25.eta]; exact h), S25.eta]) (Ev.now _)
theorem capnplaw10_NodeMatchesReference.j0_eq (k : Nat) (x16 : Bool) (x157000 : Int) (x157001 : Int) (x157002 : Int) (x157003 : List Int) (x157004 : List (S25)) (x158000 : Int) (x158001 : Int) (x158002 : Int) (x158003 : List Int) (x158004 : List (S25)) : capnplaw10_NodeMatchesReference.j0 (k + 1) x16 x157000 x157001 x157002 x157003 x157004 x158000 x158001 x158002 x158003 x158004 = if x16 = true then ((capnplaw10_awake.f).bind fun t161 => (some t161)) else ((node_Valid.f k x157000 x157001 x157002 x157003 x157004).bind fun t162 => ((capnpref10_Valid.f k x157000 x157001 x157002 x157003 x157004).bind fun t163 => (if (t162 != t163) = true then (capnplaw10_NodeMatchesReference.j1 k true x157000 x157001 x157002 x157003 x157004) else ((node_Equal.f k x157000 x157001 x157002 x157003 x157004 x158000 x158001 x158002 x158003 x158004).bind fun t164 => ((capnpref10_Equal.f k x157000 x157001 x157002 x157003 x157004 x158000 x158001 x158002 x158003 x158004).bind fun t165 => (if (t164 != t165) = true then (capnplaw10_NodeMatchesReference.j1 k true x157000 x157001 x157002 x157003 x157004) else ((node_Equal.f k x157000 x157001 x157002 x157003 x157004 x157000 x157001 x157002 x157003 x157004).bind fun t166 => (capnplaw10_NodeMatchesReference.j1 k (!t166) x157000 x157001 x157002 x157003 x157004)))))))) := by simp only [capnplaw10_NodeMatchesReference.j0]
theorem capnplaw10_NodeValidity.j0_eq (k : Nat) (x1 : Int) (x18 : Bool) (x243000 : Int) (x243001 : Int) (x243002 : Int) (x243003 : List Int) (x243004 : List (S25)) : capnplaw10_NodeValidity.j0 (k + 1) x1 x18 x243000 x243001 x243002 x243003 x243004 = if x18 = true then ((capnplaw10_awake.f).bind fun t246 => (some t246)) else (capnplaw10_NodeValidity.l0 k x1 0 x243000 x243001 x243002 x243003 x243004) := by simp only [capnplaw10_NodeValidity.j0]
theorem capnplaw10_NodeValidity.l0_eq (k : Nat) (x1 : Int) (x5 : Int) (x243000 : Int) (x243001 : Int) (x243002 : Int) (x243003 : List Int) (x243004 : List (S25)) : capnplaw10_NodeValidity.l0 (k + 1) x1 x5 x243000 x243001 x243002 x243003 x243004 = if x5 < (x243004.length : Int) then (if 0 ≤ x5 then ((node_Valid.f k ((rd_T25 x243004 x5).f0) ((rd_T25 x243004 x5).f1) ((rd_T25 x243004 x5).f2) ((rd_T25 x243004 x5).f3) ((rd_T25 x243004 x5).f4)).bind fun t248 => (if t248 = true then (capnplaw10_NodeValidity.l0 k x1 (wrap64 (x5 + 1)) x243000 x243001 x243002 x243003 x243004) else (none))) else (none)) else (if x243000 = 2 then (capnplaw10_NodeValidity.j2 k x1 (decide (x243001 < 2)) x243000 x243001 x243002 x243003 x243004) else (capnplaw10_NodeValidity.j2 k x1 true x243000 x243001 x243002 x243003 x243004)) := by simp only [capnplaw10_NodeValidity.l0]
theorem capnplaw10_NodeValidity.j2_eq (k : Nat) (x1 : Int) (x41 : Bool) (x243000 : Int) (x243001 : Int) (x243002 : Int) (x243003 : List Int) (x243004 : List (S25)) : capnplaw10_NodeValidity.j2 (k + 1) x1 x41 x243000 x243001 x243002 x243003 x243004 = if x41 = true then ((node_Valid.f k x243000 x243001 x243002 x243003 x243004).bind fun t249 => (some t249)) else ((node_Valid.f k x243000 x243001 x1 x243003 x243004).bind fun t251 => (some (t251 == (x1 == x243002)))) := by simp only [capnplaw10_NodeValidity.j2]
theorem valid_count (a : S25) (n : Int) (h : tvalid a = true) (h0 : a.f0 = 2) (h1 : ¬ a.f1 < 2) : tvalid ⟨a.f0, a.f1, n, a.f3, a.f4⟩ = (n == a.f2) := by
  by_cases hn : n = a.f2
  · subst hn; rw [S25.eta, h]; simp
  · rw [beq_eq_false_iff_ne.2 hn]
    rw [tvalid_list a h0] at h
    rw [tvalid_list ⟨a.f0, a.f1, n, a.f3, a.f4⟩ h0]
    unfold listV at h ⊢
    simp only at h ⊢
    by_cases hb : a.f2 < 0 ∨ 536870911 < a.f2 ∨ a.f1 < 0 ∨ 7 < a.f1
    · rw [if_pos hb] at h; cases h
    · by_cases hb2 : n < 0 ∨ 536870911 < n ∨ a.f1 < 0 ∨ 7 < a.f1
      · rw [if_pos hb2]
      · rw [if_neg hb] at h
        rw [if_neg hb2]
        by_cases h6 : a.f1 = 6
        · rw [if_pos h6] at h ⊢
          have e : ((a.f4.length : Int) == n) = false := by
            rw [beq_eq_false_iff_ne]; intro e
            simp at h; omega
          simp [e] at h ⊢
        · rw [if_neg h6] at h ⊢
          by_cases h7 : a.f1 = 7
          · rw [if_pos h7] at h ⊢
            have e : ((a.f4.length : Int) == n) = false := by
              rw [beq_eq_false_iff_ne]; intro e
              simp at h; omega
            simp [e] at h ⊢
          · rw [if_neg h7] at h ⊢
            simp only [Bool.and_eq_true, beq_iff_eq] at h
            have e2 : (a.f3.length : Int) = bytesOf a.f1 a.f2 := h.2.1
            have e : ((a.f3.length : Int) == bytesOf a.f1 n) = false := by
              rw [beq_eq_false_iff_ne]; intro e
              rw [e] at e2
              have hf : a.f1 = 2 ∨ a.f1 = 3 ∨ a.f1 = 4 ∨ a.f1 = 5 := by omega
              unfold bytesOf bitsOf at e2
              rcases hf with h | h | h | h <;> rw [h] at e2 <;> simp at e2 <;> omega
            rw [e]; simp
theorem validity_true (a : S25) (n : Int) (oa : okT a) (sa : tsize a ≤ 2000000) : Ev (fun k => capnplaw10_NodeValidity.f k a.f0 a.f1 a.f2 a.f3 a.f4 n) true := by
  have early : Ev (fun k => capnplaw10_NodeValidity.j0 k n true a.f0 a.f1 a.f2 a.f3 a.f4) true :=
    Ev.step (fun k => capnplaw10_NodeValidity.j0_eq k _ _ _ _ _ _ _) (ev_if (fun _ => Ev.now true) (fun h => absurd rfl h))
  have he := tsize_eq a
  have hl := length_tsizes a.f4
  unfold capnplaw10_NodeValidity.f
  refine awake_bind (ev_if (fun _ => ?_) (fun _ => early))
  refine Ev.bind (few_ev a (by omega)) (ev_if (fun hf => ?_) (fun _ => early))
  refine Ev.bind (valid_ev a oa (by omega)) ?_
  cases hv : tvalid a with
  | false => exact early
  | true =>
    have yes : Ev (fun k => capnplaw10_NodeValidity.j2 k n true a.f0 a.f1 a.f2 a.f3 a.f4) true := by
      refine Ev.step (fun k => capnplaw10_NodeValidity.j2_eq k _ _ _ _ _ _ _) (ev_if (fun _ => ?_) (fun h => absurd rfl h))
      refine Ev.bind (nval_ev a oa) ?_
      rw [hv]; exact Ev.now true
    have no : a.f0 = 2 → ¬ a.f1 < 2 → Ev (fun k => capnplaw10_NodeValidity.j2 k n false a.f0 a.f1 a.f2 a.f3 a.f4) true := fun h0 h1 => by
      refine Ev.step (fun k => capnplaw10_NodeValidity.j2_eq k _ _ _ _ _ _ _) (ev_if (fun h => by cases h) (fun _ => ?_))
      have ob : okT ⟨a.f0, a.f1, n, a.f3, a.f4⟩ := AllT.mk oa.here oa.kids
      refine Ev.bind (nval_ev ⟨a.f0, a.f1, n, a.f3, a.f4⟩ ob) ?_
      rw [valid_count a n hv h0 h1]
      exact Ev.congr (f := fun _ => some true) (fun k => by simp) (Ev.now true)
    have done : Ev (fun k => if a.f0 = 2 then capnplaw10_NodeValidity.j2 k n (decide (a.f1 < 2)) a.f0 a.f1 a.f2 a.f3 a.f4 else capnplaw10_NodeValidity.j2 k n true a.f0 a.f1 a.f2 a.f3 a.f4) true := by
      refine ev_if (fun h0 => ?_) (fun _ => yes)
      by_cases h1 : a.f1 < 2
      · rw [decide_eq_true h1]; exact yes
      · rw [decide_eq_false h1]; exact no h0 h1
    have loop : ∀ d j : Nat, a.f4.length - j = d → j ≤ a.f4.length → Ev (fun k => capnplaw10_NodeValidity.l0 k n (j : Int) a.f0 a.f1 a.f2 a.f3 a.f4) true := by
      intro d
      induction d with
      | zero =>
        intro j hd hj
        exact Ev.step (fun k => capnplaw10_NodeValidity.l0_eq k _ _ _ _ _ _ _) (ev_if (fun h => absurd h (by omega)) (fun _ => done))
      | succ d ihd =>
        intro j hd hj
        have hlt : j < a.f4.length := by omega
        have hm : a.f4[j] ∈ a.f4 := List.getElem_mem hlt
        refine Ev.step (fun k => capnplaw10_NodeValidity.l0_eq k _ _ _ _ _ _ _) (ev_if (fun _ => ev_if (fun _ => ?_) (fun h => absurd (Int.natCast_nonneg j) h)) (fun h => absurd (by omega) h))
        rw [rdT_at _ _ hlt]
        refine Ev.bind (nval_ev a.f4[j] (oa.kids _ hm)) ?_
        rw [valid_kids a hv _ hm]
        refine ev_if (fun _ => ?_) (fun h => absurd rfl h)
        rw [w64 (by omega) (by omega)]
        exact ihd (j + 1) (by omega) (by omega)
    exact Ev.step (fun k => capnplaw10_NodeValidity.j0_eq k _ _ _ _ _ _ _) (ev_if (fun h => by cases h) (fun _ => loop a.f4.length 0 (by omega) (by omega)))
theorem capnplaw10_NodeCopies.j0_eq (k : Nat) (x12 : Bool) (x275000 : Int) (x275001 : Int) (x275002 : Int) (x275003 : List Int) (x275004 : List (S25)) : capnplaw10_NodeCopies.j0 (k + 1) x12 x275000 x275001 x275002 x275003 x275004 = if x12 = true then ((capnplaw10_awake.f).bind fun t277 => (some t277)) else ((capnpref10_Copy.f k x275000 x275001 x275002 x275003 x275004).bind fun bt278 => ((node_Equal.f k bt278.1 bt278.2.1 bt278.2.2.1 bt278.2.2.2.1 bt278.2.2.2.2 x275000 x275001 x275002 x275003 x275004).bind fun t288 => (if t288 = true then ((node_Valid.f k bt278.1 bt278.2.1 bt278.2.2.1 bt278.2.2.2.1 bt278.2.2.2.2).bind fun t289 => ((node_Valid.f k x275000 x275001 x275002 x275003 x275004).bind fun t290 => (if (t289 != t290) = true then (capnplaw10_NodeCopies.j1 k true x275000 x275001 x275002 x275003 x275004 bt278.1 bt278.2.1 bt278.2.2.1 bt278.2.2.2.1 bt278.2.2.2.2) else ((node_Equal.f k x275000 x275001 x275002 x275003 x275004 bt278.1 bt278.2.1 bt278.2.2.1 bt278.2.2.2.1 bt278.2.2.2.2).bind fun t291 => (capnplaw10_NodeCopies.j1 k (!t291) x275000 x275001 x275002 x275003 x275004 bt278.1 bt278.2.1 bt278.2.2.1 bt278.2.2.2.1 bt278.2.2.2.2))))) else (capnplaw10_NodeCopies.j1 k true x275000 x275001 x275002 x275003 x275004 bt278.1 bt278.2.1 bt278.2.2.1 bt278.2.2.2.1 bt278.2.2.2.2)))) := by simp only [capnplaw10_NodeCopies.j0]
end Go.Proofs.YtmbockhcmhghlaaDoor.Pr
end
section
namespace Go.Proofs.YtmbockhcmhghlaaDoor.Pr
open Go.RowKit Go.ChangeShapes Go.WideShapes Go.ChangeAt Go.Proofs.YtmbockhcmhghlaaDoorW.PrintWords Go.Proofs.YtmbockhcmhghlaaDoorW.PrintLast Go.Proofs.YtmbockhcmhghlaaDoorW.PrintMore
set_option linter.unusedVariables false
set_option linter.unusedSimpArgs false
theorem byte_range {n : Int} (h : (Lit.int .u8 n).wf = true) : 0 ≤ n ∧ n ≤ 255 := by
  simpa [Lit.wf, IntKind.min, IntKind.max, IntKind.signed, IntKind.bits] using h
theorem cells_each {w : World} {base : Nat} {a : Addr} {n : Nat} {cs : List Value} (h : w.cells? base a n = some cs) : cs.length = n ∧ ∀ (i : Nat) (u : Value), cs[i]? = some u → w.cell? (a.add i) = some u := by
  unfold World.cells? at h
  split at h
  · have hl := mapM_some_length h
    refine ⟨by simpa using hl, fun i u hu => ?_⟩
    have hi : i < n := by
      have := (List.getElem?_eq_some_iff.1 hu).1
      simp at hl; omega
    have := mapM_some_get h i i (by simp [hi])
    rw [this, hu]
  · cases h
section
variable {H : Type} {enc : TypeId × Value → H} {w : World} {base : Nat} {held : Bool}
theorem bulk_bytes {fuel : Nat} {cs : List Value} {x : DataW H × List MemPlace} (h : DataW.trod enc Tryd.prog w base (fun _ => true) held fuel 22 cs = some x) :
    ∃ (A : Option Addr) (c : Nat) (xs : List Int), cs = [.slice A xs.length c] ∧ xs.length ≤ c ∧ (Kd.int .u8).C w A xs.length xs ∧ (∀ n ∈ xs, 0 ≤ n ∧ n ≤ 255) ∧ xs.length + 1 ≤ Rows.uptoBulk x.1 := by
  rcases open_ints Tryd.underlying22 Tryd.underlying5 (by kernel_rfl) h with ⟨rfl, rfl⟩ | ⟨ad, len, cap, zs, rfl, hb, hle, hm, hz, rfl, hcell, hwz⟩
  · exact ⟨none, 0, [], rfl, Nat.le_refl _, Kd.C_nil _ _, by simp, by simp [Rows.uptoBulk]⟩
  · have hzl : zs.length = cap := by simpa using hz
    have htl : (zs.take len).length = len := by simp; omega
    have hlits : ∀ l : List Int, Rows.uptoBulkAll (lits (H := H) .u8 l) = l.length := fun l => by
      induction l with
      | nil => simp [lits, Rows.uptoBulkAll]
      | cons y l ih =>
        simp only [lits, List.map_cons, Rows.uptoBulkAll, Rows.uptoBulk, List.length_cons] at ih ⊢
        omega
    refine ⟨some ad, cap, zs.take len, by rw [htl], by omega, ⟨rfl, by rw [htl]; simp only [maxLen] at hm; omega, fun hp => ⟨ad, rfl, fun j p hj => ⟨[.int .u8 p], rfl, rfl, fun i u hu => ?_⟩⟩⟩, fun n hn => byte_range (hwz n (List.mem_of_mem_take hn)), ?_⟩
    · match i with
      | 0 =>
        obtain rfl : Value.int .u8 p = u := by simpa using hu
        have hjl := (List.getElem?_eq_some_iff.1 hj).1
        rw [htl] at hjl
        have := hcell j (by omega)
        rw [List.getElem?_take_of_lt hjl] at hj
        rw [List.getD_eq_getElem?_getD, hj] at this
        show w.cell? (ad.add (j * 1 + 0)) = _
        rw [Nat.mul_one, Nat.add_zero]
        exact this
      | i + 1 => simp at hu
    · simp only [Rows.uptoBulk, hlits]
      omega
theorem sizes_bulk : ∀ (L : List S25) (ds : List (DataW H)), L.length = ds.length → (∀ (i : Nat) (x : S25) (d : DataW H), L[i]? = some x → ds[i]? = some d → tsize x ≤ Rows.uptoBulk d) → tsizes L ≤ Rows.uptoBulkAll ds
  | [], _, _, _ => by simp [tsizes]
  | x :: L, [], h, _ => by simp at h
  | x :: L, d :: ds, h, hx => by
    have h1 := hx 0 x d rfl rfl
    have h2 := sizes_bulk L ds (by simpa using h) (fun i y e h1 h2 => hx (i + 1) y e (by simpa using h1) (by simpa using h2))
    simp only [tsizes, Rows.uptoBulkAll]; omega
theorem open_node : ∀ (fuel : Nat) (cs : List Value) (x : DataW H × List MemPlace), DataW.trod enc Tryd.prog w base (fun _ => true) held fuel 25 cs = some x → ∃ a : S25, k25.K w a cs ∧ okT a ∧ tsize a ≤ Rows.uptoBulk x.1 := by
  intro fuel
  induction fuel using Nat.strongRecOn with
  | _ fuel ih =>
  intro cs x h
  obtain ⟨xs, n, rfl, rfl, hl, hlen, hf⟩ := DataW.trod_struct Tryd.underlying25 h
  have z25 : Tryd.prog.cellsOf 25 = 5 := by kernel_rfl
  have z3 : Tryd.prog.cellsOf 3 = 1 := by kernel_rfl
  have zb : Tryd.prog.cellsOf 22 = 1 := by kernel_rfl
  have zn : Tryd.prog.cellsOf 23 = 1 := by kernel_rfl
  rw [z25] at hl
  match xs, hlen, cs, hl with
  | [y0, y1, y2, y3, y4], _, [c0, c1, c2, c3, c4], _ =>
  have h0 : DataW.trod enc Tryd.prog w base (fun _ => true) held n 3 [c0] = some y0 := by simpa [z3] using hf 0 _ rfl
  have h1 : DataW.trod enc Tryd.prog w base (fun _ => true) held n 3 [c1] = some y1 := by simpa [z3] using hf 1 _ rfl
  have h2 : DataW.trod enc Tryd.prog w base (fun _ => true) held n 3 [c2] = some y2 := by simpa [z3] using hf 2 _ rfl
  have h3 : DataW.trod enc Tryd.prog w base (fun _ => true) held n 22 [c3] = some y3 := by simpa [zb] using hf 3 _ rfl
  have h4 : DataW.trod enc Tryd.prog w base (fun _ => true) held n 23 [c4] = some y4 := by simpa [zn] using hf 4 _ rfl
  obtain ⟨n0, e0, rfl, _⟩ := DataW.trod_int Tryd.underlying3 h0
  obtain ⟨n1, e1, rfl, _⟩ := DataW.trod_int Tryd.underlying3 h1
  obtain ⟨n2, e2, rfl, _⟩ := DataW.trod_int Tryd.underlying3 h2
  obtain ⟨A3, k3, zs, e3, l3, g3, hzb, hb3⟩ := bulk_bytes h3
  simp only [List.cons.injEq, and_true] at e0 e1 e2 e3
  subst e0 e1 e2 e3
  have kids : ∃ (A : Option Addr) (c : Nat) (L : List S25), c4 = .slice A L.length c ∧ L.length ≤ c ∧ k25.C w A L.length L ∧ (∀ a ∈ L, okT a) ∧ tsizes L ≤ Rows.uptoBulk y4.1 := by
    rcases DataW.trod_slice Tryd.underlying23 h4 with ⟨e4, rfl⟩ | ⟨ad, len, cap, elems, rest, m, rfl, e4, rfl, hb, hle, hmax, hel0, hel, _, _⟩
    · simp only [List.cons.injEq, and_true] at e4
      exact ⟨none, 0, [], e4, Nat.le_refl _, Kd.C_nil _ _, by simp, by simp [tsizes]⟩
    · simp only [List.cons.injEq, and_true] at e4
      have each : ∀ i, i < len → ∃ (cs' : List Value) (a : S25), (∀ (j : Nat) (u : Value), cs'[j]? = some u → w.cell? ((ad.add (i * 5)).add j) = some u) ∧ cs'.length = 5 ∧ k25.K w a cs' ∧ okT a ∧ ∀ d, (elems.map (·.1))[i]? = some d → tsize a ≤ Rows.uptoBulk d := fun i hi => by
        have hq := hel i hi
        rw [z25, List.getElem?_eq_getElem (by omega)] at hq
        obtain ⟨cs', hc, ht⟩ := Option.bind_eq_some_iff.1 hq
        obtain ⟨a, hK, hok, hsz⟩ := ih m (by omega) cs' _ ht
        obtain ⟨hlc, hcc⟩ := cells_each hc
        refine ⟨cs', a, hcc, hlc, hK, hok, fun d hd => ?_⟩
        rw [List.getElem?_map, List.getElem?_eq_getElem (by omega)] at hd
        obtain rfl : elems[i].1 = d := by simpa using hd
        exact hsz
      classical
      let f : Nat → S25 := fun i => if hi : i < len then (each i hi).choose_spec.choose else ⟨0, 0, 0, [], []⟩
      have hfs : ∀ i (hi : i < len), f i = (each i hi).choose_spec.choose := fun i hi => dif_pos hi
      have hL : ((List.range len).map f).length = len := by simp
      have hget : ∀ (j : Nat) (p : S25), ((List.range len).map f)[j]? = some p → ∃ hj : j < len, p = (each j hj).choose_spec.choose := fun j p hp => by
        have hj : j < len := by have := (List.getElem?_eq_some_iff.1 hp).1; rwa [hL] at this
        refine ⟨hj, ?_⟩
        rw [← hfs j hj]
        simp [hj] at hp
        exact hp.symm
      refine ⟨some ad, cap, (List.range len).map f, by rw [hL]; exact e4, by rw [hL]; exact hle, ⟨rfl, by rw [hL]; simp only [maxLen] at hmax; omega, fun hp => ⟨ad, rfl, fun j p hj => ?_⟩⟩, fun a ha => ?_, ?_⟩
      · obtain ⟨hjl, rfl⟩ := hget j p hj
        obtain ⟨hc, hlc, hK, _⟩ := (each j hjl).choose_spec.choose_spec
        refine ⟨(each j hjl).choose, hlc, hK, fun i u hu => ?_⟩
        have := hc i u hu
        rw [Addr.add_add] at this
        exact this
      · obtain ⟨j, hj⟩ := List.getElem?_of_mem ha
        obtain ⟨hjl, rfl⟩ := hget j a hj
        exact (each j hjl).choose_spec.choose_spec.2.2.2.1
      · refine Nat.le_trans (sizes_bulk _ (elems.map (·.1)) (by simp; omega) fun i x d hx hd => ?_) (by simp only [Rows.uptoBulk]; omega)
        obtain ⟨hjl, rfl⟩ := hget i x hx
        exact (each i hjl).choose_spec.choose_spec.2.2.2.2 d hd
  obtain ⟨A4, k4, L, rfl, l4, g4, hLok, hb4⟩ := kids
  refine ⟨⟨n0, n1, n2, zs, L⟩, k25_mk w ⟨n0, n1, n2, zs, L⟩ l3 g3 l4 g4, .mk hzb hLok, ?_⟩
  simp only [tsize, Rows.uptoBulk, Rows.uptoBulkAll, List.map_cons, List.map_nil]
  omega
end
end Go.Proofs.YtmbockhcmhghlaaDoor.Pr
end
section
namespace Go.Proofs.YtmbockhcmhghlaaDoor.nodeValidity
open Go.ChangeShapes Go.WideShapes Go.ChangeAt Go.RowKit Go.Joins Go.Proofs.YtmbockhcmhghlaaDoor.Pr
set_option linter.unusedVariables false
set_option linter.unusedSimpArgs false
theorem own : ownKnob Tryd.prog.godebug = none := by kernel_rfl
theorem laidOut : laidOutB Tryd.prog = true := by kernel_rfl
theorem gTab : Tryd.prog.globalNamed "capnp/listsize.bits" = some 0 := by kernel_rfl
theorem gTabType : (Tryd.prog.globals[0]?).map (·.type) = some 43 := by kernel_rfl
theorem cellsT : Tryd.prog.cellsOf 43 = 8 := by kernel_rfl
theorem cellsE : Tryd.prog.cellsOf 3 = 1 := by kernel_rfl
theorem table {W : World} (h : laidMetH Tryd.prog Rows.nodeValidityUptoRow.laid W) : Lib.TabIs Tryd.prog W "capnp/listsize.bits" .i64 [0, 1, 8, 16, 32, 64, 64, 0] :=
  Lib.tabIs_of_head (rest := []) gTab gTabType Tryd.underlying43 Tryd.underlying3 cellsE cellsT h
set_option maxRecDepth 100000 in
theorem contract (H : Type) (enc : TypeId × Value → H) (W : World) (base : Nat) (args : Array Value) (ds gs : List (DataW H)) (before : List MemPlace)
    (hval0 : ∀ (j : Nat) t v, Tryd.f6.params[j]? = some t → args[j]? = some v → Value.okWide Tryd.prog W .any base t v)
    (hW : DataW.Whole enc Tryd.prog Tryd.f6.params.toList Rows.nodeValiditySpec.vars false W args.toList ds gs before) (hL : laidMetH Tryd.prog Rows.nodeValidityUptoRow.laid W) (hbulk : Rows.uptoSmall H (ds ++ gs) = true) :
    Calls Tryd.prog 6 args W fun e W' => ∃ v, e = .returned v ∧ Rows.nodeValiditySpec.post enc Tryd.prog Tryd.f6 false true false false W args v W' := by
  have hval : ∀ (j : Nat) t v, Tryd.f6.params[j]? = some t → args[j]? = some v → Value.okWide Tryd.prog W .any base t v := hval0
  have hW' := hW
  obtain ⟨p, q, hA0, hV, rfl, hfz, hnd⟩ := hW
  have hA : DataW.TrodAll enc Tryd.prog W 0 (fun _ => true) true Tryd.f6.params.toList args.toList ds p := hA0
  rw [Tryd.params6] at hA hval
  obtain ⟨v0, vs0, d0, ds0, p0, q0, hargs, rfl, rfl, h0, r0⟩ := trodAll_cons hA
  obtain ⟨v1, vs1, d1, ds1, p1, q1, rfl, rfl, rfl, h1, r1⟩ := trodAll_cons r0
  obtain ⟨rfl, rfl, rfl⟩ := trodAll_nil r1
  obtain rfl : args = #[v0, v1] := by cases args; simp_all
  obtain ⟨rfl, rfl⟩ := trodVars_none hV
  have k0 := h0
  have lt0 : ∀ x ∈ p0, x.block < W.heap.size := by obtain ⟨m, hm⟩ := k0; exact DataW.trod_lt m _ _ _ hm
  obtain ⟨cs0, rfl, hn0⟩ := okWide_struct Tryd.underlying25 (hval 0 25 v0 rfl rfl)
  obtain ⟨fuel0, hf0⟩ := h0
  obtain ⟨a0, K0, ok0, sz0⟩ := open_node _ _ _ hf0
  obtain ⟨A0_3, c0_3, A0_4, c0_4, e0, l0_3, g0_3, l0_4, g0_4⟩ := k25_open K0
  obtain rfl : cs0 = #[.int .i64 a0.f0, .int .i64 a0.f1, .int .i64 a0.f2, .slice A0_3 a0.f3.length c0_3, .slice A0_4 a0.f4.length c0_4] := by
    have e' : cs0.toList = _ := e0
    rw [← Array.toArray_toList (xs := cs0), e']
  clear K0 e0 hf0 hn0
  have sz0 : tsize a0 ≤ Rows.uptoBulk d0 := sz0
  have k1 := h1
  have lt1 : ∀ x ∈ p1, x.block < W.heap.size := by obtain ⟨m, hm⟩ := k1; exact DataW.trod_lt m _ _ _ hm
  obtain ⟨a1, rfl, _, _, w1⟩ := open_int Tryd.underlying3 (hval 1 3 v1 rfl rfl) h1
  clear h1
  have hk : Rows.uptoBulk d0 + Rows.uptoBulk d1 ≤ 1048576 := by have h := of_decide_eq_true hbulk; simp only [Rows.uptoBulkAll, List.nil_append, List.append_nil, List.cons_append] at h; omega
  have HL : Ls.Tab W := ⟨(table hL).cell gTab 0 (by decide), (table hL).cell gTab 1 (by decide), (table hL).cell gTab 2 (by decide), (table hL).cell gTab 3 (by decide), (table hL).cell gTab 4 (by decide), (table hL).cell gTab 5 (by decide), (table hL).cell gTab 6 (by decide), (table hL).cell gTab 7 (by decide)⟩
  clear hA0 hval0
  refine (let ⟨k, hk⟩ := (validity_true a0 a1 ok0 (by omega)).rounds; capnplaw10_NodeValidity.calls k _ _ _ _ _ _ _ _ _ a1 _ W HL g0_3 l0_3 g0_4 l0_4 hk).mono fun e W' ⟨he, bel⟩ => ?_
  subst he
  exact ⟨_, rfl, _, _, _, [], _, [], hW', trodAll_mk1 (shut_bool Tryd.underlying4 _), (trodAll_cons_mk (Below.trod laidOut (by kernel_rfl) (of_decide_eq_true (by kernel_rfl)) k0 bel lt0) (trodAll_cons_mk (Below.trod laidOut (by kernel_rfl) (of_decide_eq_true (by kernel_rfl)) k1 bel lt1) trodAll_mk0)), rfl, bel.frame _, fun h => by cases h⟩
noncomputable def laidWorld (os : Os) : World :=
  { World.holding Tryd.prog os ⟨#[], #[], []⟩ with heap := (World.holding Tryd.prog os ⟨#[], #[], []⟩).heap.modify 0 fun
      | .cells _ t frozen => .cells #[.int .i64 0, .int .i64 1, .int .i64 8, .int .i64 16, .int .i64 32, .int .i64 64, .int .i64 64, .int .i64 0] t frozen
      | o => o }
theorem laid_met (os : Os) : laidMet Tryd.prog Rows.nodeValidityUptoRow.laid ((laidWorld os).forCall (fun _ _ => 0) ⟨#[], #[.agg #[.int .i64 0, .int .i64 0, .int .i64 0, .slice none 0 0, .slice none 0 0], .int .i64 0], []⟩).memory :=
  laidMet_of_run' 10 (by kernel_rfl) (by kernel_rfl)
theorem reads (os : Os) {H : Type} (enc : TypeId × Value → H) : ∃ places, DataW.whole enc Tryd.prog ((laidWorld os).forCall (fun _ _ => 0) ⟨#[], #[.agg #[.int .i64 0, .int .i64 0, .int .i64 0, .slice none 0 0, .slice none 0 0], .int .i64 0], []⟩).memory Tryd.f6.params.toList Rows.nodeValiditySpec.vars false (#[.agg #[.int .i64 0, .int .i64 0, .int .i64 0, .slice none 0 0, .slice none 0 0], .int .i64 0] : Array Value).toList 10 = some ([.agg [.lit (.int .i64 0), .lit (.int .i64 0), .lit (.int .i64 0), .nil, .nil], .lit (.int .i64 0)], [], places) :=
  ⟨[], by kernel_rfl⟩
set_option maxRecDepth 100000 in
theorem lifted (os : Os) (started : os.Started) (H : Type) (enc : TypeId × Value → H) (F : Stop.Interp) :
    ReturnsInHanded {} Tryd.checked os 6 .any ((Rows.OpenSpec.upto Rows.nodeValiditySpec).preRow enc Tryd.prog Tryd.f6 Rows.nodeValidityUptoRow.domain false Rows.nodeValidityUptoRow.laid) (((Rows.OpenSpec.upto Rows.nodeValiditySpec).at F).post enc Tryd.prog Tryd.f6 false true false false) := by
  obtain ⟨places, hx⟩ := reads os enc
  refine returnsInHanded_of_row (C := Tryd.checked) (s := (Rows.OpenSpec.upto Rows.nodeValiditySpec)) own started (by kernel_rfl) Tryd.func6
    (witness_row_at (enc := enc) (C := Tryd.checked) false (laidWorld os) #[.agg #[.int .i64 0, .int .i64 0, .int .i64 0, .slice none 0 0, .slice none 0 0], .int .i64 0] rfl (by kernel_rfl) (by kernel_rfl) (by kernel_rfl)
      (OpenSpec.preRow_of_cond 10 hx (by kernel_rfl) (fun k hk => by cases hk; kernel_rfl) (by kernel_rfl) (laid_met os))) ?_
  intro W base args ds gs before hval hW _ hcond _ hL _ _
  exact contract H enc W base args ds gs before hval hW hL (hcond _ rfl)
theorem said : Rows.NodeValidityUptoSaid :=
  OpenClaim.holds_of_cond 6 Tryd.f6 rfl rfl rfl rfl rfl rfl rfl ⟨rfl, rfl, rfl, rfl, rfl⟩ rfl rfl rfl rfl rfl (by kernel_rfl) Tryd.func6 (by kernel_rfl)
    (of_decide_eq_true (by kernel_rfl)) (by unfold Func.isWrapper; first | (rw [if_pos (by decide +kernel)]; kernel_rfl) | (rw [if_neg (by decide +kernel)]; exact ⟨rfl, rfl⟩))
    (fun os started H enc _ F => by rw [OpenClaim.pre_eq_preRow]; exact lifted os started H enc F)
theorem plain (f : FuncId) (fn : Func) (hf : Tryd.pinned.checked.prog.funcNamed "capnp/capnplaw10.NodeValidity" = some f) (hfn : Tryd.pinned.checked.prog.funcs[f]? = some fn) :
    false = Tryd.pinned.checked.prog.looks [] ∧ ∀ (j : Nat) t, fn.params[j]? = some t → Tryd.pinned.checked.prog.wantsStandIn t = false := by
  obtain rfl : f = 6 := Option.some.inj ((show Tryd.prog.funcNamed "capnp/capnplaw10.NodeValidity" = some 6 by kernel_rfl).symm.trans hf) |>.symm
  obtain rfl : fn = Tryd.f6 := (Option.some.inj (Tryd.func6.symm.trans hfn)).symm
  refine ⟨by kernel_rfl, fun j t ht => ?_⟩
  rw [Tryd.params6] at ht
  have hm : t = 25 ∨ t = 3 := by have := Array.mem_of_getElem? ht; simp at this; omega
  rcases hm with rfl | rfl
  · exact (show Tryd.prog.wantsStandIn 25 = false by kernel_rfl)
  · exact (show Tryd.prog.wantsStandIn 3 = false by kernel_rfl)
theorem card : Rows.NodeValidityUptoCardSaid :=
  Claim7.holds_tied_plain_at .later [] _ _ _ _ said (fun _ h => by cases h) (by kernel_rfl) (fun _ h => by cases h) nodeValidityUpto_row_tie rfl ⟨rfl, rfl⟩ (by kernel_rfl) rfl plain (by kernel_rfl)
#print axioms card
end Go.Proofs.YtmbockhcmhghlaaDoor.nodeValidity
namespace Go.Proofs.YtmbockhcmhghlaaDoor
theorem nodeValidity_holds : Rows.NodeValidityUptoCardSaid := nodeValidity.card
end Go.Proofs.YtmbockhcmhghlaaDoor
end
