/- For every node of bulk at most 1048576 and all limits, one word or one level less is refused, and the written form is accepted at its own limits: the law answers true and leaves its arguments as they were. The listed variables: the table of decoders, the elements' sizes. -/
import Derived.Test.YtidglmocekghmaaDoorBNLE
import Derived.Below
import Derived.Deep.Draws
import Derived.Deep.AppendLies
import Derived.Maps.AppendAt
import Derived.OwnWalk
import Derived.Laws.BytesArg
import Derived.Laws.MakeOwn
import Derived.Laws.OwnMore
import Derived.Deep.OwnRows
import Derived.Tactics
import Derived.Lib.ConvBytes
import Derived.Laws.Slices
import Derived.WalkKit
import Derived.KernelRfl
import Derived.RowKit3
import Derived.Deep.LoopGhost
import Derived.Deep.QuietTactic
import Derived.BigQuiet
import Derived.WideLaws
import Derived.Deep.DeepCutAuto
import Derived.Deep.CutBlock
import Derived.Deep.RegionHeld3
import Derived.Laws.Rows
import Derived.Lib.AppendStr
import Derived.ArgAppend
import Derived.Laws.IdiomCopy
import Derived.RowKit
import Derived.OrdersHeld
import Derived.Laws.BitsLemmas
import Derived.Laws.StructEq
import Derived.SizedLaws
import Derived.ChangeSlices
import Derived.Test.YtidglmocekghmaaDoorProg
import Derived.Lib.Hide
import Derived.WalkLawsBesides
import Derived.WalkSpells
import Derived.Outline
import Derived.IntWalk
import Derived.Laws.AppendOwn
import Derived.RangeFuncBox
import Derived.Lib.JoinLaws
import Derived.Defers
import Derived.Recover
import Derived.Laws.Pointers
import Derived.Test.YtidglmocekghmaaDoorCards
import Derived.ProofKit
import Derived.LaidMore
import Derived.LaidHandle
import Derived.Maps.Keyed
import Derived.WideKeyElems2
import Derived.Lib.LaidTab
import Derived.OpenShut
import Derived.Lib.SmallJoins
import Derived.Test.YtidglmocekghmaaDoorRows
import Derived.ChangeOld
import Derived.DataReads
import Derived.Test.YtidglmocekghmaaDoorTie
import Derived.ShutString
import Derived.JoinedCond
import Derived.Deep.DeepHandedRow
set_option linter.unusedVariables false
set_option linter.unusedSimpArgs false
section
namespace Go.Proofs.YtidglmocekghmaaDoor.Pr
open Go.RowKit Go.ChangeShapes Go.WideShapes Go.ChangeAt Go.Proofs.YtidglmocekghmaaDoorW.PrintWords Go.Proofs.YtidglmocekghmaaDoorW.PrintLast Go.Proofs.YtidglmocekghmaaDoorW.PrintMore
set_option linter.unusedVariables false
set_option linter.unusedSimpArgs false
section
variable {H : Type} {enc : TypeId × Value → H} {w : World} {base : Nat} {held : Bool}
set_option maxRecDepth 100000 in
theorem open_node : ∀ (fuel : Nat) (cs : List Value) (x : DataW H × List MemPlace), DataW.trod enc Tryd.prog w base (fun _ => true) held fuel 37 cs = some x → ∃ a : S37, k37.K w a cs ∧ okT a ∧ tsize a ≤ Rows.uptoBulk x.1 := by
 intro fuel
 induction fuel using Nat.strongRecOn with
 | _ fuel ih =>
 intro cs x h
 obtain ⟨xs, n, rfl, rfl, hl, hlen, hf⟩ := DataW.trod_struct Tryd.underlying37 h
 have z37 : Tryd.prog.cellsOf 37 = 5 := by kernel_rfl
 have z3 : Tryd.prog.cellsOf 3 = 1 := by kernel_rfl
 have zb : Tryd.prog.cellsOf 34 = 1 := by kernel_rfl
 have zn : Tryd.prog.cellsOf 35 = 1 := by kernel_rfl
 rw [z37] at hl
 match xs, hlen, cs, hl with
 | [y0, y1, y2, y3, y4], _, [c0, c1, c2, c3, c4], _ =>
 have h0 : DataW.trod enc Tryd.prog w base (fun _ => true) held n 3 [c0] = some y0 := by simpa [z3] using hf 0 _ rfl
 have h1 : DataW.trod enc Tryd.prog w base (fun _ => true) held n 3 [c1] = some y1 := by simpa [z3] using hf 1 _ rfl
 have h2 : DataW.trod enc Tryd.prog w base (fun _ => true) held n 3 [c2] = some y2 := by simpa [z3] using hf 2 _ rfl
 have h3 : DataW.trod enc Tryd.prog w base (fun _ => true) held n 34 [c3] = some y3 := by simpa [zb] using hf 3 _ rfl
 have h4 : DataW.trod enc Tryd.prog w base (fun _ => true) held n 35 [c4] = some y4 := by simpa [zn] using hf 4 _ rfl
 obtain ⟨n0, e0, rfl, _⟩ := DataW.trod_int Tryd.underlying3 h0
 obtain ⟨n1, e1, rfl, _⟩ := DataW.trod_int Tryd.underlying3 h1
 obtain ⟨n2, e2, rfl, _⟩ := DataW.trod_int Tryd.underlying3 h2
 obtain ⟨A3, k3, zs, e3, l3, g3, hzb, hb3⟩ := bulk_bytes h3
 simp only [List.cons.injEq, and_true] at e0 e1 e2 e3
 subst e0 e1 e2 e3
 have kids : ∃ (A : Option Addr) (c : Nat) (L : List S37), c4 = .slice A L.length c ∧ L.length ≤ c ∧ k37.C w A L.length L ∧ (∀ a ∈ L, okT a) ∧ tsizes L ≤ Rows.uptoBulk y4.1 := by
  rcases DataW.trod_slice Tryd.underlying35 h4 with ⟨e4, rfl⟩ | ⟨ad, len, cap, elems, rest, m, rfl, e4, rfl, hb, hle, hmax, hel0, hel, _, _⟩
  ·simp only [List.cons.injEq, and_true] at e4
   exact ⟨none, 0, [], e4, Nat.le_refl _, Kd.C_nil _ _, by simp, by simp [tsizes]⟩
  ·simp only [List.cons.injEq, and_true] at e4
   have each : ∀ i, i < len → ∃ (cs' : List Value) (a : S37), (∀ (j : Nat) (u : Value), cs'[j]? = some u → w.cell? ((ad.add (i * 5)).add j) = some u) ∧ cs'.length = 5 ∧ k37.K w a cs' ∧ okT a ∧ ∀ d, (elems.map (·.1))[i]? = some d → tsize a ≤ Rows.uptoBulk d := fun i hi => by
    have hq := hel i hi
    rw [z37, List.getElem?_eq_getElem (by omega)] at hq
    obtain ⟨cs', hc, ht⟩ := Option.bind_eq_some_iff.1 hq
    obtain ⟨a, hK, hok, hsz⟩ := ih m (by omega) cs' _ ht
    obtain ⟨hlc, hcc⟩ := cells_each hc
    refine ⟨cs', a, hcc, hlc, hK, hok, fun d hd => ?_⟩
    rw [List.getElem?_map, List.getElem?_eq_getElem (by omega)] at hd
    obtain rfl : elems[i].1 = d := by simpa using hd
    exact hsz
   classical
   let f : Nat → S37 := fun i => if hi : i < len then (each i hi).choose_spec.choose else ⟨0, 0, 0, [], []⟩
   have hfs : ∀ i (hi : i < len), f i = (each i hi).choose_spec.choose := fun i hi => dif_pos hi
   have hL : ((List.range len).map f).length = len := by simp
   have hget : ∀ (j : Nat) (p : S37), ((List.range len).map f)[j]? = some p → ∃ hj : j < len, p = (each j hj).choose_spec.choose := fun j p hp => by
    have hj : j < len := by have := (List.getElem?_eq_some_iff.1 hp).1; rwa [hL] at this
    refine ⟨hj, ?_⟩
    rw [← hfs j hj]
    simp [hj] at hp
    exact hp.symm
   refine ⟨some ad, cap, (List.range len).map f, by rw [hL]; exact e4, by rw [hL]; exact hle, ⟨rfl, by rw [hL]; simp only [maxLen] at hmax; omega, fun hp => ⟨ad, rfl, fun j p hj => ?_⟩⟩, fun a ha => ?_, ?_⟩
   ·obtain ⟨hjl, rfl⟩ := hget j p hj
    obtain ⟨hc, hlc, hK, _⟩ := (each j hjl).choose_spec.choose_spec
    refine ⟨(each j hjl).choose, hlc, hK, fun i u hu => ?_⟩
    have := hc i u hu
    rw [Addr.add_add] at this
    exact this
   ·obtain ⟨j, hj⟩ := List.getElem?_of_mem ha
    obtain ⟨hjl, rfl⟩ := hget j a hj
    exact (each j hjl).choose_spec.choose_spec.2.2.2.1
   ·refine Nat.le_trans (sizes_bulk _ (elems.map (·.1)) (by simp; omega) fun i x d hx hd => ?_) (by simp only [Rows.uptoBulk]; omega)
    obtain ⟨hjl, rfl⟩ := hget i x hx
    exact (each i hjl).choose_spec.choose_spec.2.2.2.2 d hd
 obtain ⟨A4, k4, L, rfl, l4, g4, hLok, hb4⟩ := kids
 refine ⟨⟨n0, n1, n2, zs, L⟩, k37_mk w ⟨n0, n1, n2, zs, L⟩ l3 g3 l4 g4, .mk hzb hLok, ?_⟩
 simp only [tsize, Rows.uptoBulk, Rows.uptoBulkAll, List.map_cons, List.map_nil]
 omega
end
end Go.Proofs.YtidglmocekghmaaDoor.Pr
end
section
namespace Go.Proofs.YtidglmocekghmaaDoor.canoncheckLimits
open Go.ChangeShapes Go.WideShapes Go.ChangeAt Go.RowKit Go.Joins Go.Proofs.YtidglmocekghmaaDoor.Pr
set_option linter.unusedVariables false
set_option linter.unusedSimpArgs false
theorem u16_range {n : Int} (h : (Lit.int .u16 n).wf = true) : 0 ≤ n ∧ n ≤ 65535 := by
 simpa [Lit.wf, IntKind.min, IntKind.max, IntKind.signed, IntKind.bits] using h
theorem own : ownKnob Tryd.prog.godebug = none := by kernel_rfl
theorem laidOut : laidOutB Tryd.prog = true := by kernel_rfl
set_option maxRecDepth 100000 in
theorem contract (H : Type) (enc : TypeId × Value → H) (W : World) (base : Nat) (args : Array Value) (ds gs : List (DataW H)) (before : List MemPlace)
  (hval0 : ∀ (j : Nat) t v, Tryd.f6.params[j]? = some t → args[j]? = some v → Value.okWide Tryd.prog W .any base t v)
  (hW : DataW.Whole enc Tryd.prog Tryd.f6.params.toList Rows.canoncheckLimitsSpec.vars false W args.toList ds gs before) (hL0 : laidMetH Tryd.prog Rows.canoncheckLimitsUptoRow.laid W) (hbulk : Rows.uptoSmall H (ds ++ gs) = true) :
  Calls Tryd.prog 6 args W fun e W' => ∃ v, e = .returned v ∧ Rows.canoncheckLimitsSpec.post enc Tryd.prog Tryd.f6 false true false false W args v W' := by
 have hL : laidMetH Tryd.prog TabD.laidL W := hL0
 have hval : ∀ (j : Nat) t v, Tryd.f6.params[j]? = some t → args[j]? = some v → Value.okWide Tryd.prog W .any base t v := hval0
 have hW' := hW
 obtain ⟨p, q, hA0, hV, rfl, hfz, hnd⟩ := hW
 have hA : DataW.TrodAll enc Tryd.prog W 0 (fun _ => true) true Tryd.f6.params.toList args.toList ds p := hA0
 rw [Tryd.params6] at hA hval
 obtain ⟨v0, vs0, d0, ds0, p0, q0, hargs, rfl, rfl, h0, r0⟩ := trodAll_cons hA
 obtain ⟨v1, vs1, d1, ds1, p1, q1, rfl, rfl, rfl, h1, r1⟩ := trodAll_cons r0
 obtain ⟨v2, vs2, d2, ds2, p2, q2, rfl, rfl, rfl, h2, r2⟩ := trodAll_cons r1
 obtain ⟨rfl, rfl, rfl⟩ := trodAll_nil r2
 obtain rfl : args = #[v0, v1, v2] := by cases args; simp_all
 obtain ⟨rfl, rfl⟩ := trodVars_none hV
 have k0 := h0
 have lt0 : ∀ x ∈ p0, x.block < W.heap.size := by obtain ⟨m, hm⟩ := k0; exact DataW.trod_lt m _ _ _ hm
 obtain ⟨cs0, rfl, hn0⟩ := okWide_struct Tryd.underlying37 (hval 0 37 v0 rfl rfl)
 obtain ⟨fuel0, hf0⟩ := h0
 obtain ⟨a0, K0, ok0, sz0⟩ := open_node _ _ _ hf0
 obtain ⟨A0_3, c0_3, A0_4, c0_4, e0, l0_3, g0_3, l0_4, g0_4⟩ := k37_open K0
 obtain rfl : cs0 = #[.int .i64 a0.f0, .int .i64 a0.f1, .int .i64 a0.f2, .slice A0_3 a0.f3.length c0_3, .slice A0_4 a0.f4.length c0_4] := by
  have e' : cs0.toList = _ := e0
  rw [← Array.toArray_toList (xs := cs0), e']
 clear e0 hf0 hn0
 have sz0 : tsize a0 ≤ Rows.uptoBulk d0 := sz0
 have k1 := h1
 have lt1 : ∀ x ∈ p1, x.block < W.heap.size := by obtain ⟨m, hm⟩ := k1; exact DataW.trod_lt m _ _ _ hm
 obtain ⟨a1, rfl, _, _, w1⟩ := open_int Tryd.underlying5 (hval 1 5 v1 rfl rfl) h1
 clear h1
 have k2 := h2
 have lt2 : ∀ x ∈ p2, x.block < W.heap.size := by obtain ⟨m, hm⟩ := k2; exact DataW.trod_lt m _ _ _ hm
 obtain ⟨a2, rfl, _, _, w2⟩ := open_int Tryd.underlying38 (hval 2 38 v2 rfl rfl) h2
 clear h2
 have hk : Rows.uptoBulk d0 + Rows.uptoBulk d1 + Rows.uptoBulk d2 ≤ 1048576 := by have h := of_decide_eq_true hbulk; simp only [Rows.uptoBulkAll, List.nil_append, List.append_nil, List.cons_append] at h; omega
 clear hA0 hval0 hL0
 refine (limits_law a0 A0_3 A0_4 c0_3 c0_4 a1 a2 W K0 (by omega) ok0 (TabD.u8_range w1) (u16_range w2) (TabD.tabs hL)).mono fun e W' ⟨he, bel⟩ => ?_
 subst he
 exact ⟨_, rfl, _, _, _, [], _, [], hW', trodAll_mk1 (shut_bool Tryd.underlying4 _), (trodAll_cons_mk (Below.trod laidOut (by kernel_rfl) (of_decide_eq_true (by kernel_rfl)) k0 bel lt0) (trodAll_cons_mk (Below.trod laidOut (by kernel_rfl) (of_decide_eq_true (by kernel_rfl)) k1 bel lt1) (trodAll_cons_mk (Below.trod laidOut (by kernel_rfl) (of_decide_eq_true (by kernel_rfl)) k2 bel lt2) trodAll_mk0))), rfl, bel.frame _, fun h => by cases h⟩
theorem laid_met (os : Os) : laidMetH Tryd.prog Rows.canoncheckLimitsUptoRow.laid ((World.doorLaid Tryd.prog 600 os).forCall (fun _ _ => 0) ⟨#[], #[.agg #[.int .i64 0, .int .i64 0, .int .i64 0, .slice none 0 0, .slice none 0 0], .int .u8 0, .int .u16 0], []⟩).memory :=
 laidMetH_of_parts3 (fuel := 8) (laidMet_of_run' 8 (by kernel_rfl) (by kernel_rfl)) (by kernel_rfl) (by kernel_rfl)
theorem reads (os : Os) {H : Type} (enc : TypeId × Value → H) : ∃ places, DataW.whole enc Tryd.prog ((World.doorLaid Tryd.prog 600 os).forCall (fun _ _ => 0) ⟨#[], #[.agg #[.int .i64 0, .int .i64 0, .int .i64 0, .slice none 0 0, .slice none 0 0], .int .u8 0, .int .u16 0], []⟩).memory Tryd.f6.params.toList Rows.canoncheckLimitsSpec.vars false (#[.agg #[.int .i64 0, .int .i64 0, .int .i64 0, .slice none 0 0, .slice none 0 0], .int .u8 0, .int .u16 0] : Array Value).toList 10 = some ([.agg [.lit (.int .i64 0), .lit (.int .i64 0), .lit (.int .i64 0), .nil, .nil], .lit (.int .u8 0), .lit (.int .u16 0)], [], places) :=
 ⟨[], by kernel_rfl⟩
set_option maxRecDepth 100000 in
theorem lifted (os : Os) (started : os.Started) (H : Type) (enc : TypeId × Value → H) (F : Stop.Interp) :
  ReturnsInHanded {} Tryd.checked os 6 .any ((Rows.OpenSpec.upto Rows.canoncheckLimitsSpec).preRow enc Tryd.prog Tryd.f6 Rows.canoncheckLimitsUptoRow.domain false Rows.canoncheckLimitsUptoRow.laid) (((Rows.OpenSpec.upto Rows.canoncheckLimitsSpec).at F).post enc Tryd.prog Tryd.f6 false true false false) := by
 obtain ⟨places, hx⟩ := reads os enc
 refine returnsInHanded_of_row (C := Tryd.checked) (s := (Rows.OpenSpec.upto Rows.canoncheckLimitsSpec)) own started (by kernel_rfl) Tryd.func6
  (witness_row_at (enc := enc) (C := Tryd.checked) false (World.doorLaid Tryd.prog 600 os) #[.agg #[.int .i64 0, .int .i64 0, .int .i64 0, .slice none 0 0, .slice none 0 0], .int .u8 0, .int .u16 0] rfl (by kernel_rfl) (by kernel_rfl) (by kernel_rfl)
   (OpenSpec.preRow_of_cond 10 hx (by kernel_rfl) (fun k hk => by cases hk; kernel_rfl) (by kernel_rfl) (laid_met os))) ?_
 intro W base args ds gs before hval hW _ hcond _ hL _ _
 exact contract H enc W base args ds gs before hval hW hL (hcond _ rfl)
theorem said : Rows.CanoncheckLimitsUptoSaid :=
 OpenClaim.holds_of_cond 6 Tryd.f6 rfl rfl rfl rfl rfl rfl rfl ⟨rfl, rfl, rfl, rfl, rfl⟩ rfl rfl rfl rfl rfl (by kernel_rfl) Tryd.func6 (by kernel_rfl)
  (of_decide_eq_true (by kernel_rfl)) (by unfold Func.isWrapper; first | (rw [if_pos (by decide +kernel)]; kernel_rfl) | (rw [if_neg (by decide +kernel)]; exact ⟨rfl, rfl⟩))
  (fun os started H enc _ F => by rw [OpenClaim.pre_eq_preRow]; exact lifted os started H enc F)
theorem plain (f : FuncId) (fn : Func) (hf : Tryd.pinned.checked.prog.funcNamed "capnp/capnplaw16.CanoncheckLimits" = some f) (hfn : Tryd.pinned.checked.prog.funcs[f]? = some fn) :
  true = Tryd.pinned.checked.prog.looks [] ∧ ∀ (j : Nat) t, fn.params[j]? = some t → Tryd.pinned.checked.prog.wantsStandIn t = false := by
 obtain rfl : f = 6 := Option.some.inj ((show Tryd.prog.funcNamed "capnp/capnplaw16.CanoncheckLimits" = some 6 by kernel_rfl).symm.trans hf) |>.symm
 obtain rfl : fn = Tryd.f6 := (Option.some.inj (Tryd.func6.symm.trans hfn)).symm
 refine ⟨by kernel_rfl, fun j t ht => ?_⟩
 rw [Tryd.params6] at ht
 have hm : t = 37 ∨ t = 5 ∨ t = 38 := by have := Array.mem_of_getElem? ht; simp at this; omega
 rcases hm with rfl | rfl | rfl
 ·exact (show Tryd.prog.wantsStandIn 37 = false by kernel_rfl)
 ·exact (show Tryd.prog.wantsStandIn 5 = false by kernel_rfl)
 ·exact (show Tryd.prog.wantsStandIn 38 = false by kernel_rfl)
theorem card : Rows.CanoncheckLimitsUptoCardSaid :=
 Claim7.holds_tied_plain_at .later [] _ _ _ _ said (fun _ h => by cases h) (by kernel_rfl) (fun _ h => by cases h) canoncheckLimitsUpto_row_tie rfl ⟨rfl, rfl⟩ (by kernel_rfl) rfl plain (by kernel_rfl)
#print axioms card
end Go.Proofs.YtidglmocekghmaaDoor.canoncheckLimits
namespace Go.Proofs.YtidglmocekghmaaDoor
theorem canoncheckLimits_holds : Rows.CanoncheckLimitsUptoCardSaid := canoncheckLimits.card
end Go.Proofs.YtidglmocekghmaaDoor
end
