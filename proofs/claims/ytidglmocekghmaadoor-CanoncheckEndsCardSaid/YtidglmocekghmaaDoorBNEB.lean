/- A part of the proof of YtidglmocekghmaaDoorEndsCard (the texts that it stands on, gathered; declarations that nothing uses are left out). -/
import Derived.Test.YtidglmocekghmaaDoorBNEA
import Derived.Below
import Derived.Deep.Draws
import Derived.Deep.AppendLies
import Derived.Maps.AppendAt
import Derived.OwnWalk
import Derived.Laws.BytesArg
import Derived.Laws.MakeOwn
import Derived.Laws.OwnMore
import Derived.Deep.OwnRows
import Derived.Tactics
import Derived.Lib.ConvBytes
import Derived.Laws.Slices
import Derived.WalkKit
import Derived.KernelRfl
import Derived.RowKit3
import Derived.Deep.LoopGhost
import Derived.Deep.QuietTactic
import Derived.BigQuiet
import Derived.WideLaws
import Derived.Deep.DeepCutAuto
import Derived.Deep.CutBlock
import Derived.Deep.RegionHeld3
import Derived.Laws.Rows
import Derived.Lib.AppendStr
import Derived.ArgAppend
import Derived.Laws.IdiomCopy
import Derived.RowKit
import Derived.OrdersHeld
import Derived.Laws.BitsLemmas
import Derived.Laws.StructEq
import Derived.SizedLaws
import Derived.ChangeSlices
import Derived.Test.YtidglmocekghmaaDoorProg
import Derived.Lib.Hide
import Derived.WalkLawsBesides
import Derived.WalkSpells
import Derived.Outline
import Derived.IntWalk
import Derived.Laws.AppendOwn
section
namespace Go.Proofs.YtidglmocekghmaaDoor.Pr
open Go.RowKit Go.Proofs.YtidglmocekghmaaDoorW.PrintWords Go.Proofs.YtidglmocekghmaaDoorW.PrintLast Go.Proofs.YtidglmocekghmaaDoorW.PrintMore
set_option linter.unusedVariables false
set_option linter.unusedSimpArgs false
set_option maxHeartbeats 2000000 in
theorem pointers_any {W0 w : World} {s : List Int} {A : Option Addr} {cp g nx m : Nat} {D Wd O : Int} (hE : Env W0 s A) (hK : Ck W0 s A cp D Wd O g nx m w) {v : Nat → Nat → Nat → Option (Nat × Nat)} {a n : Nat} {depth : Int} (hv : InM s v) (hd0 : 0 ≤ depth) (hd1 : depth ≤ 1000000)
    (hV : VisC W0 s A cp D Wd O g v (depth + 1)) (ha : a + n ≤ s.length) (hx : nx ≤ s.length) (hm : m ≤ 4611686018427387904) :
    Calls Tryd.prog 58 #[.pointer (some ⟨g, 0, none⟩), .int .i64 a, .int .i64 n, .int .i64 depth] w fun e w' => EndM W0 s A cp D Wd O g w (ptrsM v n a nx m) e w' := by
  have hl := hE.len
  have HV := Lib.hid hV
  have P0 : Hid (PtrsAt v W0 s A cp D Wd O g n a nx m w 0 nx m w) := Lib.hid ⟨Nat.zero_le _, rfl, hK, Gr.refl _ _, hx, Nat.le_refl _⟩
  have HE := Lib.hid hE
  have HI := Lib.hid hv
  clear hV hK hE hv
  go_enter Tryd.func58, Tryd.ntmps58
  go_wp2_with fail
  go_loopw [8, 10] (fun _ i wr => ∃ k nk mk : Nat, i = .int .i64 k ∧ Hid (PtrsAt v W0 s A cp D Wd O g n a nx m w k nk mk wr)) (fun _ i _ => n - (intOf i).toNat)
  case atStart => exact ⟨0, nx, m, rfl, P0⟩
  case round =>
    clear P0
    obtain ⟨k, nk, mk, rfl, HP⟩ := hrel
    have hkn := HP.out.le
    have hml := HP.out.ml
    by_cases hlt : k < n
    · have hk0 : (0 : Int) ≤ (k : Int) := Int.natCast_nonneg _
      have ea : ((a : Int) + (k : Int)) = ((a + k : Nat) : Int) := by omega
      have EA := Lib.hid ea
      clear ea
      go_wp2_with fail
      rw [EA.out]
      refine (HV.out (a + k) nk mk wr (by omega) HP.out.nl (by omega) HP.out.ck).mono ?_
      rintro e w1 (⟨q, hq, rfl, hg, hc⟩ | ⟨hq, rfl, hg⟩)
      · have HP' := Lib.hid (HP.out.step HI.out hlt hq hg hc)
        clear HP hq hg hc
        go_wp2
        go_roundw
        case rel => exact ⟨k + 1, q.1, q.2, by go_num, HP'⟩
        case measure => simp [intOf]; omega
      · have hb := HP.out.bad hlt hq
        have hg' := HP.out.gr.trans hg
        have HB := Lib.hid hb
        clear hq hb
        go_wp2
        exact ⟨rfl, .inr ⟨HB.out, rfl, hg'⟩⟩
    · obtain rfl : k = n := by omega
      go_wp2
      go_end0
      exact .inl ⟨(nk, mk), HP.out.done, rfl, HP.out.gr, HP.out.ck⟩
end Go.Proofs.YtidglmocekghmaaDoor.Pr
end
section
namespace Go.Proofs.YtidglmocekghmaaDoor.Pr
open Go.RowKit Go.Proofs.YtidglmocekghmaaDoorW.PrintWords Go.Proofs.YtidglmocekghmaaDoorW.PrintLast Go.Proofs.YtidglmocekghmaaDoorW.PrintMore
set_option linter.unusedVariables false
set_option linter.unusedSimpArgs false
theorem goes_bad {P : Program} {ops : Array Oper} {Q : Exit → Act → World → Prop} {oi : Oper} {N : Option Tmp} {a : Act} {w : World} {K : Act → World → Prop} {f : FuncId} {fn : Func} {as_ : Array Operand} {ts : Array TypeId} (hf : P.funcs[f]? = some fn) (hname : (fn.name == "runtime.NumGoroutine") = false) (hb : fn.body.isSome = true) (args : Array Value)
    (hw : Region.wanted oi (yielded ops a.tmps) = true) (hop : oi.op = .call { callee := .value (.func f), args := as_, argTypes := ts }) (hargs : as_.map a.eval = args)
    (h : Calls P f args w fun e w' => ∃ c, e = .panicked c ∧ Q (.panic c) a w') : if Region.wanted oi (yielded ops a.tmps) = true then Oper.wp P oi a w K Q else K (a.put N undef) w := by
  have he := enters_ hf hname hb args w
  have hrun : (execOp a.eval oi).run P w = .ok (.enter f args) w := by
    unfold execOp
    simp [hop, resolve, Deferred.ofValue, invoke, Act.eval, hargs, he]
  rw [if_pos hw]
  unfold Oper.wp
  rw [hrun, Oper.upon_enter]
  refine h.mono fun e w'' hh => ?_
  obtain ⟨c, rfl, hk⟩ := hh
  exact hk
theorem wd_cell {W0 w : World} {s : List Int} {b off i : Nat} (he : Env W0 s (some ⟨b, off, none⟩)) (h : Below W0.heap.size W0 w) (hi : i < s.length) : w.cell? ⟨b, off + i, none⟩ = some (.int .u64 (wd s i)) := by
  obtain ⟨ad, e, hc⟩ := he.cell h hi
  obtain rfl := Option.some.inj e
  simpa [Addr.add_lit] using hc
theorem Env.addr {W0 : World} {s : List Int} {A : Option Addr} (he : Env W0 s A) (h0 : 0 < s.length) : ∃ b off, A = some ⟨b, off, none⟩ := by
  obtain ⟨ad, rfl, hc⟩ := he.cell (Below.refl _ _) h0
  obtain ⟨b, off, spot⟩ := ad
  have : spot = none := by simpa [Addr.add] using World.cell?_spot hc
  subst this
  exact ⟨b, off, rfl⟩
theorem idx_wraps {a b j : Nat} (h : a + b = j + 1) (hj : j ≤ 1152921504606846976) :
    IntKind.i64.wrap ((a : Int) + (b : Int)) = ((j + 1 : Nat) : Int) ∧ IntKind.i64.wrap (((j + 1 : Nat) : Int) - 1) = (j : Int) ∧ wrap64 ((a : Int) + (b : Int)) = ((j + 1 : Nat) : Int) ∧ wrap64 (((j + 1 : Nat) : Int) - 1) = (j : Int) ∧ wrap64 (j : Int) = (j : Int) ∧ IntKind.i64.wrap (j : Int) = (j : Int) := by
  have e : (a : Int) + (b : Int) = ((j + 1 : Nat) : Int) := by omega
  have e2 : ((j + 1 : Nat) : Int) - 1 = (j : Int) := by omega
  rw [e, e2]
  exact ⟨IntWalk.i64_in _ ⟨by omega, by omega⟩, IntWalk.i64_in _ ⟨by omega, by omega⟩, IntWalk.wrap64_in _ ⟨by omega, by omega⟩, IntWalk.wrap64_in _ ⟨by omega, by omega⟩, IntWalk.wrap64_in _ ⟨by omega, by omega⟩, IntWalk.i64_in _ ⟨by omega, by omega⟩⟩
theorem sum_wraps {a b k : Nat} (h : a + b = k) (hj : k ≤ 1152921504606846976) : IntKind.i64.wrap ((a : Int) + (b : Int)) = (k : Int) ∧ wrap64 ((a : Int) + (b : Int)) = (k : Int) := by
  have e : (a : Int) + (b : Int) = (k : Int) := by omega
  rw [e]
  exact ⟨IntWalk.i64_in _ ⟨by omega, by omega⟩, IntWalk.wrap64_in _ ⟨by omega, by omega⟩⟩
set_option maxHeartbeats 4000000 in
theorem struct_0a {W0 w : World} {s : List Int} {cp g nx m : Nat} {D Wd O : Int} {sb so at_ d p : Nat} {off depth : Int} (hE : Env W0 s (some ⟨sb, so, none⟩)) (hK : Ck W0 s (some ⟨sb, so, none⟩) cp D Wd O g nx m w) (ha : at_ ≤ 17592186040320) (ho0 : -536870912 ≤ off) (ho1 : off ≤ 536870911) (hd : d ≤ 65535) (hp : p ≤ 65535) (hx : nx ≤ s.length) (hm : m ≤ 4611686018427387904) (hcp : s.length ≤ cp) (hdp : d + p = 0) (h1 : off = -1) :
    Calls Tryd.prog 33 #[.pointer (some ⟨g, 0, none⟩), .int .i64 at_, .int .i64 depth, .agg #[.int .i64 0, .int .i64 off, .int .i64 d, .int .i64 p, .int .i64 0, .int .i64 0, .bool false, .int .i64 0, .int .u32 0, .int .u32 0]] w fun e w' => (e = .returned (.tuple #[]) ∧ Gr g w w' ∧ Ck W0 s (some ⟨sb, so, none⟩) cp D Wd O g nx m w') := by
  have HLEN := Lib.hid hE.len
  have hlen := hE.len
  obtain rfl : d = 0 := by omega
  obtain rfl : p = 0 := by omega
  subst h1
  have GK := Lib.hid (Gr.refl g w)
  have CK := Lib.hid hK
  have HE := Lib.hid hE
  clear hE hK
  go_enter Tryd.func33, Tryd.ntmps33
  go_wp2_with fail
  have lg : g < w.heap.size := blk_lt CK.out.blk
  refine calls_at (fun wa hW => ?_)
  have hb : Below w.heap.size w wa := by rw [hW]; exact (Below.refl _ _).alloc (Nat.le_refl _) _
  have nB : wa.heap[w.heap.size]? = some (.cells #[.int .i64 0, .int .i64 (-1), .int .i64 0, .int .i64 0, .int .i64 0, .int .i64 0, .bool false, .int .i64 0, .int .u32 0, .int .u32 0] 67 (0, 0)) := by rw [hW]; exact heap_alloc_new _ _
  have neB : w.heap.size ≠ g := by omega
  clear hW lg
  replace GK := Lib.hid (GK.out.then hb)
  replace CK := Lib.hid (CK.out.then hb)
  clear hb
  have B := Lib.hid nB
  clear nB
  refine (must_yes wa).mono ?_
  rintro e wy ⟨rfl, rfl⟩
  go_wp2
  refine bodyPost_ret (results_none rfl _ _ _) rfl ?_
  exact ⟨rfl, GK.out, CK.out⟩
set_option maxHeartbeats 4000000 in
theorem struct_0b {W0 w : World} {s : List Int} {cp g nx m : Nat} {D Wd O : Int} {sb so at_ d p : Nat} {off depth : Int} (hE : Env W0 s (some ⟨sb, so, none⟩)) (hK : Ck W0 s (some ⟨sb, so, none⟩) cp D Wd O g nx m w) (ha : at_ ≤ 17592186040320) (ho0 : -536870912 ≤ off) (ho1 : off ≤ 536870911) (hd : d ≤ 65535) (hp : p ≤ 65535) (hx : nx ≤ s.length) (hm : m ≤ 4611686018427387904) (hcp : s.length ≤ cp) (hdp : d + p = 0) (h1 : ¬ off = -1) :
    Calls Tryd.prog 33 #[.pointer (some ⟨g, 0, none⟩), .int .i64 at_, .int .i64 depth, .agg #[.int .i64 0, .int .i64 off, .int .i64 d, .int .i64 p, .int .i64 0, .int .i64 0, .bool false, .int .i64 0, .int .u32 0, .int .u32 0]] w fun e w' => e = .panicked [{ v := .iface 47 (.agg #[]), recovered := false }] ∧ Gr g w w' := by
  have HLEN := Lib.hid hE.len
  have hlen := hE.len
  obtain rfl : d = 0 := by omega
  obtain rfl : p = 0 := by omega
  have h2 : (off == -1) = false := beq_eq_false_iff_ne.2 h1
  clear h1
  have GK := Lib.hid (Gr.refl g w)
  have CK := Lib.hid hK
  have HE := Lib.hid hE
  clear hE hK
  go_enter Tryd.func33, Tryd.ntmps33
  go_wp2_with fail
  have lg : g < w.heap.size := blk_lt CK.out.blk
  refine calls_at (fun wa hW => ?_)
  have hb : Below w.heap.size w wa := by rw [hW]; exact (Below.refl _ _).alloc (Nat.le_refl _) _
  have nB : wa.heap[w.heap.size]? = some (.cells #[.int .i64 0, .int .i64 off, .int .i64 0, .int .i64 0, .int .i64 0, .int .i64 0, .bool false, .int .i64 0, .int .u32 0, .int .u32 0] 67 (0, 0)) := by rw [hW]; exact heap_alloc_new _ _
  have neB : w.heap.size ≠ g := by omega
  clear hW lg
  replace GK := Lib.hid (GK.out.then hb)
  replace CK := Lib.hid (CK.out.then hb)
  clear hb
  have B := Lib.hid nB
  clear nB
  refine (must_no wa).mono ?_
  rintro e wy ⟨rfl, rfl⟩
  go_wp2
  exact ⟨rfl, rfl, GK.out⟩
set_option maxHeartbeats 4000000 in
theorem struct_1 {W0 w : World} {s : List Int} {cp g nx m : Nat} {D Wd O : Int} {sb so at_ d p : Nat} {off depth : Int} (hE : Env W0 s (some ⟨sb, so, none⟩)) (hK : Ck W0 s (some ⟨sb, so, none⟩) cp D Wd O g nx m w) (ha : at_ ≤ 17592186040320) (ho0 : -536870912 ≤ off) (ho1 : off ≤ 536870911) (hd : d ≤ 65535) (hp : p ≤ 65535) (hx : nx ≤ s.length) (hm : m ≤ 4611686018427387904) (hcp : s.length ≤ cp) (hdp : ¬ d + p = 0) (hob : ¬ objM s at_ off (d + p) nx = true) :
    Calls Tryd.prog 33 #[.pointer (some ⟨g, 0, none⟩), .int .i64 at_, .int .i64 depth, .agg #[.int .i64 0, .int .i64 off, .int .i64 d, .int .i64 p, .int .i64 0, .int .i64 0, .bool false, .int .i64 0, .int .u32 0, .int .u32 0]] w fun e w' => e = .panicked [{ v := .iface 47 (.agg #[]), recovered := false }] ∧ Gr g w w' := by
  have HLEN := Lib.hid hE.len
  have hlen := hE.len
  have t0 : ((d : Int) + (p : Int) == 0) = false := beq_eq_false_iff_ne.2 (by omega)
  have GK := Lib.hid (Gr.refl g w)
  have CK := Lib.hid hK
  have HE := Lib.hid hE
  clear hE hK
  go_enter Tryd.func33, Tryd.ntmps33
  go_wp2_with fail
  have lg : g < w.heap.size := blk_lt CK.out.blk
  refine calls_at (fun wa hW => ?_)
  have hb : Below w.heap.size w wa := by rw [hW]; exact (Below.refl _ _).alloc (Nat.le_refl _) _
  have nB : wa.heap[w.heap.size]? = some (.cells #[.int .i64 0, .int .i64 off, .int .i64 d, .int .i64 p, .int .i64 0, .int .i64 0, .bool false, .int .i64 0, .int .u32 0, .int .u32 0] 67 (0, 0)) := by rw [hW]; exact heap_alloc_new _ _
  have neB : w.heap.size ≠ g := by omega
  clear hW lg
  replace GK := Lib.hid (GK.out.then hb)
  replace CK := Lib.hid (CK.out.then hb)
  clear hb
  have B := Lib.hid nB
  clear nB
  have e0 : ((d : Int) + (p : Int)) = ((d + p : Nat) : Int) := by omega
  rw [e0]
  clear e0
  refine (object_no HE.out CK.out ha ⟨ho0, ho1⟩ (by omega) hx hcp hob).mono ?_
  rintro e w1 ⟨rfl, hg⟩
  have hg' := GK.out.trans hg
  clear hg
  go_wp2
  exact ⟨rfl, rfl, hg'⟩
set_option maxHeartbeats 4000000 in
theorem struct_2 {W0 w : World} {s : List Int} {cp g nx m : Nat} {D Wd O : Int} {sb so at_ d p : Nat} {off depth : Int} (hE : Env W0 s (some ⟨sb, so, none⟩)) (hK : Ck W0 s (some ⟨sb, so, none⟩) cp D Wd O g nx m w) (ha : at_ ≤ 17592186040320) (ho0 : -536870912 ≤ off) (ho1 : off ≤ 536870911) (hd : d ≤ 65535) (hp : p ≤ 65535) (hx : nx ≤ s.length) (hm : m ≤ 4611686018427387904) (hcp : s.length ≤ cp) (hdp : ¬ d + p = 0) (hob : objM s at_ off (d + p) nx = true) (hch : ¬ d + p ≤ m) :
    Calls Tryd.prog 33 #[.pointer (some ⟨g, 0, none⟩), .int .i64 at_, .int .i64 depth, .agg #[.int .i64 0, .int .i64 off, .int .i64 d, .int .i64 p, .int .i64 0, .int .i64 0, .bool false, .int .i64 0, .int .u32 0, .int .u32 0]] w fun e w' => e = .panicked [{ v := .iface 47 (.agg #[]), recovered := false }] ∧ Gr g w w' := by
  have HLEN := Lib.hid hE.len
  have hlen := hE.len
  have t0 : ((d : Int) + (p : Int) == 0) = false := beq_eq_false_iff_ne.2 (by omega)
  have GK := Lib.hid (Gr.refl g w)
  have CK := Lib.hid hK
  have HE := Lib.hid hE
  clear hE hK
  go_enter Tryd.func33, Tryd.ntmps33
  go_wp2_with fail
  have lg : g < w.heap.size := blk_lt CK.out.blk
  refine calls_at (fun wa hW => ?_)
  have hb : Below w.heap.size w wa := by rw [hW]; exact (Below.refl _ _).alloc (Nat.le_refl _) _
  have nB : wa.heap[w.heap.size]? = some (.cells #[.int .i64 0, .int .i64 off, .int .i64 d, .int .i64 p, .int .i64 0, .int .i64 0, .bool false, .int .i64 0, .int .u32 0, .int .u32 0] 67 (0, 0)) := by rw [hW]; exact heap_alloc_new _ _
  have neB : w.heap.size ≠ g := by omega
  clear hW lg
  replace GK := Lib.hid (GK.out.then hb)
  replace CK := Lib.hid (CK.out.then hb)
  clear hb
  have B := Lib.hid nB
  clear nB
  have e0 : ((d : Int) + (p : Int)) = ((d + p : Nat) : Int) := by omega
  rw [e0]
  clear e0
  refine (object_yes HE.out CK.out ha ⟨ho0, ho1⟩ (by omega) hx hcp hob).mono ?_
  rintro e w1 ⟨rfl, hg, hc⟩
  have gB : Hid (Gr g wa w1) := Lib.hid hg
  replace B := Lib.hid (gB.out.blk B.out neB)
  replace GK := Lib.hid (GK.out.trans gB.out)
  clear gB
  clear CK
  have CK := Lib.hid hc
  clear hg hc
  have l_B : w.heap.size < w1.heap.size := blk_lt B.out
  have q_B_0 : w1.cell? ⟨w.heap.size, 0, none⟩ = some (.int .i64 0) := (blk_cell B.out 0).trans rfl
  have q_B_1 : w1.cell? ⟨w.heap.size, 1, none⟩ = some (.int .i64 off) := (blk_cell B.out 1).trans rfl
  have q_B_2 : w1.cell? ⟨w.heap.size, 2, none⟩ = some (.int .i64 d) := (blk_cell B.out 2).trans rfl
  have q_B_3 : w1.cell? ⟨w.heap.size, 3, none⟩ = some (.int .i64 p) := (blk_cell B.out 3).trans rfl
  have q_B_4 : w1.cell? ⟨w.heap.size, 4, none⟩ = some (.int .i64 0) := (blk_cell B.out 4).trans rfl
  have q_B_5 : w1.cell? ⟨w.heap.size, 5, none⟩ = some (.int .i64 0) := (blk_cell B.out 5).trans rfl
  have q_B_6 : w1.cell? ⟨w.heap.size, 6, none⟩ = some (.bool false) := (blk_cell B.out 6).trans rfl
  have q_B_7 : w1.cell? ⟨w.heap.size, 7, none⟩ = some (.int .i64 0) := (blk_cell B.out 7).trans rfl
  have q_B_8 : w1.cell? ⟨w.heap.size, 8, none⟩ = some (.int .u32 0) := (blk_cell B.out 8).trans rfl
  have q_B_9 : w1.cell? ⟨w.heap.size, 9, none⟩ = some (.int .u32 0) := (blk_cell B.out 9).trans rfl
  go_wp2_with fail
  clear l_B q_B_0 q_B_1 q_B_2 q_B_3 q_B_4 q_B_5 q_B_6 q_B_7 q_B_8 q_B_9
  have e0 : ((d : Int) + (p : Int)) = ((d + p : Nat) : Int) := by omega
  rw [e0]
  clear e0
  refine (charge_bad HE.out CK.out hch (by omega) (by omega)).mono ?_
  rintro e w2 (⟨q, hq, _⟩ | ⟨_, rfl, hg⟩)
  · cases hq
  have hg' := GK.out.trans hg
  clear hg
  go_wp2
  exact ⟨rfl, rfl, hg'⟩
set_option maxHeartbeats 4000000 in
theorem struct_3 {W0 w : World} {s : List Int} {cp g nx m : Nat} {D Wd O : Int} {sb so at_ d p : Nat} {off depth : Int} (hE : Env W0 s (some ⟨sb, so, none⟩)) (hK : Ck W0 s (some ⟨sb, so, none⟩) cp D Wd O g nx m w) (ha : at_ ≤ 17592186040320) (ho0 : -536870912 ≤ off) (ho1 : off ≤ 536870911) (hd : d ≤ 65535) (hp : p ≤ 65535) (hx : nx ≤ s.length) (hm : m ≤ 4611686018427387904) (hcp : s.length ≤ cp) (hdp : ¬ d + p = 0) (hob : objM s at_ off (d + p) nx = true) (hch : d + p ≤ m) (hdz : ¬ d = 0) (hw1 : wd s (nx + d - 1) = 0) :
    Calls Tryd.prog 33 #[.pointer (some ⟨g, 0, none⟩), .int .i64 at_, .int .i64 depth, .agg #[.int .i64 0, .int .i64 off, .int .i64 d, .int .i64 p, .int .i64 0, .int .i64 0, .bool false, .int .i64 0, .int .u32 0, .int .u32 0]] w fun e w' => e = .panicked [{ v := .iface 47 (.agg #[]), recovered := false }] ∧ Gr g w w' := by
  have HLEN := Lib.hid hE.len
  have hlen := hE.len
  have t0 : ((d : Int) + (p : Int) == 0) = false := beq_eq_false_iff_ne.2 (by omega)
  have GK := Lib.hid (Gr.refl g w)
  have CK := Lib.hid hK
  have HE := Lib.hid hE
  clear hE hK
  go_enter Tryd.func33, Tryd.ntmps33
  go_wp2_with fail
  have lg : g < w.heap.size := blk_lt CK.out.blk
  refine calls_at (fun wa hW => ?_)
  have hb : Below w.heap.size w wa := by rw [hW]; exact (Below.refl _ _).alloc (Nat.le_refl _) _
  have nB : wa.heap[w.heap.size]? = some (.cells #[.int .i64 0, .int .i64 off, .int .i64 d, .int .i64 p, .int .i64 0, .int .i64 0, .bool false, .int .i64 0, .int .u32 0, .int .u32 0] 67 (0, 0)) := by rw [hW]; exact heap_alloc_new _ _
  have neB : w.heap.size ≠ g := by omega
  clear hW lg
  replace GK := Lib.hid (GK.out.then hb)
  replace CK := Lib.hid (CK.out.then hb)
  clear hb
  have B := Lib.hid nB
  clear nB
  have e0 : ((d : Int) + (p : Int)) = ((d + p : Nat) : Int) := by omega
  rw [e0]
  clear e0
  refine (object_yes HE.out CK.out ha ⟨ho0, ho1⟩ (by omega) hx hcp hob).mono ?_
  rintro e w1 ⟨rfl, hg, hc⟩
  have gB : Hid (Gr g wa w1) := Lib.hid hg
  replace B := Lib.hid (gB.out.blk B.out neB)
  replace GK := Lib.hid (GK.out.trans gB.out)
  clear gB
  clear CK
  have CK := Lib.hid hc
  clear hg hc
  have l_B : w.heap.size < w1.heap.size := blk_lt B.out
  have q_B_0 : w1.cell? ⟨w.heap.size, 0, none⟩ = some (.int .i64 0) := (blk_cell B.out 0).trans rfl
  have q_B_1 : w1.cell? ⟨w.heap.size, 1, none⟩ = some (.int .i64 off) := (blk_cell B.out 1).trans rfl
  have q_B_2 : w1.cell? ⟨w.heap.size, 2, none⟩ = some (.int .i64 d) := (blk_cell B.out 2).trans rfl
  have q_B_3 : w1.cell? ⟨w.heap.size, 3, none⟩ = some (.int .i64 p) := (blk_cell B.out 3).trans rfl
  have q_B_4 : w1.cell? ⟨w.heap.size, 4, none⟩ = some (.int .i64 0) := (blk_cell B.out 4).trans rfl
  have q_B_5 : w1.cell? ⟨w.heap.size, 5, none⟩ = some (.int .i64 0) := (blk_cell B.out 5).trans rfl
  have q_B_6 : w1.cell? ⟨w.heap.size, 6, none⟩ = some (.bool false) := (blk_cell B.out 6).trans rfl
  have q_B_7 : w1.cell? ⟨w.heap.size, 7, none⟩ = some (.int .i64 0) := (blk_cell B.out 7).trans rfl
  have q_B_8 : w1.cell? ⟨w.heap.size, 8, none⟩ = some (.int .u32 0) := (blk_cell B.out 8).trans rfl
  have q_B_9 : w1.cell? ⟨w.heap.size, 9, none⟩ = some (.int .u32 0) := (blk_cell B.out 9).trans rfl
  go_wp2_with fail
  clear l_B q_B_0 q_B_1 q_B_2 q_B_3 q_B_4 q_B_5 q_B_6 q_B_7 q_B_8 q_B_9
  have e0 : ((d : Int) + (p : Int)) = ((d + p : Nat) : Int) := by omega
  rw [e0]
  clear e0
  refine (charge_ok HE.out CK.out hch (by omega) (by omega)).mono ?_
  rintro e w2 (⟨q, hq, rfl, hg, hc⟩ | ⟨hq, _⟩)
  rotate_left
  · cases hq
  cases hq
  have gB : Hid (Gr g w1 w2) := Lib.hid hg
  replace B := Lib.hid (gB.out.blk B.out neB)
  replace GK := Lib.hid (GK.out.trans gB.out)
  clear gB
  clear CK
  have CK := Lib.hid hc
  clear hg hc
  have l_B : w.heap.size < w2.heap.size := blk_lt B.out
  have q_B_0 : w2.cell? ⟨w.heap.size, 0, none⟩ = some (.int .i64 0) := (blk_cell B.out 0).trans rfl
  have q_B_1 : w2.cell? ⟨w.heap.size, 1, none⟩ = some (.int .i64 off) := (blk_cell B.out 1).trans rfl
  have q_B_2 : w2.cell? ⟨w.heap.size, 2, none⟩ = some (.int .i64 d) := (blk_cell B.out 2).trans rfl
  have q_B_3 : w2.cell? ⟨w.heap.size, 3, none⟩ = some (.int .i64 p) := (blk_cell B.out 3).trans rfl
  have q_B_4 : w2.cell? ⟨w.heap.size, 4, none⟩ = some (.int .i64 0) := (blk_cell B.out 4).trans rfl
  have q_B_5 : w2.cell? ⟨w.heap.size, 5, none⟩ = some (.int .i64 0) := (blk_cell B.out 5).trans rfl
  have q_B_6 : w2.cell? ⟨w.heap.size, 6, none⟩ = some (.bool false) := (blk_cell B.out 6).trans rfl
  have q_B_7 : w2.cell? ⟨w.heap.size, 7, none⟩ = some (.int .i64 0) := (blk_cell B.out 7).trans rfl
  have q_B_8 : w2.cell? ⟨w.heap.size, 8, none⟩ = some (.int .u32 0) := (blk_cell B.out 8).trans rfl
  have q_B_9 : w2.cell? ⟨w.heap.size, 9, none⟩ = some (.int .u32 0) := (blk_cell B.out 9).trans rfl
  go_wp2_with fail
  clear l_B q_B_0 q_B_1 q_B_2 q_B_3 q_B_4 q_B_5 q_B_6 q_B_7 q_B_8 q_B_9
  obtain ⟨j, hj⟩ : ∃ j, nx + d = j + 1 := ⟨nx + d - 1, by omega⟩
  have hjl : j < s.length := by have := (objM_in hob).2; omega
  have ej : nx + d - 1 = j := by omega
  rw [ej] at hw1
  clear ej
  have hwc := wd_cell HE.out CK.out.below hjl
  generalize wd s j = x at hwc hw1
  have hj0 : (0 : Int) ≤ (j : Int) := Int.natCast_nonneg _
  have hj1 : (j : Int) < (s.length : Int) := by omega
  have t1 : ((d : Int) == 0) = false := beq_eq_false_iff_ne.2 (by omega)
  have t2 : (x != 0) = false := bne_eq_false_iff_eq.2 hw1
  have HJ := Lib.hid hj
  clear hj
  obtain ⟨x1_, x2_, x3_, x4_, x5_, x6_⟩ := idx_wraps HJ.out (by have := HLEN.out; omega)
  have l_B : w.heap.size < w2.heap.size := blk_lt B.out
  have q_B_0 : w2.cell? ⟨w.heap.size, 0, none⟩ = some (.int .i64 0) := (blk_cell B.out 0).trans rfl
  have q_B_1 : w2.cell? ⟨w.heap.size, 1, none⟩ = some (.int .i64 off) := (blk_cell B.out 1).trans rfl
  have q_B_2 : w2.cell? ⟨w.heap.size, 2, none⟩ = some (.int .i64 d) := (blk_cell B.out 2).trans rfl
  have q_B_3 : w2.cell? ⟨w.heap.size, 3, none⟩ = some (.int .i64 p) := (blk_cell B.out 3).trans rfl
  have q_B_4 : w2.cell? ⟨w.heap.size, 4, none⟩ = some (.int .i64 0) := (blk_cell B.out 4).trans rfl
  have q_B_5 : w2.cell? ⟨w.heap.size, 5, none⟩ = some (.int .i64 0) := (blk_cell B.out 5).trans rfl
  have q_B_6 : w2.cell? ⟨w.heap.size, 6, none⟩ = some (.bool false) := (blk_cell B.out 6).trans rfl
  have q_B_7 : w2.cell? ⟨w.heap.size, 7, none⟩ = some (.int .i64 0) := (blk_cell B.out 7).trans rfl
  have q_B_8 : w2.cell? ⟨w.heap.size, 8, none⟩ = some (.int .u32 0) := (blk_cell B.out 8).trans rfl
  have q_B_9 : w2.cell? ⟨w.heap.size, 9, none⟩ = some (.int .u32 0) := (blk_cell B.out 9).trans rfl
  have l_K : g < w2.heap.size := blk_lt CK.out.blk
  have q_K_0 : w2.cell? ⟨g, 0, none⟩ = some (.slice (some ⟨sb, so, none⟩) s.length cp) := (blk_cell CK.out.blk 0).trans rfl
  refine start_ (n := 18) (S := fun w' => w'.cell? ⟨w.heap.size, 2, none⟩ = some (.int .i64 (d : Int)) ∧ w'.cell? ⟨g, 0, none⟩ = some (.slice (some ⟨sb, so, none⟩) s.length cp) ∧ w'.cell? ⟨sb, so + j, none⟩ = some (.int .u64 x)) (ds := []) #[false, false, false, false, false, false, false, false, false, false, false, false, false, false, false, false, false, false] (by kernel_rfl) rfl rfl ⟨q_B_2, q_K_0, hwc⟩ (fun hHeld => ?_)
  obtain ⟨w3, hwd⟩ : ∃ W, W = w2.drew := ⟨_, rfl⟩
  rw [← hwd] at hHeld ⊢
  have hb : Below w2.heap.size w2 w3 := by rw [hwd]; exact (Below.refl _ _).drew
  clear hwd
  replace GK := Lib.hid (GK.out.then hb)
  replace CK := Lib.hid (CK.out.then hb)
  replace B := Lib.hid (blk_below B.out hb)
  clear hb
  refine pure_ (i := 0) (N := some 35) (v := ?_) (a' := ?_) #[true, false, false, false, false, false, false, false, false, false, false, false, false, false, false, false, false, false] rfl rfl (by kernel_rfl) (fun _ _ _ h => h) (Or.inl ⟨by rfl, ?_⟩) ?_ ?_
  rotate_left
  · intro w'
    go_simp
    with_reducible rfl
  rotate_left
  · simp only [Act.put, List.setIfInBounds_toArray, List.set_cons_zero, List.set_cons_succ, i64_w, i32_w]
    rfl
  refine take_ (i := 1) (N := some 36) (v := ?_) (a' := ?_) #[true, true, false, false, false, false, false, false, false, false, false, false, false, false, false, false, false, false] rfl rfl (by kernel_rfl) (fun _ _ _ h => h) (Or.inl ⟨by rfl, ?_⟩) hHeld ?_ ?_
  rotate_left
  · rintro w' ⟨s0, s1, s2⟩
    go_simp
    with_reducible rfl
  rotate_left
  · simp only [Act.put, List.setIfInBounds_toArray, List.set_cons_zero, List.set_cons_succ, i64_w, i32_w]
    rfl
  refine pure_ (i := 2) (N := some 37) (v := ?_) (a' := ?_) #[true, true, true, false, false, false, false, false, false, false, false, false, false, false, false, false, false, false] rfl rfl (by kernel_rfl) (fun _ _ _ h => h) (Or.inl ⟨by rfl, ?_⟩) ?_ ?_
  rotate_left
  · intro w'
    go_simp
    with_reducible rfl
  rotate_left
  · simp only [Act.put, List.setIfInBounds_toArray, List.set_cons_zero, List.set_cons_succ, i64_w, i32_w]
    rfl
  refine pure_ (i := 3) (N := some 38) (v := ?_) (a' := ?_) #[true, true, true, true, false, false, false, false, false, false, false, false, false, false, false, false, false, false] rfl rfl (by kernel_rfl) (fun _ _ _ h => h) (Or.inl ⟨by rfl, ?_⟩) ?_ ?_
  rotate_left
  · intro w'
    go_simp
    with_reducible rfl
  rotate_left
  · simp only [Act.put, List.setIfInBounds_toArray, List.set_cons_zero, List.set_cons_succ, i64_w, i32_w]
    rfl
  refine pure_ (i := 4) (N := some 39) (v := ?_) (a' := ?_) #[true, true, true, true, true, false, false, false, false, false, false, false, false, false, false, false, false, false] rfl rfl (by kernel_rfl) (fun _ _ _ h => h) (Or.inl ⟨by rfl, ?_⟩) ?_ ?_
  rotate_left
  · intro w'
    go_simp
    with_reducible rfl
  rotate_left
  · simp only [Act.put, List.setIfInBounds_toArray, List.set_cons_zero, List.set_cons_succ, i64_w, i32_w]
    rfl
  refine pure_ (i := 5) (N := some 40) (v := ?_) (a' := ?_) #[true, true, true, true, true, true, false, false, false, false, false, false, false, false, false, false, false, false] rfl rfl (by kernel_rfl) (fun _ _ _ h => h) (Or.inl ⟨by rfl, ?_⟩) ?_ ?_
  rotate_left
  · intro w'
    go_simp
    with_reducible rfl
  rotate_left
  · simp only [Act.put, List.setIfInBounds_toArray, List.set_cons_zero, List.set_cons_succ, i64_w, i32_w]
    rfl
  refine pure_ (i := 6) (N := some 41) (v := ?_) (a' := ?_) #[true, true, true, true, true, true, true, false, false, false, false, false, false, false, false, false, false, false] rfl rfl (by kernel_rfl) (fun _ _ _ h => h) (Or.inl ⟨by rfl, ?_⟩) ?_ ?_
  rotate_left
  · intro w'
    go_simp
    with_reducible rfl
  rotate_left
  · simp only [Act.put, List.setIfInBounds_toArray, List.set_cons_zero, List.set_cons_succ, i64_w, i32_w]
    rfl
  refine pure_ (i := 8) (N := some 43) (v := ?_) (a' := ?_) #[true, true, true, true, true, true, true, false, true, false, false, false, false, false, false, false, false, false] rfl rfl (by kernel_rfl) (fun _ _ _ h => h) (Or.inl ⟨by rfl, ?_⟩) ?_ ?_
  rotate_left
  · intro w'
    go_simp
    with_reducible rfl
  rotate_left
  · simp only [Act.put, List.setIfInBounds_toArray, List.set_cons_zero, List.set_cons_succ, i64_w, i32_w]
    rfl
  refine pure_ (i := 9) (N := some 44) (v := ?_) (a' := ?_) #[true, true, true, true, true, true, true, false, true, true, false, false, false, false, false, false, false, false] rfl rfl (by kernel_rfl) (fun _ _ _ h => h) (Or.inl ⟨by rfl, ?_⟩) ?_ ?_
  rotate_left
  · intro w'
    go_simp
    with_reducible rfl
  rotate_left
  · simp only [Act.put, List.setIfInBounds_toArray, List.set_cons_zero, List.set_cons_succ, i64_w, i32_w]
    rfl
  refine take_ (i := 7) (N := some 42) (v := ?_) (a' := ?_) #[true, true, true, true, true, true, true, true, true, true, false, false, false, false, false, false, false, false] rfl rfl (by kernel_rfl) (fun _ _ _ h => h) (Or.inl ⟨by rfl, ?_⟩) hHeld ?_ ?_
  rotate_left
  · rintro w' ⟨s0, s1, s2⟩
    go_simp
    with_reducible rfl
  rotate_left
  · simp only [Act.put, List.setIfInBounds_toArray, List.set_cons_zero, List.set_cons_succ, i64_w, i32_w]
    rfl
  refine take_ (i := 10) (N := some 45) (v := ?_) (a' := ?_) #[true, true, true, true, true, true, true, true, true, true, true, false, false, false, false, false, false, false] rfl rfl (by kernel_rfl) (fun _ _ _ h => h) (Or.inl ⟨by rfl, ?_⟩) hHeld ?_ ?_
  rotate_left
  · rintro w' ⟨s0, s1, s2⟩
    go_simp
    with_reducible rfl
  rotate_left
  · simp only [Act.put, List.setIfInBounds_toArray, List.set_cons_zero, List.set_cons_succ, i64_w, i32_w]
    rfl
  refine pure_ (i := 11) (N := some 46) (v := ?_) (a' := ?_) #[true, true, true, true, true, true, true, true, true, true, true, true, false, false, false, false, false, false] rfl rfl (by kernel_rfl) (fun _ _ _ h => h) (Or.inl ⟨by rfl, ?_⟩) ?_ ?_
  rotate_left
  · intro w'
    go_simp
    with_reducible rfl
  rotate_left
  · simp only [Act.put, List.setIfInBounds_toArray, List.set_cons_zero, List.set_cons_succ, i64_w, i32_w]
    rfl
  refine pure_ (i := 12) (N := some 47) (v := ?_) (a' := ?_) #[true, true, true, true, true, true, true, true, true, true, true, true, true, false, false, false, false, false] rfl rfl (by kernel_rfl) (fun _ _ _ h => h) (Or.inl ⟨by rfl, ?_⟩) ?_ ?_
  rotate_left
  · intro w'
    go_simp
    with_reducible rfl
  rotate_left
  · simp only [Act.put, List.setIfInBounds_toArray, List.set_cons_zero, List.set_cons_succ, i64_w, i32_w]
    rfl
  refine pure_ (i := 13) (N := some 48) (v := ?_) (a' := ?_) #[true, true, true, true, true, true, true, true, true, true, true, true, true, true, false, false, false, false] rfl rfl (by kernel_rfl) (fun _ _ _ h => h) (Or.inl ⟨by rfl, ?_⟩) ?_ ?_
  rotate_left
  · intro w'
    go_simp
    with_reducible rfl
  rotate_left
  · simp only [Act.put, List.setIfInBounds_toArray, List.set_cons_zero, List.set_cons_succ, i64_w, i32_w]
    rfl
  refine take_ (i := 14) (N := some 49) (v := ?_) (a' := ?_) #[true, true, true, true, true, true, true, true, true, true, true, true, true, true, true, false, false, false] rfl rfl (by kernel_rfl) (fun _ _ _ h => h) (Or.inl ⟨by rfl, ?_⟩) hHeld ?_ ?_
  rotate_left
  · rintro w' ⟨s0, s1, s2⟩
    go_simp
    with_reducible rfl
  rotate_left
  · simp only [Act.put, List.setIfInBounds_toArray, List.set_cons_zero, List.set_cons_succ, i64_w, i32_w]
    rfl
  refine pure_ (i := 15) (N := some 50) (v := ?_) (a' := ?_) #[true, true, true, true, true, true, true, true, true, true, true, true, true, true, true, true, false, false] rfl rfl (by kernel_rfl) (fun _ _ _ h => h) (Or.inl ⟨by rfl, ?_⟩) ?_ ?_
  rotate_left
  · intro w'
    go_simp
    with_reducible rfl
  rotate_left
  · simp only [Act.put, List.setIfInBounds_toArray, List.set_cons_zero, List.set_cons_succ, i64_w, i32_w]
    rfl
  refine pure_ (i := 16) (N := some 51) (v := ?_) (a' := ?_) #[true, true, true, true, true, true, true, true, true, true, true, true, true, true, true, true, true, false] rfl rfl (by kernel_rfl) (fun _ _ _ h => h) (Or.inl ⟨by rfl, ?_⟩) ?_ ?_
  rotate_left
  · intro w'
    go_simp
    with_reducible rfl
  rotate_left
  · simp only [Act.put, List.setIfInBounds_toArray, List.set_cons_zero, List.set_cons_succ, i64_w, i32_w]
    rfl
  refine one_ (i := 17) (N := some 52) #[true, true, true, true, true, true, true, true, true, true, true, true, true, true, true, true, true, true] rfl rfl (by kernel_rfl) (by decide) (fun K hK => ?_)
  refine goes_bad Tryd.func19 (by kernel_rfl) rfl #[.bool false] (by rfl) rfl (by simp only [List.map_toArray, List.map_cons, List.map_nil]; rfl) ?_
  with_reducible refine (must_no _).mono ?_
  rintro e w3 ⟨rfl, rfl⟩
  refine ⟨_, rfl, ?_⟩
  clear hwc hj0 hj1 t1 t2 x1_ x2_ x3_ x4_ x5_ x6_ l_B q_B_0 q_B_1 q_B_2 q_B_3 q_B_4 q_B_5 q_B_6 q_B_7 q_B_8 q_B_9 l_K q_K_0
  clear hHeld
  exact ⟨rfl, rfl, GK.out⟩
set_option maxHeartbeats 4000000 in
theorem struct_4z {W0 w : World} {s : List Int} {cp g nx m : Nat} {D Wd O : Int} {sb so at_ d p : Nat} {off depth : Int} (hE : Env W0 s (some ⟨sb, so, none⟩)) (hK : Ck W0 s (some ⟨sb, so, none⟩) cp D Wd O g nx m w) (ha : at_ ≤ 17592186040320) (ho0 : -536870912 ≤ off) (ho1 : off ≤ 536870911) (hd : d ≤ 65535) (hp : p ≤ 65535) (hx : nx ≤ s.length) (hm : m ≤ 4611686018427387904) (hcp : s.length ≤ cp) (hdp : ¬ d + p = 0) (hob : objM s at_ off (d + p) nx = true) (hch : d + p ≤ m) (hdz : d = 0) (hpz : ¬ p = 0) (hw2 : wd s (nx + d + p - 1) = 0) :
    Calls Tryd.prog 33 #[.pointer (some ⟨g, 0, none⟩), .int .i64 at_, .int .i64 depth, .agg #[.int .i64 0, .int .i64 off, .int .i64 d, .int .i64 p, .int .i64 0, .int .i64 0, .bool false, .int .i64 0, .int .u32 0, .int .u32 0]] w fun e w' => e = .panicked [{ v := .iface 47 (.agg #[]), recovered := false }] ∧ Gr g w w' := by
  have HLEN := Lib.hid hE.len
  have hlen := hE.len
  have t0 : ((d : Int) + (p : Int) == 0) = false := beq_eq_false_iff_ne.2 (by omega)
  have H_hdz := Lib.hid hdz
  clear hdz
  have GK := Lib.hid (Gr.refl g w)
  have CK := Lib.hid hK
  have HE := Lib.hid hE
  clear hE hK
  go_enter Tryd.func33, Tryd.ntmps33
  go_wp2_with fail
  have lg : g < w.heap.size := blk_lt CK.out.blk
  refine calls_at (fun wa hW => ?_)
  have hb : Below w.heap.size w wa := by rw [hW]; exact (Below.refl _ _).alloc (Nat.le_refl _) _
  have nB : wa.heap[w.heap.size]? = some (.cells #[.int .i64 0, .int .i64 off, .int .i64 d, .int .i64 p, .int .i64 0, .int .i64 0, .bool false, .int .i64 0, .int .u32 0, .int .u32 0] 67 (0, 0)) := by rw [hW]; exact heap_alloc_new _ _
  have neB : w.heap.size ≠ g := by omega
  clear hW lg
  replace GK := Lib.hid (GK.out.then hb)
  replace CK := Lib.hid (CK.out.then hb)
  clear hb
  have B := Lib.hid nB
  clear nB
  have e0 : ((d : Int) + (p : Int)) = ((d + p : Nat) : Int) := by omega
  rw [e0]
  clear e0
  refine (object_yes HE.out CK.out ha ⟨ho0, ho1⟩ (by omega) hx hcp hob).mono ?_
  rintro e w1 ⟨rfl, hg, hc⟩
  have gB : Hid (Gr g wa w1) := Lib.hid hg
  replace B := Lib.hid (gB.out.blk B.out neB)
  replace GK := Lib.hid (GK.out.trans gB.out)
  clear gB
  clear CK
  have CK := Lib.hid hc
  clear hg hc
  have l_B : w.heap.size < w1.heap.size := blk_lt B.out
  have q_B_0 : w1.cell? ⟨w.heap.size, 0, none⟩ = some (.int .i64 0) := (blk_cell B.out 0).trans rfl
  have q_B_1 : w1.cell? ⟨w.heap.size, 1, none⟩ = some (.int .i64 off) := (blk_cell B.out 1).trans rfl
  have q_B_2 : w1.cell? ⟨w.heap.size, 2, none⟩ = some (.int .i64 d) := (blk_cell B.out 2).trans rfl
  have q_B_3 : w1.cell? ⟨w.heap.size, 3, none⟩ = some (.int .i64 p) := (blk_cell B.out 3).trans rfl
  have q_B_4 : w1.cell? ⟨w.heap.size, 4, none⟩ = some (.int .i64 0) := (blk_cell B.out 4).trans rfl
  have q_B_5 : w1.cell? ⟨w.heap.size, 5, none⟩ = some (.int .i64 0) := (blk_cell B.out 5).trans rfl
  have q_B_6 : w1.cell? ⟨w.heap.size, 6, none⟩ = some (.bool false) := (blk_cell B.out 6).trans rfl
  have q_B_7 : w1.cell? ⟨w.heap.size, 7, none⟩ = some (.int .i64 0) := (blk_cell B.out 7).trans rfl
  have q_B_8 : w1.cell? ⟨w.heap.size, 8, none⟩ = some (.int .u32 0) := (blk_cell B.out 8).trans rfl
  have q_B_9 : w1.cell? ⟨w.heap.size, 9, none⟩ = some (.int .u32 0) := (blk_cell B.out 9).trans rfl
  go_wp2_with fail
  clear l_B q_B_0 q_B_1 q_B_2 q_B_3 q_B_4 q_B_5 q_B_6 q_B_7 q_B_8 q_B_9
  have e0 : ((d : Int) + (p : Int)) = ((d + p : Nat) : Int) := by omega
  rw [e0]
  clear e0
  refine (charge_ok HE.out CK.out hch (by omega) (by omega)).mono ?_
  rintro e w2 (⟨q, hq, rfl, hg, hc⟩ | ⟨hq, _⟩)
  rotate_left
  · cases hq
  cases hq
  have gB : Hid (Gr g w1 w2) := Lib.hid hg
  replace B := Lib.hid (gB.out.blk B.out neB)
  replace GK := Lib.hid (GK.out.trans gB.out)
  clear gB
  clear CK
  have CK := Lib.hid hc
  clear hg hc
  have l_B : w.heap.size < w2.heap.size := blk_lt B.out
  have q_B_0 : w2.cell? ⟨w.heap.size, 0, none⟩ = some (.int .i64 0) := (blk_cell B.out 0).trans rfl
  have q_B_1 : w2.cell? ⟨w.heap.size, 1, none⟩ = some (.int .i64 off) := (blk_cell B.out 1).trans rfl
  have q_B_2 : w2.cell? ⟨w.heap.size, 2, none⟩ = some (.int .i64 d) := (blk_cell B.out 2).trans rfl
  have q_B_3 : w2.cell? ⟨w.heap.size, 3, none⟩ = some (.int .i64 p) := (blk_cell B.out 3).trans rfl
  have q_B_4 : w2.cell? ⟨w.heap.size, 4, none⟩ = some (.int .i64 0) := (blk_cell B.out 4).trans rfl
  have q_B_5 : w2.cell? ⟨w.heap.size, 5, none⟩ = some (.int .i64 0) := (blk_cell B.out 5).trans rfl
  have q_B_6 : w2.cell? ⟨w.heap.size, 6, none⟩ = some (.bool false) := (blk_cell B.out 6).trans rfl
  have q_B_7 : w2.cell? ⟨w.heap.size, 7, none⟩ = some (.int .i64 0) := (blk_cell B.out 7).trans rfl
  have q_B_8 : w2.cell? ⟨w.heap.size, 8, none⟩ = some (.int .u32 0) := (blk_cell B.out 8).trans rfl
  have q_B_9 : w2.cell? ⟨w.heap.size, 9, none⟩ = some (.int .u32 0) := (blk_cell B.out 9).trans rfl
  go_wp2_with fail
  clear l_B q_B_0 q_B_1 q_B_2 q_B_3 q_B_4 q_B_5 q_B_6 q_B_7 q_B_8 q_B_9
  have t1 : ((d : Int) == 0) = true := beq_iff_eq.2 (by have := H_hdz.out; omega)
  have l_B : w.heap.size < w2.heap.size := blk_lt B.out
  have q_B_0 : w2.cell? ⟨w.heap.size, 0, none⟩ = some (.int .i64 0) := (blk_cell B.out 0).trans rfl
  have q_B_1 : w2.cell? ⟨w.heap.size, 1, none⟩ = some (.int .i64 off) := (blk_cell B.out 1).trans rfl
  have q_B_2 : w2.cell? ⟨w.heap.size, 2, none⟩ = some (.int .i64 d) := (blk_cell B.out 2).trans rfl
  have q_B_3 : w2.cell? ⟨w.heap.size, 3, none⟩ = some (.int .i64 p) := (blk_cell B.out 3).trans rfl
  have q_B_4 : w2.cell? ⟨w.heap.size, 4, none⟩ = some (.int .i64 0) := (blk_cell B.out 4).trans rfl
  have q_B_5 : w2.cell? ⟨w.heap.size, 5, none⟩ = some (.int .i64 0) := (blk_cell B.out 5).trans rfl
  have q_B_6 : w2.cell? ⟨w.heap.size, 6, none⟩ = some (.bool false) := (blk_cell B.out 6).trans rfl
  have q_B_7 : w2.cell? ⟨w.heap.size, 7, none⟩ = some (.int .i64 0) := (blk_cell B.out 7).trans rfl
  have q_B_8 : w2.cell? ⟨w.heap.size, 8, none⟩ = some (.int .u32 0) := (blk_cell B.out 8).trans rfl
  have q_B_9 : w2.cell? ⟨w.heap.size, 9, none⟩ = some (.int .u32 0) := (blk_cell B.out 9).trans rfl
  refine start_ (n := 18) (S := fun w' => w'.cell? ⟨w.heap.size, 2, none⟩ = some (.int .i64 (d : Int))) (ds := []) #[false, false, false, false, false, false, false, false, false, false, false, false, false, false, false, false, false, false] (by kernel_rfl) rfl rfl (q_B_2) (fun hHeld => ?_)
  obtain ⟨w3, hwd⟩ : ∃ W, W = w2.drew := ⟨_, rfl⟩
  rw [← hwd] at hHeld ⊢
  have hb : Below w2.heap.size w2 w3 := by rw [hwd]; exact (Below.refl _ _).drew
  clear hwd
  replace GK := Lib.hid (GK.out.then hb)
  replace CK := Lib.hid (CK.out.then hb)
  replace B := Lib.hid (blk_below B.out hb)
  clear hb
  refine pure_ (i := 0) (N := some 35) (v := ?_) (a' := ?_) #[true, false, false, false, false, false, false, false, false, false, false, false, false, false, false, false, false, false] rfl rfl (by kernel_rfl) (fun _ _ _ h => h) (Or.inl ⟨by rfl, ?_⟩) ?_ ?_
  rotate_left
  · intro w'
    go_simp
    with_reducible rfl
  rotate_left
  · simp only [Act.put, List.setIfInBounds_toArray, List.set_cons_zero, List.set_cons_succ, i64_w, i32_w]
    rfl
  refine take_ (i := 1) (N := some 36) (v := ?_) (a' := ?_) #[true, true, false, false, false, false, false, false, false, false, false, false, false, false, false, false, false, false] rfl rfl (by kernel_rfl) (fun _ _ _ h => h) (Or.inl ⟨by rfl, ?_⟩) hHeld ?_ ?_
  rotate_left
  · intro w' s0
    go_simp
    with_reducible rfl
  rotate_left
  · simp only [Act.put, List.setIfInBounds_toArray, List.set_cons_zero, List.set_cons_succ, i64_w, i32_w]
    rfl
  refine pure_ (i := 2) (N := some 37) (v := ?_) (a' := ?_) #[true, true, true, false, false, false, false, false, false, false, false, false, false, false, false, false, false, false] rfl rfl (by kernel_rfl) (fun _ _ _ h => h) (Or.inl ⟨by rfl, ?_⟩) ?_ ?_
  rotate_left
  · intro w'
    go_simp
    with_reducible rfl
  rotate_left
  · simp only [Act.put, List.setIfInBounds_toArray, List.set_cons_zero, List.set_cons_succ, i64_w, i32_w]
    rfl
  refine pure_ (i := 3) (N := some 38) (v := ?_) (a' := ?_) #[true, true, true, true, false, false, false, false, false, false, false, false, false, false, false, false, false, false] rfl rfl (by kernel_rfl) (fun _ _ _ h => h) (Or.inl ⟨by rfl, ?_⟩) ?_ ?_
  rotate_left
  · intro w'
    go_simp
    with_reducible rfl
  rotate_left
  · simp only [Act.put, List.setIfInBounds_toArray, List.set_cons_zero, List.set_cons_succ, i64_w, i32_w]
    rfl
  refine pure_ (i := 4) (N := some 39) (v := undef) (a' := ?_) #[true, true, true, true, true, false, false, false, false, false, false, false, false, false, false, false, false, false] rfl rfl (by kernel_rfl) (fun _ _ _ h => h) (Or.inr ⟨by rfl, rfl⟩) ?_ ?_
  rotate_left
  · simp only [Act.put, List.setIfInBounds_toArray, List.set_cons_zero, List.set_cons_succ, i64_w, i32_w]
    rfl
  refine pure_ (i := 5) (N := some 40) (v := undef) (a' := ?_) #[true, true, true, true, true, true, false, false, false, false, false, false, false, false, false, false, false, false] rfl rfl (by kernel_rfl) (fun _ _ _ h => h) (Or.inr ⟨by rfl, rfl⟩) ?_ ?_
  rotate_left
  · simp only [Act.put, List.setIfInBounds_toArray, List.set_cons_zero, List.set_cons_succ, i64_w, i32_w]
    rfl
  refine pure_ (i := 6) (N := some 41) (v := undef) (a' := ?_) #[true, true, true, true, true, true, true, false, false, false, false, false, false, false, false, false, false, false] rfl rfl (by kernel_rfl) (fun _ _ _ h => h) (Or.inr ⟨by rfl, rfl⟩) ?_ ?_
  rotate_left
  · simp only [Act.put, List.setIfInBounds_toArray, List.set_cons_zero, List.set_cons_succ, i64_w, i32_w]
    rfl
  refine pure_ (i := 7) (N := some 42) (v := undef) (a' := ?_) #[true, true, true, true, true, true, true, true, false, false, false, false, false, false, false, false, false, false] rfl rfl (by kernel_rfl) (fun _ _ _ h => h) (Or.inr ⟨by rfl, rfl⟩) ?_ ?_
  rotate_left
  · simp only [Act.put, List.setIfInBounds_toArray, List.set_cons_zero, List.set_cons_succ, i64_w, i32_w]
    rfl
  refine pure_ (i := 8) (N := some 43) (v := undef) (a' := ?_) #[true, true, true, true, true, true, true, true, true, false, false, false, false, false, false, false, false, false] rfl rfl (by kernel_rfl) (fun _ _ _ h => h) (Or.inr ⟨by rfl, rfl⟩) ?_ ?_
  rotate_left
  · simp only [Act.put, List.setIfInBounds_toArray, List.set_cons_zero, List.set_cons_succ, i64_w, i32_w]
    rfl
  refine pure_ (i := 9) (N := some 44) (v := undef) (a' := ?_) #[true, true, true, true, true, true, true, true, true, true, false, false, false, false, false, false, false, false] rfl rfl (by kernel_rfl) (fun _ _ _ h => h) (Or.inr ⟨by rfl, rfl⟩) ?_ ?_
  rotate_left
  · simp only [Act.put, List.setIfInBounds_toArray, List.set_cons_zero, List.set_cons_succ, i64_w, i32_w]
    rfl
  refine pure_ (i := 10) (N := some 45) (v := undef) (a' := ?_) #[true, true, true, true, true, true, true, true, true, true, true, false, false, false, false, false, false, false] rfl rfl (by kernel_rfl) (fun _ _ _ h => h) (Or.inr ⟨by rfl, rfl⟩) ?_ ?_
  rotate_left
  · simp only [Act.put, List.setIfInBounds_toArray, List.set_cons_zero, List.set_cons_succ, i64_w, i32_w]
    rfl
  refine pure_ (i := 11) (N := some 46) (v := undef) (a' := ?_) #[true, true, true, true, true, true, true, true, true, true, true, true, false, false, false, false, false, false] rfl rfl (by kernel_rfl) (fun _ _ _ h => h) (Or.inr ⟨by rfl, rfl⟩) ?_ ?_
  rotate_left
  · simp only [Act.put, List.setIfInBounds_toArray, List.set_cons_zero, List.set_cons_succ, i64_w, i32_w]
    rfl
  refine pure_ (i := 12) (N := some 47) (v := undef) (a' := ?_) #[true, true, true, true, true, true, true, true, true, true, true, true, true, false, false, false, false, false] rfl rfl (by kernel_rfl) (fun _ _ _ h => h) (Or.inr ⟨by rfl, rfl⟩) ?_ ?_
  rotate_left
  · simp only [Act.put, List.setIfInBounds_toArray, List.set_cons_zero, List.set_cons_succ, i64_w, i32_w]
    rfl
  refine pure_ (i := 13) (N := some 48) (v := undef) (a' := ?_) #[true, true, true, true, true, true, true, true, true, true, true, true, true, true, false, false, false, false] rfl rfl (by kernel_rfl) (fun _ _ _ h => h) (Or.inr ⟨by rfl, rfl⟩) ?_ ?_
  rotate_left
  · simp only [Act.put, List.setIfInBounds_toArray, List.set_cons_zero, List.set_cons_succ, i64_w, i32_w]
    rfl
  refine pure_ (i := 14) (N := some 49) (v := undef) (a' := ?_) #[true, true, true, true, true, true, true, true, true, true, true, true, true, true, true, false, false, false] rfl rfl (by kernel_rfl) (fun _ _ _ h => h) (Or.inr ⟨by rfl, rfl⟩) ?_ ?_
  rotate_left
  · simp only [Act.put, List.setIfInBounds_toArray, List.set_cons_zero, List.set_cons_succ, i64_w, i32_w]
    rfl
  refine pure_ (i := 15) (N := some 50) (v := undef) (a' := ?_) #[true, true, true, true, true, true, true, true, true, true, true, true, true, true, true, true, false, false] rfl rfl (by kernel_rfl) (fun _ _ _ h => h) (Or.inr ⟨by rfl, rfl⟩) ?_ ?_
  rotate_left
  · simp only [Act.put, List.setIfInBounds_toArray, List.set_cons_zero, List.set_cons_succ, i64_w, i32_w]
    rfl
  refine pure_ (i := 16) (N := some 51) (v := ?_) (a' := ?_) #[true, true, true, true, true, true, true, true, true, true, true, true, true, true, true, true, true, false] rfl rfl (by kernel_rfl) (fun _ _ _ h => h) (Or.inl ⟨by rfl, ?_⟩) ?_ ?_
  rotate_left
  · intro w'
    go_simp
    with_reducible rfl
  rotate_left
  · simp only [Act.put, List.setIfInBounds_toArray, List.set_cons_zero, List.set_cons_succ, i64_w, i32_w]
    rfl
  refine one_ (i := 17) (N := some 52) #[true, true, true, true, true, true, true, true, true, true, true, true, true, true, true, true, true, true] rfl rfl (by kernel_rfl) (by decide) (fun K hK => ?_)
  refine goes_ Tryd.func19 (by kernel_rfl) rfl #[.bool true] (by rfl) rfl rfl (by simp only [List.map_toArray, List.map_cons, List.map_nil]; rfl) ?_
  with_reducible refine (must_yes _).mono ?_
  rintro e w3 ⟨rfl, rfl⟩
  refine ⟨_, rfl, ?_⟩
  refine hK.out _ _ (hHeld) (fun hHeld => ?_)
  clear hK K
  refine norm_ (a' := ?_) ?_ ?_
  rotate_left
  · show Act.put _ (some 52) _ = _
    simp only [Act.put, List.setIfInBounds_toArray, List.set_cons_zero, List.set_cons_succ, i64_w, i32_w]
    rfl
  refine done_ (by kernel_rfl) ?_
  clear t1 l_B q_B_0 q_B_1 q_B_2 q_B_3 q_B_4 q_B_5 q_B_6 q_B_7 q_B_8 q_B_9
  clear hHeld
  go_wp2_with fail
  obtain ⟨k, hk⟩ : ∃ k, nx + d = k := ⟨_, rfl⟩
  obtain ⟨j, hj⟩ : ∃ j, k + p = j + 1 := ⟨k + p - 1, by omega⟩
  have hjl : j < s.length := by have := (objM_in hob).2; omega
  have ej : nx + d + p - 1 = j := by omega
  rw [ej] at hw2
  clear ej
  have hwc := wd_cell HE.out CK.out.below hjl
  generalize wd s j = x at hwc hw2
  have hj0 : (0 : Int) ≤ (j : Int) := Int.natCast_nonneg _
  have hj1 : (j : Int) < (s.length : Int) := by omega
  have t1 : ((p : Int) == 0) = false := beq_eq_false_iff_ne.2 (by omega)
  have t2 : (x != 0) = false := bne_eq_false_iff_eq.2 hw2
  have HJ := Lib.hid hj
  have HKK := Lib.hid hk
  clear hj hk
  obtain ⟨y1_, y2_⟩ := sum_wraps HKK.out (by have := HLEN.out; have := HJ.out; omega)
  obtain ⟨x1_, x2_, x3_, x4_, x5_, x6_⟩ := idx_wraps HJ.out (by have := HLEN.out; omega)
  have l_B : w.heap.size < w3.heap.size := blk_lt B.out
  have q_B_0 : w3.cell? ⟨w.heap.size, 0, none⟩ = some (.int .i64 0) := (blk_cell B.out 0).trans rfl
  have q_B_1 : w3.cell? ⟨w.heap.size, 1, none⟩ = some (.int .i64 off) := (blk_cell B.out 1).trans rfl
  have q_B_2 : w3.cell? ⟨w.heap.size, 2, none⟩ = some (.int .i64 d) := (blk_cell B.out 2).trans rfl
  have q_B_3 : w3.cell? ⟨w.heap.size, 3, none⟩ = some (.int .i64 p) := (blk_cell B.out 3).trans rfl
  have q_B_4 : w3.cell? ⟨w.heap.size, 4, none⟩ = some (.int .i64 0) := (blk_cell B.out 4).trans rfl
  have q_B_5 : w3.cell? ⟨w.heap.size, 5, none⟩ = some (.int .i64 0) := (blk_cell B.out 5).trans rfl
  have q_B_6 : w3.cell? ⟨w.heap.size, 6, none⟩ = some (.bool false) := (blk_cell B.out 6).trans rfl
  have q_B_7 : w3.cell? ⟨w.heap.size, 7, none⟩ = some (.int .i64 0) := (blk_cell B.out 7).trans rfl
  have q_B_8 : w3.cell? ⟨w.heap.size, 8, none⟩ = some (.int .u32 0) := (blk_cell B.out 8).trans rfl
  have q_B_9 : w3.cell? ⟨w.heap.size, 9, none⟩ = some (.int .u32 0) := (blk_cell B.out 9).trans rfl
  have l_K : g < w3.heap.size := blk_lt CK.out.blk
  have q_K_0 : w3.cell? ⟨g, 0, none⟩ = some (.slice (some ⟨sb, so, none⟩) s.length cp) := (blk_cell CK.out.blk 0).trans rfl
  refine start_ (n := 21) (S := fun w' => w'.cell? ⟨w.heap.size, 2, none⟩ = some (.int .i64 (d : Int)) ∧ w'.cell? ⟨w.heap.size, 3, none⟩ = some (.int .i64 (p : Int)) ∧ w'.cell? ⟨g, 0, none⟩ = some (.slice (some ⟨sb, so, none⟩) s.length cp) ∧ w'.cell? ⟨sb, so + j, none⟩ = some (.int .u64 x)) (ds := []) #[false, false, false, false, false, false, false, false, false, false, false, false, false, false, false, false, false, false, false, false, false] (by kernel_rfl) rfl rfl ⟨q_B_2, q_B_3, q_K_0, hwc⟩ (fun hHeld => ?_)
  obtain ⟨w4, hwd⟩ : ∃ W, W = w3.drew := ⟨_, rfl⟩
  rw [← hwd] at hHeld ⊢
  have hb : Below w3.heap.size w3 w4 := by rw [hwd]; exact (Below.refl _ _).drew
  clear hwd
  replace GK := Lib.hid (GK.out.then hb)
  replace CK := Lib.hid (CK.out.then hb)
  replace B := Lib.hid (blk_below B.out hb)
  clear hb
  refine pure_ (i := 0) (N := some 53) (v := ?_) (a' := ?_) #[true, false, false, false, false, false, false, false, false, false, false, false, false, false, false, false, false, false, false, false, false] rfl rfl (by kernel_rfl) (fun _ _ _ h => h) (Or.inl ⟨by rfl, ?_⟩) ?_ ?_
  rotate_left
  · intro w'
    go_simp
    with_reducible rfl
  rotate_left
  · simp only [Act.put, List.setIfInBounds_toArray, List.set_cons_zero, List.set_cons_succ, i64_w, i32_w]
    rfl
  refine take_ (i := 1) (N := some 54) (v := ?_) (a' := ?_) #[true, true, false, false, false, false, false, false, false, false, false, false, false, false, false, false, false, false, false, false, false] rfl rfl (by kernel_rfl) (fun _ _ _ h => h) (Or.inl ⟨by rfl, ?_⟩) hHeld ?_ ?_
  rotate_left
  · rintro w' ⟨s0, s1, s2, s3⟩
    go_simp
    with_reducible rfl
  rotate_left
  · simp only [Act.put, List.setIfInBounds_toArray, List.set_cons_zero, List.set_cons_succ, i64_w, i32_w]
    rfl
  refine pure_ (i := 2) (N := some 55) (v := ?_) (a' := ?_) #[true, true, true, false, false, false, false, false, false, false, false, false, false, false, false, false, false, false, false, false, false] rfl rfl (by kernel_rfl) (fun _ _ _ h => h) (Or.inl ⟨by rfl, ?_⟩) ?_ ?_
  rotate_left
  · intro w'
    go_simp
    with_reducible rfl
  rotate_left
  · simp only [Act.put, List.setIfInBounds_toArray, List.set_cons_zero, List.set_cons_succ, i64_w, i32_w]
    rfl
  refine pure_ (i := 3) (N := some 56) (v := ?_) (a' := ?_) #[true, true, true, true, false, false, false, false, false, false, false, false, false, false, false, false, false, false, false, false, false] rfl rfl (by kernel_rfl) (fun _ _ _ h => h) (Or.inl ⟨by rfl, ?_⟩) ?_ ?_
  rotate_left
  · intro w'
    go_simp
    with_reducible rfl
  rotate_left
  · simp only [Act.put, List.setIfInBounds_toArray, List.set_cons_zero, List.set_cons_succ, i64_w, i32_w]
    rfl
  refine pure_ (i := 4) (N := some 57) (v := ?_) (a' := ?_) #[true, true, true, true, true, false, false, false, false, false, false, false, false, false, false, false, false, false, false, false, false] rfl rfl (by kernel_rfl) (fun _ _ _ h => h) (Or.inl ⟨by rfl, ?_⟩) ?_ ?_
  rotate_left
  · intro w'
    go_simp
    with_reducible rfl
  rotate_left
  · simp only [Act.put, List.setIfInBounds_toArray, List.set_cons_zero, List.set_cons_succ, i64_w, i32_w]
    rfl
  refine pure_ (i := 5) (N := some 58) (v := ?_) (a' := ?_) #[true, true, true, true, true, true, false, false, false, false, false, false, false, false, false, false, false, false, false, false, false] rfl rfl (by kernel_rfl) (fun _ _ _ h => h) (Or.inl ⟨by rfl, ?_⟩) ?_ ?_
  rotate_left
  · intro w'
    go_simp
    with_reducible rfl
  rotate_left
  · simp only [Act.put, List.setIfInBounds_toArray, List.set_cons_zero, List.set_cons_succ, i64_w, i32_w]
    rfl
  refine pure_ (i := 6) (N := some 59) (v := ?_) (a' := ?_) #[true, true, true, true, true, true, true, false, false, false, false, false, false, false, false, false, false, false, false, false, false] rfl rfl (by kernel_rfl) (fun _ _ _ h => h) (Or.inl ⟨by rfl, ?_⟩) ?_ ?_
  rotate_left
  · intro w'
    go_simp
    with_reducible rfl
  rotate_left
  · simp only [Act.put, List.setIfInBounds_toArray, List.set_cons_zero, List.set_cons_succ, i64_w, i32_w]
    rfl
  refine pure_ (i := 8) (N := some 61) (v := ?_) (a' := ?_) #[true, true, true, true, true, true, true, false, true, false, false, false, false, false, false, false, false, false, false, false, false] rfl rfl (by kernel_rfl) (fun _ _ _ h => h) (Or.inl ⟨by rfl, ?_⟩) ?_ ?_
  rotate_left
  · intro w'
    go_simp
    with_reducible rfl
  rotate_left
  · simp only [Act.put, List.setIfInBounds_toArray, List.set_cons_zero, List.set_cons_succ, i64_w, i32_w]
    rfl
  refine pure_ (i := 9) (N := some 62) (v := ?_) (a' := ?_) #[true, true, true, true, true, true, true, false, true, true, false, false, false, false, false, false, false, false, false, false, false] rfl rfl (by kernel_rfl) (fun _ _ _ h => h) (Or.inl ⟨by rfl, ?_⟩) ?_ ?_
  rotate_left
  · intro w'
    go_simp
    with_reducible rfl
  rotate_left
  · simp only [Act.put, List.setIfInBounds_toArray, List.set_cons_zero, List.set_cons_succ, i64_w, i32_w]
    rfl
  refine pure_ (i := 12) (N := some 65) (v := ?_) (a' := ?_) #[true, true, true, true, true, true, true, false, true, true, false, false, true, false, false, false, false, false, false, false, false] rfl rfl (by kernel_rfl) (fun _ _ _ h => h) (Or.inl ⟨by rfl, ?_⟩) ?_ ?_
  rotate_left
  · intro w'
    go_simp
    with_reducible rfl
  rotate_left
  · simp only [Act.put, List.setIfInBounds_toArray, List.set_cons_zero, List.set_cons_succ, i64_w, i32_w]
    rfl
  refine take_ (i := 7) (N := some 60) (v := ?_) (a' := ?_) #[true, true, true, true, true, true, true, true, true, true, false, false, true, false, false, false, false, false, false, false, false] rfl rfl (by kernel_rfl) (fun _ _ _ h => h) (Or.inl ⟨by rfl, ?_⟩) hHeld ?_ ?_
  rotate_left
  · rintro w' ⟨s0, s1, s2, s3⟩
    go_simp
    with_reducible rfl
  rotate_left
  · simp only [Act.put, List.setIfInBounds_toArray, List.set_cons_zero, List.set_cons_succ, i64_w, i32_w]
    rfl
  refine take_ (i := 10) (N := some 63) (v := ?_) (a' := ?_) #[true, true, true, true, true, true, true, true, true, true, true, false, true, false, false, false, false, false, false, false, false] rfl rfl (by kernel_rfl) (fun _ _ _ h => h) (Or.inl ⟨by rfl, ?_⟩) hHeld ?_ ?_
  rotate_left
  · rintro w' ⟨s0, s1, s2, s3⟩
    go_simp
    with_reducible rfl
  rotate_left
  · simp only [Act.put, List.setIfInBounds_toArray, List.set_cons_zero, List.set_cons_succ, i64_w, i32_w]
    rfl
  refine pure_ (i := 11) (N := some 64) (v := ?_) (a' := ?_) #[true, true, true, true, true, true, true, true, true, true, true, true, true, false, false, false, false, false, false, false, false] rfl rfl (by kernel_rfl) (fun _ _ _ h => h) (Or.inl ⟨by rfl, ?_⟩) ?_ ?_
  rotate_left
  · intro w'
    go_simp
    with_reducible rfl
  rotate_left
  · simp only [Act.put, List.setIfInBounds_toArray, List.set_cons_zero, List.set_cons_succ, i64_w, i32_w]
    rfl
  refine take_ (i := 13) (N := some 66) (v := ?_) (a' := ?_) #[true, true, true, true, true, true, true, true, true, true, true, true, true, true, false, false, false, false, false, false, false] rfl rfl (by kernel_rfl) (fun _ _ _ h => h) (Or.inl ⟨by rfl, ?_⟩) hHeld ?_ ?_
  rotate_left
  · rintro w' ⟨s0, s1, s2, s3⟩
    go_simp
    with_reducible rfl
  rotate_left
  · simp only [Act.put, List.setIfInBounds_toArray, List.set_cons_zero, List.set_cons_succ, i64_w, i32_w]
    rfl
  refine pure_ (i := 14) (N := some 67) (v := ?_) (a' := ?_) #[true, true, true, true, true, true, true, true, true, true, true, true, true, true, true, false, false, false, false, false, false] rfl rfl (by kernel_rfl) (fun _ _ _ h => h) (Or.inl ⟨by rfl, ?_⟩) ?_ ?_
  rotate_left
  · intro w'
    go_simp
    with_reducible rfl
  rotate_left
  · simp only [Act.put, List.setIfInBounds_toArray, List.set_cons_zero, List.set_cons_succ, i64_w, i32_w]
    rfl
  refine pure_ (i := 15) (N := some 68) (v := ?_) (a' := ?_) #[true, true, true, true, true, true, true, true, true, true, true, true, true, true, true, true, false, false, false, false, false] rfl rfl (by kernel_rfl) (fun _ _ _ h => h) (Or.inl ⟨by rfl, ?_⟩) ?_ ?_
  rotate_left
  · intro w'
    go_simp
    with_reducible rfl
  rotate_left
  · simp only [Act.put, List.setIfInBounds_toArray, List.set_cons_zero, List.set_cons_succ, i64_w, i32_w]
    rfl
  refine pure_ (i := 16) (N := some 69) (v := ?_) (a' := ?_) #[true, true, true, true, true, true, true, true, true, true, true, true, true, true, true, true, true, false, false, false, false] rfl rfl (by kernel_rfl) (fun _ _ _ h => h) (Or.inl ⟨by rfl, ?_⟩) ?_ ?_
  rotate_left
  · intro w'
    go_simp
    with_reducible rfl
  rotate_left
  · simp only [Act.put, List.setIfInBounds_toArray, List.set_cons_zero, List.set_cons_succ, i64_w, i32_w]
    rfl
  refine take_ (i := 17) (N := some 70) (v := ?_) (a' := ?_) #[true, true, true, true, true, true, true, true, true, true, true, true, true, true, true, true, true, true, false, false, false] rfl rfl (by kernel_rfl) (fun _ _ _ h => h) (Or.inl ⟨by rfl, ?_⟩) hHeld ?_ ?_
  rotate_left
  · rintro w' ⟨s0, s1, s2, s3⟩
    go_simp
    with_reducible rfl
  rotate_left
  · simp only [Act.put, List.setIfInBounds_toArray, List.set_cons_zero, List.set_cons_succ, i64_w, i32_w]
    rfl
  refine pure_ (i := 18) (N := some 71) (v := ?_) (a' := ?_) #[true, true, true, true, true, true, true, true, true, true, true, true, true, true, true, true, true, true, true, false, false] rfl rfl (by kernel_rfl) (fun _ _ _ h => h) (Or.inl ⟨by rfl, ?_⟩) ?_ ?_
  rotate_left
  · intro w'
    go_simp
    with_reducible rfl
  rotate_left
  · simp only [Act.put, List.setIfInBounds_toArray, List.set_cons_zero, List.set_cons_succ, i64_w, i32_w]
    rfl
  refine pure_ (i := 19) (N := some 72) (v := ?_) (a' := ?_) #[true, true, true, true, true, true, true, true, true, true, true, true, true, true, true, true, true, true, true, true, false] rfl rfl (by kernel_rfl) (fun _ _ _ h => h) (Or.inl ⟨by rfl, ?_⟩) ?_ ?_
  rotate_left
  · intro w'
    go_simp
    with_reducible rfl
  rotate_left
  · simp only [Act.put, List.setIfInBounds_toArray, List.set_cons_zero, List.set_cons_succ, i64_w, i32_w]
    rfl
  refine one_ (i := 20) (N := some 73) #[true, true, true, true, true, true, true, true, true, true, true, true, true, true, true, true, true, true, true, true, true] rfl rfl (by kernel_rfl) (by decide) (fun K hK => ?_)
  refine goes_bad Tryd.func19 (by kernel_rfl) rfl #[.bool false] (by rfl) rfl (by simp only [List.map_toArray, List.map_cons, List.map_nil]; rfl) ?_
  with_reducible refine (must_no _).mono ?_
  rintro e w3 ⟨rfl, rfl⟩
  refine ⟨_, rfl, ?_⟩
  clear hwc hj0 hj1 t1 t2 y1_ y2_ x1_ x2_ x3_ x4_ x5_ x6_ l_B q_B_0 q_B_1 q_B_2 q_B_3 q_B_4 q_B_5 q_B_6 q_B_7 q_B_8 q_B_9 l_K q_K_0
  clear hHeld
  exact ⟨rfl, rfl, GK.out⟩
set_option maxHeartbeats 4000000 in
theorem struct_4n {W0 w : World} {s : List Int} {cp g nx m : Nat} {D Wd O : Int} {sb so at_ d p : Nat} {off depth : Int} (hE : Env W0 s (some ⟨sb, so, none⟩)) (hK : Ck W0 s (some ⟨sb, so, none⟩) cp D Wd O g nx m w) (ha : at_ ≤ 17592186040320) (ho0 : -536870912 ≤ off) (ho1 : off ≤ 536870911) (hd : d ≤ 65535) (hp : p ≤ 65535) (hx : nx ≤ s.length) (hm : m ≤ 4611686018427387904) (hcp : s.length ≤ cp) (hdp : ¬ d + p = 0) (hob : objM s at_ off (d + p) nx = true) (hch : d + p ≤ m) (hdz : ¬ d = 0) (hw1 : ¬ wd s (nx + d - 1) = 0) (hpz : ¬ p = 0) (hw2 : wd s (nx + d + p - 1) = 0) :
    Calls Tryd.prog 33 #[.pointer (some ⟨g, 0, none⟩), .int .i64 at_, .int .i64 depth, .agg #[.int .i64 0, .int .i64 off, .int .i64 d, .int .i64 p, .int .i64 0, .int .i64 0, .bool false, .int .i64 0, .int .u32 0, .int .u32 0]] w fun e w' => e = .panicked [{ v := .iface 47 (.agg #[]), recovered := false }] ∧ Gr g w w' := by
  have HLEN := Lib.hid hE.len
  have hlen := hE.len
  have t0 : ((d : Int) + (p : Int) == 0) = false := beq_eq_false_iff_ne.2 (by omega)
  have GK := Lib.hid (Gr.refl g w)
  have CK := Lib.hid hK
  have HE := Lib.hid hE
  clear hE hK
  go_enter Tryd.func33, Tryd.ntmps33
  go_wp2_with fail
  have lg : g < w.heap.size := blk_lt CK.out.blk
  refine calls_at (fun wa hW => ?_)
  have hb : Below w.heap.size w wa := by rw [hW]; exact (Below.refl _ _).alloc (Nat.le_refl _) _
  have nB : wa.heap[w.heap.size]? = some (.cells #[.int .i64 0, .int .i64 off, .int .i64 d, .int .i64 p, .int .i64 0, .int .i64 0, .bool false, .int .i64 0, .int .u32 0, .int .u32 0] 67 (0, 0)) := by rw [hW]; exact heap_alloc_new _ _
  have neB : w.heap.size ≠ g := by omega
  clear hW lg
  replace GK := Lib.hid (GK.out.then hb)
  replace CK := Lib.hid (CK.out.then hb)
  clear hb
  have B := Lib.hid nB
  clear nB
  have e0 : ((d : Int) + (p : Int)) = ((d + p : Nat) : Int) := by omega
  rw [e0]
  clear e0
  refine (object_yes HE.out CK.out ha ⟨ho0, ho1⟩ (by omega) hx hcp hob).mono ?_
  rintro e w1 ⟨rfl, hg, hc⟩
  have gB : Hid (Gr g wa w1) := Lib.hid hg
  replace B := Lib.hid (gB.out.blk B.out neB)
  replace GK := Lib.hid (GK.out.trans gB.out)
  clear gB
  clear CK
  have CK := Lib.hid hc
  clear hg hc
  have l_B : w.heap.size < w1.heap.size := blk_lt B.out
  have q_B_0 : w1.cell? ⟨w.heap.size, 0, none⟩ = some (.int .i64 0) := (blk_cell B.out 0).trans rfl
  have q_B_1 : w1.cell? ⟨w.heap.size, 1, none⟩ = some (.int .i64 off) := (blk_cell B.out 1).trans rfl
  have q_B_2 : w1.cell? ⟨w.heap.size, 2, none⟩ = some (.int .i64 d) := (blk_cell B.out 2).trans rfl
  have q_B_3 : w1.cell? ⟨w.heap.size, 3, none⟩ = some (.int .i64 p) := (blk_cell B.out 3).trans rfl
  have q_B_4 : w1.cell? ⟨w.heap.size, 4, none⟩ = some (.int .i64 0) := (blk_cell B.out 4).trans rfl
  have q_B_5 : w1.cell? ⟨w.heap.size, 5, none⟩ = some (.int .i64 0) := (blk_cell B.out 5).trans rfl
  have q_B_6 : w1.cell? ⟨w.heap.size, 6, none⟩ = some (.bool false) := (blk_cell B.out 6).trans rfl
  have q_B_7 : w1.cell? ⟨w.heap.size, 7, none⟩ = some (.int .i64 0) := (blk_cell B.out 7).trans rfl
  have q_B_8 : w1.cell? ⟨w.heap.size, 8, none⟩ = some (.int .u32 0) := (blk_cell B.out 8).trans rfl
  have q_B_9 : w1.cell? ⟨w.heap.size, 9, none⟩ = some (.int .u32 0) := (blk_cell B.out 9).trans rfl
  go_wp2_with fail
  clear l_B q_B_0 q_B_1 q_B_2 q_B_3 q_B_4 q_B_5 q_B_6 q_B_7 q_B_8 q_B_9
  have e0 : ((d : Int) + (p : Int)) = ((d + p : Nat) : Int) := by omega
  rw [e0]
  clear e0
  refine (charge_ok HE.out CK.out hch (by omega) (by omega)).mono ?_
  rintro e w2 (⟨q, hq, rfl, hg, hc⟩ | ⟨hq, _⟩)
  rotate_left
  · cases hq
  cases hq
  have gB : Hid (Gr g w1 w2) := Lib.hid hg
  replace B := Lib.hid (gB.out.blk B.out neB)
  replace GK := Lib.hid (GK.out.trans gB.out)
  clear gB
  clear CK
  have CK := Lib.hid hc
  clear hg hc
  have l_B : w.heap.size < w2.heap.size := blk_lt B.out
  have q_B_0 : w2.cell? ⟨w.heap.size, 0, none⟩ = some (.int .i64 0) := (blk_cell B.out 0).trans rfl
  have q_B_1 : w2.cell? ⟨w.heap.size, 1, none⟩ = some (.int .i64 off) := (blk_cell B.out 1).trans rfl
  have q_B_2 : w2.cell? ⟨w.heap.size, 2, none⟩ = some (.int .i64 d) := (blk_cell B.out 2).trans rfl
  have q_B_3 : w2.cell? ⟨w.heap.size, 3, none⟩ = some (.int .i64 p) := (blk_cell B.out 3).trans rfl
  have q_B_4 : w2.cell? ⟨w.heap.size, 4, none⟩ = some (.int .i64 0) := (blk_cell B.out 4).trans rfl
  have q_B_5 : w2.cell? ⟨w.heap.size, 5, none⟩ = some (.int .i64 0) := (blk_cell B.out 5).trans rfl
  have q_B_6 : w2.cell? ⟨w.heap.size, 6, none⟩ = some (.bool false) := (blk_cell B.out 6).trans rfl
  have q_B_7 : w2.cell? ⟨w.heap.size, 7, none⟩ = some (.int .i64 0) := (blk_cell B.out 7).trans rfl
  have q_B_8 : w2.cell? ⟨w.heap.size, 8, none⟩ = some (.int .u32 0) := (blk_cell B.out 8).trans rfl
  have q_B_9 : w2.cell? ⟨w.heap.size, 9, none⟩ = some (.int .u32 0) := (blk_cell B.out 9).trans rfl
  go_wp2_with fail
  clear l_B q_B_0 q_B_1 q_B_2 q_B_3 q_B_4 q_B_5 q_B_6 q_B_7 q_B_8 q_B_9
  obtain ⟨j, hj⟩ : ∃ j, nx + d = j + 1 := ⟨nx + d - 1, by omega⟩
  have hjl : j < s.length := by have := (objM_in hob).2; omega
  have ej : nx + d - 1 = j := by omega
  rw [ej] at hw1
  clear ej
  have hwc := wd_cell HE.out CK.out.below hjl
  generalize wd s j = x at hwc hw1
  have hj0 : (0 : Int) ≤ (j : Int) := Int.natCast_nonneg _
  have hj1 : (j : Int) < (s.length : Int) := by omega
  have t1 : ((d : Int) == 0) = false := beq_eq_false_iff_ne.2 (by omega)
  have t2 : (x != 0) = true := bne_iff_ne.2 hw1
  have HJ := Lib.hid hj
  clear hj
  obtain ⟨x1_, x2_, x3_, x4_, x5_, x6_⟩ := idx_wraps HJ.out (by have := HLEN.out; omega)
  have l_B : w.heap.size < w2.heap.size := blk_lt B.out
  have q_B_0 : w2.cell? ⟨w.heap.size, 0, none⟩ = some (.int .i64 0) := (blk_cell B.out 0).trans rfl
  have q_B_1 : w2.cell? ⟨w.heap.size, 1, none⟩ = some (.int .i64 off) := (blk_cell B.out 1).trans rfl
  have q_B_2 : w2.cell? ⟨w.heap.size, 2, none⟩ = some (.int .i64 d) := (blk_cell B.out 2).trans rfl
  have q_B_3 : w2.cell? ⟨w.heap.size, 3, none⟩ = some (.int .i64 p) := (blk_cell B.out 3).trans rfl
  have q_B_4 : w2.cell? ⟨w.heap.size, 4, none⟩ = some (.int .i64 0) := (blk_cell B.out 4).trans rfl
  have q_B_5 : w2.cell? ⟨w.heap.size, 5, none⟩ = some (.int .i64 0) := (blk_cell B.out 5).trans rfl
  have q_B_6 : w2.cell? ⟨w.heap.size, 6, none⟩ = some (.bool false) := (blk_cell B.out 6).trans rfl
  have q_B_7 : w2.cell? ⟨w.heap.size, 7, none⟩ = some (.int .i64 0) := (blk_cell B.out 7).trans rfl
  have q_B_8 : w2.cell? ⟨w.heap.size, 8, none⟩ = some (.int .u32 0) := (blk_cell B.out 8).trans rfl
  have q_B_9 : w2.cell? ⟨w.heap.size, 9, none⟩ = some (.int .u32 0) := (blk_cell B.out 9).trans rfl
  have l_K : g < w2.heap.size := blk_lt CK.out.blk
  have q_K_0 : w2.cell? ⟨g, 0, none⟩ = some (.slice (some ⟨sb, so, none⟩) s.length cp) := (blk_cell CK.out.blk 0).trans rfl
  refine start_ (n := 18) (S := fun w' => w'.cell? ⟨w.heap.size, 2, none⟩ = some (.int .i64 (d : Int)) ∧ w'.cell? ⟨g, 0, none⟩ = some (.slice (some ⟨sb, so, none⟩) s.length cp) ∧ w'.cell? ⟨sb, so + j, none⟩ = some (.int .u64 x)) (ds := []) #[false, false, false, false, false, false, false, false, false, false, false, false, false, false, false, false, false, false] (by kernel_rfl) rfl rfl ⟨q_B_2, q_K_0, hwc⟩ (fun hHeld => ?_)
  obtain ⟨w3, hwd⟩ : ∃ W, W = w2.drew := ⟨_, rfl⟩
  rw [← hwd] at hHeld ⊢
  have hb : Below w2.heap.size w2 w3 := by rw [hwd]; exact (Below.refl _ _).drew
  clear hwd
  replace GK := Lib.hid (GK.out.then hb)
  replace CK := Lib.hid (CK.out.then hb)
  replace B := Lib.hid (blk_below B.out hb)
  clear hb
  refine pure_ (i := 0) (N := some 35) (v := ?_) (a' := ?_) #[true, false, false, false, false, false, false, false, false, false, false, false, false, false, false, false, false, false] rfl rfl (by kernel_rfl) (fun _ _ _ h => h) (Or.inl ⟨by rfl, ?_⟩) ?_ ?_
  rotate_left
  · intro w'
    go_simp
    with_reducible rfl
  rotate_left
  · simp only [Act.put, List.setIfInBounds_toArray, List.set_cons_zero, List.set_cons_succ, i64_w, i32_w]
    rfl
  refine take_ (i := 1) (N := some 36) (v := ?_) (a' := ?_) #[true, true, false, false, false, false, false, false, false, false, false, false, false, false, false, false, false, false] rfl rfl (by kernel_rfl) (fun _ _ _ h => h) (Or.inl ⟨by rfl, ?_⟩) hHeld ?_ ?_
  rotate_left
  · rintro w' ⟨s0, s1, s2⟩
    go_simp
    with_reducible rfl
  rotate_left
  · simp only [Act.put, List.setIfInBounds_toArray, List.set_cons_zero, List.set_cons_succ, i64_w, i32_w]
    rfl
  refine pure_ (i := 2) (N := some 37) (v := ?_) (a' := ?_) #[true, true, true, false, false, false, false, false, false, false, false, false, false, false, false, false, false, false] rfl rfl (by kernel_rfl) (fun _ _ _ h => h) (Or.inl ⟨by rfl, ?_⟩) ?_ ?_
  rotate_left
  · intro w'
    go_simp
    with_reducible rfl
  rotate_left
  · simp only [Act.put, List.setIfInBounds_toArray, List.set_cons_zero, List.set_cons_succ, i64_w, i32_w]
    rfl
  refine pure_ (i := 3) (N := some 38) (v := ?_) (a' := ?_) #[true, true, true, true, false, false, false, false, false, false, false, false, false, false, false, false, false, false] rfl rfl (by kernel_rfl) (fun _ _ _ h => h) (Or.inl ⟨by rfl, ?_⟩) ?_ ?_
  rotate_left
  · intro w'
    go_simp
    with_reducible rfl
  rotate_left
  · simp only [Act.put, List.setIfInBounds_toArray, List.set_cons_zero, List.set_cons_succ, i64_w, i32_w]
    rfl
  refine pure_ (i := 4) (N := some 39) (v := ?_) (a' := ?_) #[true, true, true, true, true, false, false, false, false, false, false, false, false, false, false, false, false, false] rfl rfl (by kernel_rfl) (fun _ _ _ h => h) (Or.inl ⟨by rfl, ?_⟩) ?_ ?_
  rotate_left
  · intro w'
    go_simp
    with_reducible rfl
  rotate_left
  · simp only [Act.put, List.setIfInBounds_toArray, List.set_cons_zero, List.set_cons_succ, i64_w, i32_w]
    rfl
  refine pure_ (i := 5) (N := some 40) (v := ?_) (a' := ?_) #[true, true, true, true, true, true, false, false, false, false, false, false, false, false, false, false, false, false] rfl rfl (by kernel_rfl) (fun _ _ _ h => h) (Or.inl ⟨by rfl, ?_⟩) ?_ ?_
  rotate_left
  · intro w'
    go_simp
    with_reducible rfl
  rotate_left
  · simp only [Act.put, List.setIfInBounds_toArray, List.set_cons_zero, List.set_cons_succ, i64_w, i32_w]
    rfl
  refine pure_ (i := 6) (N := some 41) (v := ?_) (a' := ?_) #[true, true, true, true, true, true, true, false, false, false, false, false, false, false, false, false, false, false] rfl rfl (by kernel_rfl) (fun _ _ _ h => h) (Or.inl ⟨by rfl, ?_⟩) ?_ ?_
  rotate_left
  · intro w'
    go_simp
    with_reducible rfl
  rotate_left
  · simp only [Act.put, List.setIfInBounds_toArray, List.set_cons_zero, List.set_cons_succ, i64_w, i32_w]
    rfl
  refine pure_ (i := 8) (N := some 43) (v := ?_) (a' := ?_) #[true, true, true, true, true, true, true, false, true, false, false, false, false, false, false, false, false, false] rfl rfl (by kernel_rfl) (fun _ _ _ h => h) (Or.inl ⟨by rfl, ?_⟩) ?_ ?_
  rotate_left
  · intro w'
    go_simp
    with_reducible rfl
  rotate_left
  · simp only [Act.put, List.setIfInBounds_toArray, List.set_cons_zero, List.set_cons_succ, i64_w, i32_w]
    rfl
  refine pure_ (i := 9) (N := some 44) (v := ?_) (a' := ?_) #[true, true, true, true, true, true, true, false, true, true, false, false, false, false, false, false, false, false] rfl rfl (by kernel_rfl) (fun _ _ _ h => h) (Or.inl ⟨by rfl, ?_⟩) ?_ ?_
  rotate_left
  · intro w'
    go_simp
    with_reducible rfl
  rotate_left
  · simp only [Act.put, List.setIfInBounds_toArray, List.set_cons_zero, List.set_cons_succ, i64_w, i32_w]
    rfl
  refine take_ (i := 7) (N := some 42) (v := ?_) (a' := ?_) #[true, true, true, true, true, true, true, true, true, true, false, false, false, false, false, false, false, false] rfl rfl (by kernel_rfl) (fun _ _ _ h => h) (Or.inl ⟨by rfl, ?_⟩) hHeld ?_ ?_
  rotate_left
  · rintro w' ⟨s0, s1, s2⟩
    go_simp
    with_reducible rfl
  rotate_left
  · simp only [Act.put, List.setIfInBounds_toArray, List.set_cons_zero, List.set_cons_succ, i64_w, i32_w]
    rfl
  refine take_ (i := 10) (N := some 45) (v := ?_) (a' := ?_) #[true, true, true, true, true, true, true, true, true, true, true, false, false, false, false, false, false, false] rfl rfl (by kernel_rfl) (fun _ _ _ h => h) (Or.inl ⟨by rfl, ?_⟩) hHeld ?_ ?_
  rotate_left
  · rintro w' ⟨s0, s1, s2⟩
    go_simp
    with_reducible rfl
  rotate_left
  · simp only [Act.put, List.setIfInBounds_toArray, List.set_cons_zero, List.set_cons_succ, i64_w, i32_w]
    rfl
  refine pure_ (i := 11) (N := some 46) (v := ?_) (a' := ?_) #[true, true, true, true, true, true, true, true, true, true, true, true, false, false, false, false, false, false] rfl rfl (by kernel_rfl) (fun _ _ _ h => h) (Or.inl ⟨by rfl, ?_⟩) ?_ ?_
  rotate_left
  · intro w'
    go_simp
    with_reducible rfl
  rotate_left
  · simp only [Act.put, List.setIfInBounds_toArray, List.set_cons_zero, List.set_cons_succ, i64_w, i32_w]
    rfl
  refine pure_ (i := 12) (N := some 47) (v := ?_) (a' := ?_) #[true, true, true, true, true, true, true, true, true, true, true, true, true, false, false, false, false, false] rfl rfl (by kernel_rfl) (fun _ _ _ h => h) (Or.inl ⟨by rfl, ?_⟩) ?_ ?_
  rotate_left
  · intro w'
    go_simp
    with_reducible rfl
  rotate_left
  · simp only [Act.put, List.setIfInBounds_toArray, List.set_cons_zero, List.set_cons_succ, i64_w, i32_w]
    rfl
  refine pure_ (i := 13) (N := some 48) (v := ?_) (a' := ?_) #[true, true, true, true, true, true, true, true, true, true, true, true, true, true, false, false, false, false] rfl rfl (by kernel_rfl) (fun _ _ _ h => h) (Or.inl ⟨by rfl, ?_⟩) ?_ ?_
  rotate_left
  · intro w'
    go_simp
    with_reducible rfl
  rotate_left
  · simp only [Act.put, List.setIfInBounds_toArray, List.set_cons_zero, List.set_cons_succ, i64_w, i32_w]
    rfl
  refine take_ (i := 14) (N := some 49) (v := ?_) (a' := ?_) #[true, true, true, true, true, true, true, true, true, true, true, true, true, true, true, false, false, false] rfl rfl (by kernel_rfl) (fun _ _ _ h => h) (Or.inl ⟨by rfl, ?_⟩) hHeld ?_ ?_
  rotate_left
  · rintro w' ⟨s0, s1, s2⟩
    go_simp
    with_reducible rfl
  rotate_left
  · simp only [Act.put, List.setIfInBounds_toArray, List.set_cons_zero, List.set_cons_succ, i64_w, i32_w]
    rfl
  refine pure_ (i := 15) (N := some 50) (v := ?_) (a' := ?_) #[true, true, true, true, true, true, true, true, true, true, true, true, true, true, true, true, false, false] rfl rfl (by kernel_rfl) (fun _ _ _ h => h) (Or.inl ⟨by rfl, ?_⟩) ?_ ?_
  rotate_left
  · intro w'
    go_simp
    with_reducible rfl
  rotate_left
  · simp only [Act.put, List.setIfInBounds_toArray, List.set_cons_zero, List.set_cons_succ, i64_w, i32_w]
    rfl
  refine pure_ (i := 16) (N := some 51) (v := ?_) (a' := ?_) #[true, true, true, true, true, true, true, true, true, true, true, true, true, true, true, true, true, false] rfl rfl (by kernel_rfl) (fun _ _ _ h => h) (Or.inl ⟨by rfl, ?_⟩) ?_ ?_
  rotate_left
  · intro w'
    go_simp
    with_reducible rfl
  rotate_left
  · simp only [Act.put, List.setIfInBounds_toArray, List.set_cons_zero, List.set_cons_succ, i64_w, i32_w]
    rfl
  refine one_ (i := 17) (N := some 52) #[true, true, true, true, true, true, true, true, true, true, true, true, true, true, true, true, true, true] rfl rfl (by kernel_rfl) (by decide) (fun K hK => ?_)
  refine goes_ Tryd.func19 (by kernel_rfl) rfl #[.bool true] (by rfl) rfl rfl (by simp only [List.map_toArray, List.map_cons, List.map_nil]; rfl) ?_
  with_reducible refine (must_yes _).mono ?_
  rintro e w3 ⟨rfl, rfl⟩
  refine ⟨_, rfl, ?_⟩
  refine hK.out _ _ ⟨hHeld.1, hHeld.2.1, hHeld.2.2⟩ (fun hHeld => ?_)
  clear hK K
  refine norm_ (a' := ?_) ?_ ?_
  rotate_left
  · show Act.put _ (some 52) _ = _
    simp only [Act.put, List.setIfInBounds_toArray, List.set_cons_zero, List.set_cons_succ, i64_w, i32_w]
    rfl
  refine done_ (by kernel_rfl) ?_
  clear hwc hj0 hj1 t1 t2 x1_ x2_ x3_ x4_ x5_ x6_ l_B q_B_0 q_B_1 q_B_2 q_B_3 q_B_4 q_B_5 q_B_6 q_B_7 q_B_8 q_B_9 l_K q_K_0
  clear hHeld
  go_wp2_with fail
  obtain ⟨k, hk⟩ : ∃ k, nx + d = k := ⟨_, rfl⟩
  obtain ⟨j, hj⟩ : ∃ j, k + p = j + 1 := ⟨k + p - 1, by omega⟩
  have hjl : j < s.length := by have := (objM_in hob).2; omega
  have ej : nx + d + p - 1 = j := by omega
  rw [ej] at hw2
  clear ej
  have hwc := wd_cell HE.out CK.out.below hjl
  generalize wd s j = x at hwc hw2
  have hj0 : (0 : Int) ≤ (j : Int) := Int.natCast_nonneg _
  have hj1 : (j : Int) < (s.length : Int) := by omega
  have t1 : ((p : Int) == 0) = false := beq_eq_false_iff_ne.2 (by omega)
  have t2 : (x != 0) = false := bne_eq_false_iff_eq.2 hw2
  have HJ := Lib.hid hj
  have HKK := Lib.hid hk
  clear hj hk
  obtain ⟨y1_, y2_⟩ := sum_wraps HKK.out (by have := HLEN.out; have := HJ.out; omega)
  obtain ⟨x1_, x2_, x3_, x4_, x5_, x6_⟩ := idx_wraps HJ.out (by have := HLEN.out; omega)
  have l_B : w.heap.size < w3.heap.size := blk_lt B.out
  have q_B_0 : w3.cell? ⟨w.heap.size, 0, none⟩ = some (.int .i64 0) := (blk_cell B.out 0).trans rfl
  have q_B_1 : w3.cell? ⟨w.heap.size, 1, none⟩ = some (.int .i64 off) := (blk_cell B.out 1).trans rfl
  have q_B_2 : w3.cell? ⟨w.heap.size, 2, none⟩ = some (.int .i64 d) := (blk_cell B.out 2).trans rfl
  have q_B_3 : w3.cell? ⟨w.heap.size, 3, none⟩ = some (.int .i64 p) := (blk_cell B.out 3).trans rfl
  have q_B_4 : w3.cell? ⟨w.heap.size, 4, none⟩ = some (.int .i64 0) := (blk_cell B.out 4).trans rfl
  have q_B_5 : w3.cell? ⟨w.heap.size, 5, none⟩ = some (.int .i64 0) := (blk_cell B.out 5).trans rfl
  have q_B_6 : w3.cell? ⟨w.heap.size, 6, none⟩ = some (.bool false) := (blk_cell B.out 6).trans rfl
  have q_B_7 : w3.cell? ⟨w.heap.size, 7, none⟩ = some (.int .i64 0) := (blk_cell B.out 7).trans rfl
  have q_B_8 : w3.cell? ⟨w.heap.size, 8, none⟩ = some (.int .u32 0) := (blk_cell B.out 8).trans rfl
  have q_B_9 : w3.cell? ⟨w.heap.size, 9, none⟩ = some (.int .u32 0) := (blk_cell B.out 9).trans rfl
  have l_K : g < w3.heap.size := blk_lt CK.out.blk
  have q_K_0 : w3.cell? ⟨g, 0, none⟩ = some (.slice (some ⟨sb, so, none⟩) s.length cp) := (blk_cell CK.out.blk 0).trans rfl
  refine start_ (n := 21) (S := fun w' => w'.cell? ⟨w.heap.size, 2, none⟩ = some (.int .i64 (d : Int)) ∧ w'.cell? ⟨w.heap.size, 3, none⟩ = some (.int .i64 (p : Int)) ∧ w'.cell? ⟨g, 0, none⟩ = some (.slice (some ⟨sb, so, none⟩) s.length cp) ∧ w'.cell? ⟨sb, so + j, none⟩ = some (.int .u64 x)) (ds := []) #[false, false, false, false, false, false, false, false, false, false, false, false, false, false, false, false, false, false, false, false, false] (by kernel_rfl) rfl rfl ⟨q_B_2, q_B_3, q_K_0, hwc⟩ (fun hHeld => ?_)
  obtain ⟨w4, hwd⟩ : ∃ W, W = w3.drew := ⟨_, rfl⟩
  rw [← hwd] at hHeld ⊢
  have hb : Below w3.heap.size w3 w4 := by rw [hwd]; exact (Below.refl _ _).drew
  clear hwd
  replace GK := Lib.hid (GK.out.then hb)
  replace CK := Lib.hid (CK.out.then hb)
  replace B := Lib.hid (blk_below B.out hb)
  clear hb
  refine pure_ (i := 0) (N := some 53) (v := ?_) (a' := ?_) #[true, false, false, false, false, false, false, false, false, false, false, false, false, false, false, false, false, false, false, false, false] rfl rfl (by kernel_rfl) (fun _ _ _ h => h) (Or.inl ⟨by rfl, ?_⟩) ?_ ?_
  rotate_left
  · intro w'
    go_simp
    with_reducible rfl
  rotate_left
  · simp only [Act.put, List.setIfInBounds_toArray, List.set_cons_zero, List.set_cons_succ, i64_w, i32_w]
    rfl
  refine take_ (i := 1) (N := some 54) (v := ?_) (a' := ?_) #[true, true, false, false, false, false, false, false, false, false, false, false, false, false, false, false, false, false, false, false, false] rfl rfl (by kernel_rfl) (fun _ _ _ h => h) (Or.inl ⟨by rfl, ?_⟩) hHeld ?_ ?_
  rotate_left
  · rintro w' ⟨s0, s1, s2, s3⟩
    go_simp
    with_reducible rfl
  rotate_left
  · simp only [Act.put, List.setIfInBounds_toArray, List.set_cons_zero, List.set_cons_succ, i64_w, i32_w]
    rfl
  refine pure_ (i := 2) (N := some 55) (v := ?_) (a' := ?_) #[true, true, true, false, false, false, false, false, false, false, false, false, false, false, false, false, false, false, false, false, false] rfl rfl (by kernel_rfl) (fun _ _ _ h => h) (Or.inl ⟨by rfl, ?_⟩) ?_ ?_
  rotate_left
  · intro w'
    go_simp
    with_reducible rfl
  rotate_left
  · simp only [Act.put, List.setIfInBounds_toArray, List.set_cons_zero, List.set_cons_succ, i64_w, i32_w]
    rfl
  refine pure_ (i := 3) (N := some 56) (v := ?_) (a' := ?_) #[true, true, true, true, false, false, false, false, false, false, false, false, false, false, false, false, false, false, false, false, false] rfl rfl (by kernel_rfl) (fun _ _ _ h => h) (Or.inl ⟨by rfl, ?_⟩) ?_ ?_
  rotate_left
  · intro w'
    go_simp
    with_reducible rfl
  rotate_left
  · simp only [Act.put, List.setIfInBounds_toArray, List.set_cons_zero, List.set_cons_succ, i64_w, i32_w]
    rfl
  refine pure_ (i := 4) (N := some 57) (v := ?_) (a' := ?_) #[true, true, true, true, true, false, false, false, false, false, false, false, false, false, false, false, false, false, false, false, false] rfl rfl (by kernel_rfl) (fun _ _ _ h => h) (Or.inl ⟨by rfl, ?_⟩) ?_ ?_
  rotate_left
  · intro w'
    go_simp
    with_reducible rfl
  rotate_left
  · simp only [Act.put, List.setIfInBounds_toArray, List.set_cons_zero, List.set_cons_succ, i64_w, i32_w]
    rfl
  refine pure_ (i := 5) (N := some 58) (v := ?_) (a' := ?_) #[true, true, true, true, true, true, false, false, false, false, false, false, false, false, false, false, false, false, false, false, false] rfl rfl (by kernel_rfl) (fun _ _ _ h => h) (Or.inl ⟨by rfl, ?_⟩) ?_ ?_
  rotate_left
  · intro w'
    go_simp
    with_reducible rfl
  rotate_left
  · simp only [Act.put, List.setIfInBounds_toArray, List.set_cons_zero, List.set_cons_succ, i64_w, i32_w]
    rfl
  refine pure_ (i := 6) (N := some 59) (v := ?_) (a' := ?_) #[true, true, true, true, true, true, true, false, false, false, false, false, false, false, false, false, false, false, false, false, false] rfl rfl (by kernel_rfl) (fun _ _ _ h => h) (Or.inl ⟨by rfl, ?_⟩) ?_ ?_
  rotate_left
  · intro w'
    go_simp
    with_reducible rfl
  rotate_left
  · simp only [Act.put, List.setIfInBounds_toArray, List.set_cons_zero, List.set_cons_succ, i64_w, i32_w]
    rfl
  refine pure_ (i := 8) (N := some 61) (v := ?_) (a' := ?_) #[true, true, true, true, true, true, true, false, true, false, false, false, false, false, false, false, false, false, false, false, false] rfl rfl (by kernel_rfl) (fun _ _ _ h => h) (Or.inl ⟨by rfl, ?_⟩) ?_ ?_
  rotate_left
  · intro w'
    go_simp
    with_reducible rfl
  rotate_left
  · simp only [Act.put, List.setIfInBounds_toArray, List.set_cons_zero, List.set_cons_succ, i64_w, i32_w]
    rfl
  refine pure_ (i := 9) (N := some 62) (v := ?_) (a' := ?_) #[true, true, true, true, true, true, true, false, true, true, false, false, false, false, false, false, false, false, false, false, false] rfl rfl (by kernel_rfl) (fun _ _ _ h => h) (Or.inl ⟨by rfl, ?_⟩) ?_ ?_
  rotate_left
  · intro w'
    go_simp
    with_reducible rfl
  rotate_left
  · simp only [Act.put, List.setIfInBounds_toArray, List.set_cons_zero, List.set_cons_succ, i64_w, i32_w]
    rfl
  refine pure_ (i := 12) (N := some 65) (v := ?_) (a' := ?_) #[true, true, true, true, true, true, true, false, true, true, false, false, true, false, false, false, false, false, false, false, false] rfl rfl (by kernel_rfl) (fun _ _ _ h => h) (Or.inl ⟨by rfl, ?_⟩) ?_ ?_
  rotate_left
  · intro w'
    go_simp
    with_reducible rfl
  rotate_left
  · simp only [Act.put, List.setIfInBounds_toArray, List.set_cons_zero, List.set_cons_succ, i64_w, i32_w]
    rfl
  refine take_ (i := 7) (N := some 60) (v := ?_) (a' := ?_) #[true, true, true, true, true, true, true, true, true, true, false, false, true, false, false, false, false, false, false, false, false] rfl rfl (by kernel_rfl) (fun _ _ _ h => h) (Or.inl ⟨by rfl, ?_⟩) hHeld ?_ ?_
  rotate_left
  · rintro w' ⟨s0, s1, s2, s3⟩
    go_simp
    with_reducible rfl
  rotate_left
  · simp only [Act.put, List.setIfInBounds_toArray, List.set_cons_zero, List.set_cons_succ, i64_w, i32_w]
    rfl
  refine take_ (i := 10) (N := some 63) (v := ?_) (a' := ?_) #[true, true, true, true, true, true, true, true, true, true, true, false, true, false, false, false, false, false, false, false, false] rfl rfl (by kernel_rfl) (fun _ _ _ h => h) (Or.inl ⟨by rfl, ?_⟩) hHeld ?_ ?_
  rotate_left
  · rintro w' ⟨s0, s1, s2, s3⟩
    go_simp
    with_reducible rfl
  rotate_left
  · simp only [Act.put, List.setIfInBounds_toArray, List.set_cons_zero, List.set_cons_succ, i64_w, i32_w]
    rfl
  refine pure_ (i := 11) (N := some 64) (v := ?_) (a' := ?_) #[true, true, true, true, true, true, true, true, true, true, true, true, true, false, false, false, false, false, false, false, false] rfl rfl (by kernel_rfl) (fun _ _ _ h => h) (Or.inl ⟨by rfl, ?_⟩) ?_ ?_
  rotate_left
  · intro w'
    go_simp
    with_reducible rfl
  rotate_left
  · simp only [Act.put, List.setIfInBounds_toArray, List.set_cons_zero, List.set_cons_succ, i64_w, i32_w]
    rfl
  refine take_ (i := 13) (N := some 66) (v := ?_) (a' := ?_) #[true, true, true, true, true, true, true, true, true, true, true, true, true, true, false, false, false, false, false, false, false] rfl rfl (by kernel_rfl) (fun _ _ _ h => h) (Or.inl ⟨by rfl, ?_⟩) hHeld ?_ ?_
  rotate_left
  · rintro w' ⟨s0, s1, s2, s3⟩
    go_simp
    with_reducible rfl
  rotate_left
  · simp only [Act.put, List.setIfInBounds_toArray, List.set_cons_zero, List.set_cons_succ, i64_w, i32_w]
    rfl
  refine pure_ (i := 14) (N := some 67) (v := ?_) (a' := ?_) #[true, true, true, true, true, true, true, true, true, true, true, true, true, true, true, false, false, false, false, false, false] rfl rfl (by kernel_rfl) (fun _ _ _ h => h) (Or.inl ⟨by rfl, ?_⟩) ?_ ?_
  rotate_left
  · intro w'
    go_simp
    with_reducible rfl
  rotate_left
  · simp only [Act.put, List.setIfInBounds_toArray, List.set_cons_zero, List.set_cons_succ, i64_w, i32_w]
    rfl
  refine pure_ (i := 15) (N := some 68) (v := ?_) (a' := ?_) #[true, true, true, true, true, true, true, true, true, true, true, true, true, true, true, true, false, false, false, false, false] rfl rfl (by kernel_rfl) (fun _ _ _ h => h) (Or.inl ⟨by rfl, ?_⟩) ?_ ?_
  rotate_left
  · intro w'
    go_simp
    with_reducible rfl
  rotate_left
  · simp only [Act.put, List.setIfInBounds_toArray, List.set_cons_zero, List.set_cons_succ, i64_w, i32_w]
    rfl
  refine pure_ (i := 16) (N := some 69) (v := ?_) (a' := ?_) #[true, true, true, true, true, true, true, true, true, true, true, true, true, true, true, true, true, false, false, false, false] rfl rfl (by kernel_rfl) (fun _ _ _ h => h) (Or.inl ⟨by rfl, ?_⟩) ?_ ?_
  rotate_left
  · intro w'
    go_simp
    with_reducible rfl
  rotate_left
  · simp only [Act.put, List.setIfInBounds_toArray, List.set_cons_zero, List.set_cons_succ, i64_w, i32_w]
    rfl
  refine take_ (i := 17) (N := some 70) (v := ?_) (a' := ?_) #[true, true, true, true, true, true, true, true, true, true, true, true, true, true, true, true, true, true, false, false, false] rfl rfl (by kernel_rfl) (fun _ _ _ h => h) (Or.inl ⟨by rfl, ?_⟩) hHeld ?_ ?_
  rotate_left
  · rintro w' ⟨s0, s1, s2, s3⟩
    go_simp
    with_reducible rfl
  rotate_left
  · simp only [Act.put, List.setIfInBounds_toArray, List.set_cons_zero, List.set_cons_succ, i64_w, i32_w]
    rfl
  refine pure_ (i := 18) (N := some 71) (v := ?_) (a' := ?_) #[true, true, true, true, true, true, true, true, true, true, true, true, true, true, true, true, true, true, true, false, false] rfl rfl (by kernel_rfl) (fun _ _ _ h => h) (Or.inl ⟨by rfl, ?_⟩) ?_ ?_
  rotate_left
  · intro w'
    go_simp
    with_reducible rfl
  rotate_left
  · simp only [Act.put, List.setIfInBounds_toArray, List.set_cons_zero, List.set_cons_succ, i64_w, i32_w]
    rfl
  refine pure_ (i := 19) (N := some 72) (v := ?_) (a' := ?_) #[true, true, true, true, true, true, true, true, true, true, true, true, true, true, true, true, true, true, true, true, false] rfl rfl (by kernel_rfl) (fun _ _ _ h => h) (Or.inl ⟨by rfl, ?_⟩) ?_ ?_
  rotate_left
  · intro w'
    go_simp
    with_reducible rfl
  rotate_left
  · simp only [Act.put, List.setIfInBounds_toArray, List.set_cons_zero, List.set_cons_succ, i64_w, i32_w]
    rfl
  refine one_ (i := 20) (N := some 73) #[true, true, true, true, true, true, true, true, true, true, true, true, true, true, true, true, true, true, true, true, true] rfl rfl (by kernel_rfl) (by decide) (fun K hK => ?_)
  refine goes_bad Tryd.func19 (by kernel_rfl) rfl #[.bool false] (by rfl) rfl (by simp only [List.map_toArray, List.map_cons, List.map_nil]; rfl) ?_
  with_reducible refine (must_no _).mono ?_
  rintro e w3 ⟨rfl, rfl⟩
  refine ⟨_, rfl, ?_⟩
  clear hwc hj0 hj1 t1 t2 y1_ y2_ x1_ x2_ x3_ x4_ x5_ x6_ l_B q_B_0 q_B_1 q_B_2 q_B_3 q_B_4 q_B_5 q_B_6 q_B_7 q_B_8 q_B_9 l_K q_K_0
  clear hHeld
  exact ⟨rfl, rfl, GK.out⟩
set_option maxHeartbeats 4000000 in
theorem struct_5zn {W0 w : World} {s : List Int} {cp g nx m : Nat} {D Wd O : Int} {sb so at_ d p : Nat} {off depth : Int} (hE : Env W0 s (some ⟨sb, so, none⟩)) (hK : Ck W0 s (some ⟨sb, so, none⟩) cp D Wd O g nx m w) (ha : at_ ≤ 17592186040320) (ho0 : -536870912 ≤ off) (ho1 : off ≤ 536870911) (hd : d ≤ 65535) (hp : p ≤ 65535) (hx : nx ≤ s.length) (hm : m ≤ 4611686018427387904) (hcp : s.length ≤ cp) {v : Nat → Nat → Nat → Option (Nat × Nat)} (hv : InM s v) (hd0_ : 0 ≤ depth) (hd1_ : depth ≤ 1000000) (hV : VisC W0 s (some ⟨sb, so, none⟩) cp D Wd O g v (depth + 1)) (hdp : ¬ d + p = 0) (hob : objM s at_ off (d + p) nx = true) (hch : d + p ≤ m) (hdz : d = 0) (hpz : ¬ p = 0) (hw2 : ¬ wd s (nx + d + p - 1) = 0)  :
    Calls Tryd.prog 33 #[.pointer (some ⟨g, 0, none⟩), .int .i64 at_, .int .i64 depth, .agg #[.int .i64 0, .int .i64 off, .int .i64 d, .int .i64 p, .int .i64 0, .int .i64 0, .bool false, .int .i64 0, .int .u32 0, .int .u32 0]] w fun e w' => EndM W0 s (some ⟨sb, so, none⟩) cp D Wd O g w (ptrsM v p (nx + d) (nx + (d + p)) (m - (d + p))) e w' := by
  have HLEN := Lib.hid hE.len
  have hlen := hE.len
  have t0 : ((d : Int) + (p : Int) == 0) = false := beq_eq_false_iff_ne.2 (by omega)
  have HI := Lib.hid hv
  have HV := Lib.hid hV
  clear hv hV
  have H_hdz := Lib.hid hdz
  clear hdz
  have GK := Lib.hid (Gr.refl g w)
  have CK := Lib.hid hK
  have HE := Lib.hid hE
  clear hE hK
  go_enter Tryd.func33, Tryd.ntmps33
  go_wp2_with fail
  have lg : g < w.heap.size := blk_lt CK.out.blk
  refine calls_at (fun wa hW => ?_)
  have hb : Below w.heap.size w wa := by rw [hW]; exact (Below.refl _ _).alloc (Nat.le_refl _) _
  have nB : wa.heap[w.heap.size]? = some (.cells #[.int .i64 0, .int .i64 off, .int .i64 d, .int .i64 p, .int .i64 0, .int .i64 0, .bool false, .int .i64 0, .int .u32 0, .int .u32 0] 67 (0, 0)) := by rw [hW]; exact heap_alloc_new _ _
  have neB : w.heap.size ≠ g := by omega
  clear hW lg
  replace GK := Lib.hid (GK.out.then hb)
  replace CK := Lib.hid (CK.out.then hb)
  clear hb
  have B := Lib.hid nB
  clear nB
  have e0 : ((d : Int) + (p : Int)) = ((d + p : Nat) : Int) := by omega
  rw [e0]
  clear e0
  refine (object_yes HE.out CK.out ha ⟨ho0, ho1⟩ (by omega) hx hcp hob).mono ?_
  rintro e w1 ⟨rfl, hg, hc⟩
  have gB : Hid (Gr g wa w1) := Lib.hid hg
  replace B := Lib.hid (gB.out.blk B.out neB)
  replace GK := Lib.hid (GK.out.trans gB.out)
  clear gB
  clear CK
  have CK := Lib.hid hc
  clear hg hc
  have l_B : w.heap.size < w1.heap.size := blk_lt B.out
  have q_B_0 : w1.cell? ⟨w.heap.size, 0, none⟩ = some (.int .i64 0) := (blk_cell B.out 0).trans rfl
  have q_B_1 : w1.cell? ⟨w.heap.size, 1, none⟩ = some (.int .i64 off) := (blk_cell B.out 1).trans rfl
  have q_B_2 : w1.cell? ⟨w.heap.size, 2, none⟩ = some (.int .i64 d) := (blk_cell B.out 2).trans rfl
  have q_B_3 : w1.cell? ⟨w.heap.size, 3, none⟩ = some (.int .i64 p) := (blk_cell B.out 3).trans rfl
  have q_B_4 : w1.cell? ⟨w.heap.size, 4, none⟩ = some (.int .i64 0) := (blk_cell B.out 4).trans rfl
  have q_B_5 : w1.cell? ⟨w.heap.size, 5, none⟩ = some (.int .i64 0) := (blk_cell B.out 5).trans rfl
  have q_B_6 : w1.cell? ⟨w.heap.size, 6, none⟩ = some (.bool false) := (blk_cell B.out 6).trans rfl
  have q_B_7 : w1.cell? ⟨w.heap.size, 7, none⟩ = some (.int .i64 0) := (blk_cell B.out 7).trans rfl
  have q_B_8 : w1.cell? ⟨w.heap.size, 8, none⟩ = some (.int .u32 0) := (blk_cell B.out 8).trans rfl
  have q_B_9 : w1.cell? ⟨w.heap.size, 9, none⟩ = some (.int .u32 0) := (blk_cell B.out 9).trans rfl
  go_wp2_with fail
  clear l_B q_B_0 q_B_1 q_B_2 q_B_3 q_B_4 q_B_5 q_B_6 q_B_7 q_B_8 q_B_9
  have e0 : ((d : Int) + (p : Int)) = ((d + p : Nat) : Int) := by omega
  rw [e0]
  clear e0
  refine (charge_ok HE.out CK.out hch (by omega) (by omega)).mono ?_
  rintro e w2 (⟨q, hq, rfl, hg, hc⟩ | ⟨hq, _⟩)
  rotate_left
  · cases hq
  cases hq
  have gB : Hid (Gr g w1 w2) := Lib.hid hg
  replace B := Lib.hid (gB.out.blk B.out neB)
  replace GK := Lib.hid (GK.out.trans gB.out)
  clear gB
  clear CK
  have CK := Lib.hid hc
  clear hg hc
  have l_B : w.heap.size < w2.heap.size := blk_lt B.out
  have q_B_0 : w2.cell? ⟨w.heap.size, 0, none⟩ = some (.int .i64 0) := (blk_cell B.out 0).trans rfl
  have q_B_1 : w2.cell? ⟨w.heap.size, 1, none⟩ = some (.int .i64 off) := (blk_cell B.out 1).trans rfl
  have q_B_2 : w2.cell? ⟨w.heap.size, 2, none⟩ = some (.int .i64 d) := (blk_cell B.out 2).trans rfl
  have q_B_3 : w2.cell? ⟨w.heap.size, 3, none⟩ = some (.int .i64 p) := (blk_cell B.out 3).trans rfl
  have q_B_4 : w2.cell? ⟨w.heap.size, 4, none⟩ = some (.int .i64 0) := (blk_cell B.out 4).trans rfl
  have q_B_5 : w2.cell? ⟨w.heap.size, 5, none⟩ = some (.int .i64 0) := (blk_cell B.out 5).trans rfl
  have q_B_6 : w2.cell? ⟨w.heap.size, 6, none⟩ = some (.bool false) := (blk_cell B.out 6).trans rfl
  have q_B_7 : w2.cell? ⟨w.heap.size, 7, none⟩ = some (.int .i64 0) := (blk_cell B.out 7).trans rfl
  have q_B_8 : w2.cell? ⟨w.heap.size, 8, none⟩ = some (.int .u32 0) := (blk_cell B.out 8).trans rfl
  have q_B_9 : w2.cell? ⟨w.heap.size, 9, none⟩ = some (.int .u32 0) := (blk_cell B.out 9).trans rfl
  go_wp2_with fail
  clear l_B q_B_0 q_B_1 q_B_2 q_B_3 q_B_4 q_B_5 q_B_6 q_B_7 q_B_8 q_B_9
  have t1 : ((d : Int) == 0) = true := beq_iff_eq.2 (by have := H_hdz.out; omega)
  have l_B : w.heap.size < w2.heap.size := blk_lt B.out
  have q_B_0 : w2.cell? ⟨w.heap.size, 0, none⟩ = some (.int .i64 0) := (blk_cell B.out 0).trans rfl
  have q_B_1 : w2.cell? ⟨w.heap.size, 1, none⟩ = some (.int .i64 off) := (blk_cell B.out 1).trans rfl
  have q_B_2 : w2.cell? ⟨w.heap.size, 2, none⟩ = some (.int .i64 d) := (blk_cell B.out 2).trans rfl
  have q_B_3 : w2.cell? ⟨w.heap.size, 3, none⟩ = some (.int .i64 p) := (blk_cell B.out 3).trans rfl
  have q_B_4 : w2.cell? ⟨w.heap.size, 4, none⟩ = some (.int .i64 0) := (blk_cell B.out 4).trans rfl
  have q_B_5 : w2.cell? ⟨w.heap.size, 5, none⟩ = some (.int .i64 0) := (blk_cell B.out 5).trans rfl
  have q_B_6 : w2.cell? ⟨w.heap.size, 6, none⟩ = some (.bool false) := (blk_cell B.out 6).trans rfl
  have q_B_7 : w2.cell? ⟨w.heap.size, 7, none⟩ = some (.int .i64 0) := (blk_cell B.out 7).trans rfl
  have q_B_8 : w2.cell? ⟨w.heap.size, 8, none⟩ = some (.int .u32 0) := (blk_cell B.out 8).trans rfl
  have q_B_9 : w2.cell? ⟨w.heap.size, 9, none⟩ = some (.int .u32 0) := (blk_cell B.out 9).trans rfl
  refine start_ (n := 18) (S := fun w' => w'.cell? ⟨w.heap.size, 2, none⟩ = some (.int .i64 (d : Int))) (ds := []) #[false, false, false, false, false, false, false, false, false, false, false, false, false, false, false, false, false, false] (by kernel_rfl) rfl rfl (q_B_2) (fun hHeld => ?_)
  obtain ⟨w3, hwd⟩ : ∃ W, W = w2.drew := ⟨_, rfl⟩
  rw [← hwd] at hHeld ⊢
  have hb : Below w2.heap.size w2 w3 := by rw [hwd]; exact (Below.refl _ _).drew
  clear hwd
  replace GK := Lib.hid (GK.out.then hb)
  replace CK := Lib.hid (CK.out.then hb)
  replace B := Lib.hid (blk_below B.out hb)
  clear hb
  refine pure_ (i := 0) (N := some 35) (v := ?_) (a' := ?_) #[true, false, false, false, false, false, false, false, false, false, false, false, false, false, false, false, false, false] rfl rfl (by kernel_rfl) (fun _ _ _ h => h) (Or.inl ⟨by rfl, ?_⟩) ?_ ?_
  rotate_left
  · intro w'
    go_simp
    with_reducible rfl
  rotate_left
  · simp only [Act.put, List.setIfInBounds_toArray, List.set_cons_zero, List.set_cons_succ, i64_w, i32_w]
    rfl
  refine take_ (i := 1) (N := some 36) (v := ?_) (a' := ?_) #[true, true, false, false, false, false, false, false, false, false, false, false, false, false, false, false, false, false] rfl rfl (by kernel_rfl) (fun _ _ _ h => h) (Or.inl ⟨by rfl, ?_⟩) hHeld ?_ ?_
  rotate_left
  · intro w' s0
    go_simp
    with_reducible rfl
  rotate_left
  · simp only [Act.put, List.setIfInBounds_toArray, List.set_cons_zero, List.set_cons_succ, i64_w, i32_w]
    rfl
  refine pure_ (i := 2) (N := some 37) (v := ?_) (a' := ?_) #[true, true, true, false, false, false, false, false, false, false, false, false, false, false, false, false, false, false] rfl rfl (by kernel_rfl) (fun _ _ _ h => h) (Or.inl ⟨by rfl, ?_⟩) ?_ ?_
  rotate_left
  · intro w'
    go_simp
    with_reducible rfl
  rotate_left
  · simp only [Act.put, List.setIfInBounds_toArray, List.set_cons_zero, List.set_cons_succ, i64_w, i32_w]
    rfl
  refine pure_ (i := 3) (N := some 38) (v := ?_) (a' := ?_) #[true, true, true, true, false, false, false, false, false, false, false, false, false, false, false, false, false, false] rfl rfl (by kernel_rfl) (fun _ _ _ h => h) (Or.inl ⟨by rfl, ?_⟩) ?_ ?_
  rotate_left
  · intro w'
    go_simp
    with_reducible rfl
  rotate_left
  · simp only [Act.put, List.setIfInBounds_toArray, List.set_cons_zero, List.set_cons_succ, i64_w, i32_w]
    rfl
  refine pure_ (i := 4) (N := some 39) (v := undef) (a' := ?_) #[true, true, true, true, true, false, false, false, false, false, false, false, false, false, false, false, false, false] rfl rfl (by kernel_rfl) (fun _ _ _ h => h) (Or.inr ⟨by rfl, rfl⟩) ?_ ?_
  rotate_left
  · simp only [Act.put, List.setIfInBounds_toArray, List.set_cons_zero, List.set_cons_succ, i64_w, i32_w]
    rfl
  refine pure_ (i := 5) (N := some 40) (v := undef) (a' := ?_) #[true, true, true, true, true, true, false, false, false, false, false, false, false, false, false, false, false, false] rfl rfl (by kernel_rfl) (fun _ _ _ h => h) (Or.inr ⟨by rfl, rfl⟩) ?_ ?_
  rotate_left
  · simp only [Act.put, List.setIfInBounds_toArray, List.set_cons_zero, List.set_cons_succ, i64_w, i32_w]
    rfl
  refine pure_ (i := 6) (N := some 41) (v := undef) (a' := ?_) #[true, true, true, true, true, true, true, false, false, false, false, false, false, false, false, false, false, false] rfl rfl (by kernel_rfl) (fun _ _ _ h => h) (Or.inr ⟨by rfl, rfl⟩) ?_ ?_
  rotate_left
  · simp only [Act.put, List.setIfInBounds_toArray, List.set_cons_zero, List.set_cons_succ, i64_w, i32_w]
    rfl
  refine pure_ (i := 7) (N := some 42) (v := undef) (a' := ?_) #[true, true, true, true, true, true, true, true, false, false, false, false, false, false, false, false, false, false] rfl rfl (by kernel_rfl) (fun _ _ _ h => h) (Or.inr ⟨by rfl, rfl⟩) ?_ ?_
  rotate_left
  · simp only [Act.put, List.setIfInBounds_toArray, List.set_cons_zero, List.set_cons_succ, i64_w, i32_w]
    rfl
  refine pure_ (i := 8) (N := some 43) (v := undef) (a' := ?_) #[true, true, true, true, true, true, true, true, true, false, false, false, false, false, false, false, false, false] rfl rfl (by kernel_rfl) (fun _ _ _ h => h) (Or.inr ⟨by rfl, rfl⟩) ?_ ?_
  rotate_left
  · simp only [Act.put, List.setIfInBounds_toArray, List.set_cons_zero, List.set_cons_succ, i64_w, i32_w]
    rfl
  refine pure_ (i := 9) (N := some 44) (v := undef) (a' := ?_) #[true, true, true, true, true, true, true, true, true, true, false, false, false, false, false, false, false, false] rfl rfl (by kernel_rfl) (fun _ _ _ h => h) (Or.inr ⟨by rfl, rfl⟩) ?_ ?_
  rotate_left
  · simp only [Act.put, List.setIfInBounds_toArray, List.set_cons_zero, List.set_cons_succ, i64_w, i32_w]
    rfl
  refine pure_ (i := 10) (N := some 45) (v := undef) (a' := ?_) #[true, true, true, true, true, true, true, true, true, true, true, false, false, false, false, false, false, false] rfl rfl (by kernel_rfl) (fun _ _ _ h => h) (Or.inr ⟨by rfl, rfl⟩) ?_ ?_
  rotate_left
  · simp only [Act.put, List.setIfInBounds_toArray, List.set_cons_zero, List.set_cons_succ, i64_w, i32_w]
    rfl
  refine pure_ (i := 11) (N := some 46) (v := undef) (a' := ?_) #[true, true, true, true, true, true, true, true, true, true, true, true, false, false, false, false, false, false] rfl rfl (by kernel_rfl) (fun _ _ _ h => h) (Or.inr ⟨by rfl, rfl⟩) ?_ ?_
  rotate_left
  · simp only [Act.put, List.setIfInBounds_toArray, List.set_cons_zero, List.set_cons_succ, i64_w, i32_w]
    rfl
  refine pure_ (i := 12) (N := some 47) (v := undef) (a' := ?_) #[true, true, true, true, true, true, true, true, true, true, true, true, true, false, false, false, false, false] rfl rfl (by kernel_rfl) (fun _ _ _ h => h) (Or.inr ⟨by rfl, rfl⟩) ?_ ?_
  rotate_left
  · simp only [Act.put, List.setIfInBounds_toArray, List.set_cons_zero, List.set_cons_succ, i64_w, i32_w]
    rfl
  refine pure_ (i := 13) (N := some 48) (v := undef) (a' := ?_) #[true, true, true, true, true, true, true, true, true, true, true, true, true, true, false, false, false, false] rfl rfl (by kernel_rfl) (fun _ _ _ h => h) (Or.inr ⟨by rfl, rfl⟩) ?_ ?_
  rotate_left
  · simp only [Act.put, List.setIfInBounds_toArray, List.set_cons_zero, List.set_cons_succ, i64_w, i32_w]
    rfl
  refine pure_ (i := 14) (N := some 49) (v := undef) (a' := ?_) #[true, true, true, true, true, true, true, true, true, true, true, true, true, true, true, false, false, false] rfl rfl (by kernel_rfl) (fun _ _ _ h => h) (Or.inr ⟨by rfl, rfl⟩) ?_ ?_
  rotate_left
  · simp only [Act.put, List.setIfInBounds_toArray, List.set_cons_zero, List.set_cons_succ, i64_w, i32_w]
    rfl
  refine pure_ (i := 15) (N := some 50) (v := undef) (a' := ?_) #[true, true, true, true, true, true, true, true, true, true, true, true, true, true, true, true, false, false] rfl rfl (by kernel_rfl) (fun _ _ _ h => h) (Or.inr ⟨by rfl, rfl⟩) ?_ ?_
  rotate_left
  · simp only [Act.put, List.setIfInBounds_toArray, List.set_cons_zero, List.set_cons_succ, i64_w, i32_w]
    rfl
  refine pure_ (i := 16) (N := some 51) (v := ?_) (a' := ?_) #[true, true, true, true, true, true, true, true, true, true, true, true, true, true, true, true, true, false] rfl rfl (by kernel_rfl) (fun _ _ _ h => h) (Or.inl ⟨by rfl, ?_⟩) ?_ ?_
  rotate_left
  · intro w'
    go_simp
    with_reducible rfl
  rotate_left
  · simp only [Act.put, List.setIfInBounds_toArray, List.set_cons_zero, List.set_cons_succ, i64_w, i32_w]
    rfl
  refine one_ (i := 17) (N := some 52) #[true, true, true, true, true, true, true, true, true, true, true, true, true, true, true, true, true, true] rfl rfl (by kernel_rfl) (by decide) (fun K hK => ?_)
  refine goes_ Tryd.func19 (by kernel_rfl) rfl #[.bool true] (by rfl) rfl rfl (by simp only [List.map_toArray, List.map_cons, List.map_nil]; rfl) ?_
  with_reducible refine (must_yes _).mono ?_
  rintro e w3 ⟨rfl, rfl⟩
  refine ⟨_, rfl, ?_⟩
  refine hK.out _ _ (hHeld) (fun hHeld => ?_)
  clear hK K
  refine norm_ (a' := ?_) ?_ ?_
  rotate_left
  · show Act.put _ (some 52) _ = _
    simp only [Act.put, List.setIfInBounds_toArray, List.set_cons_zero, List.set_cons_succ, i64_w, i32_w]
    rfl
  refine done_ (by kernel_rfl) ?_
  clear t1 l_B q_B_0 q_B_1 q_B_2 q_B_3 q_B_4 q_B_5 q_B_6 q_B_7 q_B_8 q_B_9
  clear hHeld
  go_wp2_with fail
  obtain ⟨k, hk⟩ : ∃ k, nx + d = k := ⟨_, rfl⟩
  obtain ⟨j, hj⟩ : ∃ j, k + p = j + 1 := ⟨k + p - 1, by omega⟩
  have hjl : j < s.length := by have := (objM_in hob).2; omega
  have ej : nx + d + p - 1 = j := by omega
  rw [ej] at hw2
  clear ej
  have hwc := wd_cell HE.out CK.out.below hjl
  generalize wd s j = x at hwc hw2
  have hj0 : (0 : Int) ≤ (j : Int) := Int.natCast_nonneg _
  have hj1 : (j : Int) < (s.length : Int) := by omega
  have t1 : ((p : Int) == 0) = false := beq_eq_false_iff_ne.2 (by omega)
  have t2 : (x != 0) = true := bne_iff_ne.2 hw2
  have HJ := Lib.hid hj
  have HKK := Lib.hid hk
  clear hj hk
  obtain ⟨y1_, y2_⟩ := sum_wraps HKK.out (by have := HLEN.out; have := HJ.out; omega)
  obtain ⟨x1_, x2_, x3_, x4_, x5_, x6_⟩ := idx_wraps HJ.out (by have := HLEN.out; omega)
  have l_B : w.heap.size < w3.heap.size := blk_lt B.out
  have q_B_0 : w3.cell? ⟨w.heap.size, 0, none⟩ = some (.int .i64 0) := (blk_cell B.out 0).trans rfl
  have q_B_1 : w3.cell? ⟨w.heap.size, 1, none⟩ = some (.int .i64 off) := (blk_cell B.out 1).trans rfl
  have q_B_2 : w3.cell? ⟨w.heap.size, 2, none⟩ = some (.int .i64 d) := (blk_cell B.out 2).trans rfl
  have q_B_3 : w3.cell? ⟨w.heap.size, 3, none⟩ = some (.int .i64 p) := (blk_cell B.out 3).trans rfl
  have q_B_4 : w3.cell? ⟨w.heap.size, 4, none⟩ = some (.int .i64 0) := (blk_cell B.out 4).trans rfl
  have q_B_5 : w3.cell? ⟨w.heap.size, 5, none⟩ = some (.int .i64 0) := (blk_cell B.out 5).trans rfl
  have q_B_6 : w3.cell? ⟨w.heap.size, 6, none⟩ = some (.bool false) := (blk_cell B.out 6).trans rfl
  have q_B_7 : w3.cell? ⟨w.heap.size, 7, none⟩ = some (.int .i64 0) := (blk_cell B.out 7).trans rfl
  have q_B_8 : w3.cell? ⟨w.heap.size, 8, none⟩ = some (.int .u32 0) := (blk_cell B.out 8).trans rfl
  have q_B_9 : w3.cell? ⟨w.heap.size, 9, none⟩ = some (.int .u32 0) := (blk_cell B.out 9).trans rfl
  have l_K : g < w3.heap.size := blk_lt CK.out.blk
  have q_K_0 : w3.cell? ⟨g, 0, none⟩ = some (.slice (some ⟨sb, so, none⟩) s.length cp) := (blk_cell CK.out.blk 0).trans rfl
  refine start_ (n := 21) (S := fun w' => w'.cell? ⟨w.heap.size, 2, none⟩ = some (.int .i64 (d : Int)) ∧ w'.cell? ⟨w.heap.size, 3, none⟩ = some (.int .i64 (p : Int)) ∧ w'.cell? ⟨g, 0, none⟩ = some (.slice (some ⟨sb, so, none⟩) s.length cp) ∧ w'.cell? ⟨sb, so + j, none⟩ = some (.int .u64 x)) (ds := []) #[false, false, false, false, false, false, false, false, false, false, false, false, false, false, false, false, false, false, false, false, false] (by kernel_rfl) rfl rfl ⟨q_B_2, q_B_3, q_K_0, hwc⟩ (fun hHeld => ?_)
  obtain ⟨w4, hwd⟩ : ∃ W, W = w3.drew := ⟨_, rfl⟩
  rw [← hwd] at hHeld ⊢
  have hb : Below w3.heap.size w3 w4 := by rw [hwd]; exact (Below.refl _ _).drew
  clear hwd
  replace GK := Lib.hid (GK.out.then hb)
  replace CK := Lib.hid (CK.out.then hb)
  replace B := Lib.hid (blk_below B.out hb)
  clear hb
  refine pure_ (i := 0) (N := some 53) (v := ?_) (a' := ?_) #[true, false, false, false, false, false, false, false, false, false, false, false, false, false, false, false, false, false, false, false, false] rfl rfl (by kernel_rfl) (fun _ _ _ h => h) (Or.inl ⟨by rfl, ?_⟩) ?_ ?_
  rotate_left
  · intro w'
    go_simp
    with_reducible rfl
  rotate_left
  · simp only [Act.put, List.setIfInBounds_toArray, List.set_cons_zero, List.set_cons_succ, i64_w, i32_w]
    rfl
  refine take_ (i := 1) (N := some 54) (v := ?_) (a' := ?_) #[true, true, false, false, false, false, false, false, false, false, false, false, false, false, false, false, false, false, false, false, false] rfl rfl (by kernel_rfl) (fun _ _ _ h => h) (Or.inl ⟨by rfl, ?_⟩) hHeld ?_ ?_
  rotate_left
  · rintro w' ⟨s0, s1, s2, s3⟩
    go_simp
    with_reducible rfl
  rotate_left
  · simp only [Act.put, List.setIfInBounds_toArray, List.set_cons_zero, List.set_cons_succ, i64_w, i32_w]
    rfl
  refine pure_ (i := 2) (N := some 55) (v := ?_) (a' := ?_) #[true, true, true, false, false, false, false, false, false, false, false, false, false, false, false, false, false, false, false, false, false] rfl rfl (by kernel_rfl) (fun _ _ _ h => h) (Or.inl ⟨by rfl, ?_⟩) ?_ ?_
  rotate_left
  · intro w'
    go_simp
    with_reducible rfl
  rotate_left
  · simp only [Act.put, List.setIfInBounds_toArray, List.set_cons_zero, List.set_cons_succ, i64_w, i32_w]
    rfl
  refine pure_ (i := 3) (N := some 56) (v := ?_) (a' := ?_) #[true, true, true, true, false, false, false, false, false, false, false, false, false, false, false, false, false, false, false, false, false] rfl rfl (by kernel_rfl) (fun _ _ _ h => h) (Or.inl ⟨by rfl, ?_⟩) ?_ ?_
  rotate_left
  · intro w'
    go_simp
    with_reducible rfl
  rotate_left
  · simp only [Act.put, List.setIfInBounds_toArray, List.set_cons_zero, List.set_cons_succ, i64_w, i32_w]
    rfl
  refine pure_ (i := 4) (N := some 57) (v := ?_) (a' := ?_) #[true, true, true, true, true, false, false, false, false, false, false, false, false, false, false, false, false, false, false, false, false] rfl rfl (by kernel_rfl) (fun _ _ _ h => h) (Or.inl ⟨by rfl, ?_⟩) ?_ ?_
  rotate_left
  · intro w'
    go_simp
    with_reducible rfl
  rotate_left
  · simp only [Act.put, List.setIfInBounds_toArray, List.set_cons_zero, List.set_cons_succ, i64_w, i32_w]
    rfl
  refine pure_ (i := 5) (N := some 58) (v := ?_) (a' := ?_) #[true, true, true, true, true, true, false, false, false, false, false, false, false, false, false, false, false, false, false, false, false] rfl rfl (by kernel_rfl) (fun _ _ _ h => h) (Or.inl ⟨by rfl, ?_⟩) ?_ ?_
  rotate_left
  · intro w'
    go_simp
    with_reducible rfl
  rotate_left
  · simp only [Act.put, List.setIfInBounds_toArray, List.set_cons_zero, List.set_cons_succ, i64_w, i32_w]
    rfl
  refine pure_ (i := 6) (N := some 59) (v := ?_) (a' := ?_) #[true, true, true, true, true, true, true, false, false, false, false, false, false, false, false, false, false, false, false, false, false] rfl rfl (by kernel_rfl) (fun _ _ _ h => h) (Or.inl ⟨by rfl, ?_⟩) ?_ ?_
  rotate_left
  · intro w'
    go_simp
    with_reducible rfl
  rotate_left
  · simp only [Act.put, List.setIfInBounds_toArray, List.set_cons_zero, List.set_cons_succ, i64_w, i32_w]
    rfl
  refine pure_ (i := 8) (N := some 61) (v := ?_) (a' := ?_) #[true, true, true, true, true, true, true, false, true, false, false, false, false, false, false, false, false, false, false, false, false] rfl rfl (by kernel_rfl) (fun _ _ _ h => h) (Or.inl ⟨by rfl, ?_⟩) ?_ ?_
  rotate_left
  · intro w'
    go_simp
    with_reducible rfl
  rotate_left
  · simp only [Act.put, List.setIfInBounds_toArray, List.set_cons_zero, List.set_cons_succ, i64_w, i32_w]
    rfl
  refine pure_ (i := 9) (N := some 62) (v := ?_) (a' := ?_) #[true, true, true, true, true, true, true, false, true, true, false, false, false, false, false, false, false, false, false, false, false] rfl rfl (by kernel_rfl) (fun _ _ _ h => h) (Or.inl ⟨by rfl, ?_⟩) ?_ ?_
  rotate_left
  · intro w'
    go_simp
    with_reducible rfl
  rotate_left
  · simp only [Act.put, List.setIfInBounds_toArray, List.set_cons_zero, List.set_cons_succ, i64_w, i32_w]
    rfl
  refine pure_ (i := 12) (N := some 65) (v := ?_) (a' := ?_) #[true, true, true, true, true, true, true, false, true, true, false, false, true, false, false, false, false, false, false, false, false] rfl rfl (by kernel_rfl) (fun _ _ _ h => h) (Or.inl ⟨by rfl, ?_⟩) ?_ ?_
  rotate_left
  · intro w'
    go_simp
    with_reducible rfl
  rotate_left
  · simp only [Act.put, List.setIfInBounds_toArray, List.set_cons_zero, List.set_cons_succ, i64_w, i32_w]
    rfl
  refine take_ (i := 7) (N := some 60) (v := ?_) (a' := ?_) #[true, true, true, true, true, true, true, true, true, true, false, false, true, false, false, false, false, false, false, false, false] rfl rfl (by kernel_rfl) (fun _ _ _ h => h) (Or.inl ⟨by rfl, ?_⟩) hHeld ?_ ?_
  rotate_left
  · rintro w' ⟨s0, s1, s2, s3⟩
    go_simp
    with_reducible rfl
  rotate_left
  · simp only [Act.put, List.setIfInBounds_toArray, List.set_cons_zero, List.set_cons_succ, i64_w, i32_w]
    rfl
  refine take_ (i := 10) (N := some 63) (v := ?_) (a' := ?_) #[true, true, true, true, true, true, true, true, true, true, true, false, true, false, false, false, false, false, false, false, false] rfl rfl (by kernel_rfl) (fun _ _ _ h => h) (Or.inl ⟨by rfl, ?_⟩) hHeld ?_ ?_
  rotate_left
  · rintro w' ⟨s0, s1, s2, s3⟩
    go_simp
    with_reducible rfl
  rotate_left
  · simp only [Act.put, List.setIfInBounds_toArray, List.set_cons_zero, List.set_cons_succ, i64_w, i32_w]
    rfl
  refine pure_ (i := 11) (N := some 64) (v := ?_) (a' := ?_) #[true, true, true, true, true, true, true, true, true, true, true, true, true, false, false, false, false, false, false, false, false] rfl rfl (by kernel_rfl) (fun _ _ _ h => h) (Or.inl ⟨by rfl, ?_⟩) ?_ ?_
  rotate_left
  · intro w'
    go_simp
    with_reducible rfl
  rotate_left
  · simp only [Act.put, List.setIfInBounds_toArray, List.set_cons_zero, List.set_cons_succ, i64_w, i32_w]
    rfl
  refine take_ (i := 13) (N := some 66) (v := ?_) (a' := ?_) #[true, true, true, true, true, true, true, true, true, true, true, true, true, true, false, false, false, false, false, false, false] rfl rfl (by kernel_rfl) (fun _ _ _ h => h) (Or.inl ⟨by rfl, ?_⟩) hHeld ?_ ?_
  rotate_left
  · rintro w' ⟨s0, s1, s2, s3⟩
    go_simp
    with_reducible rfl
  rotate_left
  · simp only [Act.put, List.setIfInBounds_toArray, List.set_cons_zero, List.set_cons_succ, i64_w, i32_w]
    rfl
  refine pure_ (i := 14) (N := some 67) (v := ?_) (a' := ?_) #[true, true, true, true, true, true, true, true, true, true, true, true, true, true, true, false, false, false, false, false, false] rfl rfl (by kernel_rfl) (fun _ _ _ h => h) (Or.inl ⟨by rfl, ?_⟩) ?_ ?_
  rotate_left
  · intro w'
    go_simp
    with_reducible rfl
  rotate_left
  · simp only [Act.put, List.setIfInBounds_toArray, List.set_cons_zero, List.set_cons_succ, i64_w, i32_w]
    rfl
  refine pure_ (i := 15) (N := some 68) (v := ?_) (a' := ?_) #[true, true, true, true, true, true, true, true, true, true, true, true, true, true, true, true, false, false, false, false, false] rfl rfl (by kernel_rfl) (fun _ _ _ h => h) (Or.inl ⟨by rfl, ?_⟩) ?_ ?_
  rotate_left
  · intro w'
    go_simp
    with_reducible rfl
  rotate_left
  · simp only [Act.put, List.setIfInBounds_toArray, List.set_cons_zero, List.set_cons_succ, i64_w, i32_w]
    rfl
  refine pure_ (i := 16) (N := some 69) (v := ?_) (a' := ?_) #[true, true, true, true, true, true, true, true, true, true, true, true, true, true, true, true, true, false, false, false, false] rfl rfl (by kernel_rfl) (fun _ _ _ h => h) (Or.inl ⟨by rfl, ?_⟩) ?_ ?_
  rotate_left
  · intro w'
    go_simp
    with_reducible rfl
  rotate_left
  · simp only [Act.put, List.setIfInBounds_toArray, List.set_cons_zero, List.set_cons_succ, i64_w, i32_w]
    rfl
  refine take_ (i := 17) (N := some 70) (v := ?_) (a' := ?_) #[true, true, true, true, true, true, true, true, true, true, true, true, true, true, true, true, true, true, false, false, false] rfl rfl (by kernel_rfl) (fun _ _ _ h => h) (Or.inl ⟨by rfl, ?_⟩) hHeld ?_ ?_
  rotate_left
  · rintro w' ⟨s0, s1, s2, s3⟩
    go_simp
    with_reducible rfl
  rotate_left
  · simp only [Act.put, List.setIfInBounds_toArray, List.set_cons_zero, List.set_cons_succ, i64_w, i32_w]
    rfl
  refine pure_ (i := 18) (N := some 71) (v := ?_) (a' := ?_) #[true, true, true, true, true, true, true, true, true, true, true, true, true, true, true, true, true, true, true, false, false] rfl rfl (by kernel_rfl) (fun _ _ _ h => h) (Or.inl ⟨by rfl, ?_⟩) ?_ ?_
  rotate_left
  · intro w'
    go_simp
    with_reducible rfl
  rotate_left
  · simp only [Act.put, List.setIfInBounds_toArray, List.set_cons_zero, List.set_cons_succ, i64_w, i32_w]
    rfl
  refine pure_ (i := 19) (N := some 72) (v := ?_) (a' := ?_) #[true, true, true, true, true, true, true, true, true, true, true, true, true, true, true, true, true, true, true, true, false] rfl rfl (by kernel_rfl) (fun _ _ _ h => h) (Or.inl ⟨by rfl, ?_⟩) ?_ ?_
  rotate_left
  · intro w'
    go_simp
    with_reducible rfl
  rotate_left
  · simp only [Act.put, List.setIfInBounds_toArray, List.set_cons_zero, List.set_cons_succ, i64_w, i32_w]
    rfl
  refine one_ (i := 20) (N := some 73) #[true, true, true, true, true, true, true, true, true, true, true, true, true, true, true, true, true, true, true, true, true] rfl rfl (by kernel_rfl) (by decide) (fun K hK => ?_)
  refine goes_ Tryd.func19 (by kernel_rfl) rfl #[.bool true] (by rfl) rfl rfl (by simp only [List.map_toArray, List.map_cons, List.map_nil]; rfl) ?_
  with_reducible refine (must_yes _).mono ?_
  rintro e w3 ⟨rfl, rfl⟩
  refine ⟨_, rfl, ?_⟩
  refine hK.out _ _ ⟨hHeld.1, hHeld.2.1, hHeld.2.2.1, hHeld.2.2.2⟩ (fun hHeld => ?_)
  clear hK K
  refine norm_ (a' := ?_) ?_ ?_
  rotate_left
  · show Act.put _ (some 73) _ = _
    simp only [Act.put, List.setIfInBounds_toArray, List.set_cons_zero, List.set_cons_succ, i64_w, i32_w]
    rfl
  refine done_ (by kernel_rfl) ?_
  clear hwc hj0 hj1 t1 t2 y1_ y2_ x1_ x2_ x3_ x4_ x5_ x6_ l_B q_B_0 q_B_1 q_B_2 q_B_3 q_B_4 q_B_5 q_B_6 q_B_7 q_B_8 q_B_9 l_K q_K_0
  clear hHeld
  have l_B : w.heap.size < w4.heap.size := blk_lt B.out
  have q_B_0 : w4.cell? ⟨w.heap.size, 0, none⟩ = some (.int .i64 0) := (blk_cell B.out 0).trans rfl
  have q_B_1 : w4.cell? ⟨w.heap.size, 1, none⟩ = some (.int .i64 off) := (blk_cell B.out 1).trans rfl
  have q_B_2 : w4.cell? ⟨w.heap.size, 2, none⟩ = some (.int .i64 d) := (blk_cell B.out 2).trans rfl
  have q_B_3 : w4.cell? ⟨w.heap.size, 3, none⟩ = some (.int .i64 p) := (blk_cell B.out 3).trans rfl
  have q_B_4 : w4.cell? ⟨w.heap.size, 4, none⟩ = some (.int .i64 0) := (blk_cell B.out 4).trans rfl
  have q_B_5 : w4.cell? ⟨w.heap.size, 5, none⟩ = some (.int .i64 0) := (blk_cell B.out 5).trans rfl
  have q_B_6 : w4.cell? ⟨w.heap.size, 6, none⟩ = some (.bool false) := (blk_cell B.out 6).trans rfl
  have q_B_7 : w4.cell? ⟨w.heap.size, 7, none⟩ = some (.int .i64 0) := (blk_cell B.out 7).trans rfl
  have q_B_8 : w4.cell? ⟨w.heap.size, 8, none⟩ = some (.int .u32 0) := (blk_cell B.out 8).trans rfl
  have q_B_9 : w4.cell? ⟨w.heap.size, 9, none⟩ = some (.int .u32 0) := (blk_cell B.out 9).trans rfl
  go_wp2_with fail
  clear l_B q_B_0 q_B_1 q_B_2 q_B_3 q_B_4 q_B_5 q_B_6 q_B_7 q_B_8 q_B_9
  have e0 : ((nx : Int) + (d : Int)) = ((nx + d : Nat) : Int) := by omega
  rw [e0]
  clear e0
  refine (pointers_any HE.out CK.out HI.out hd0_ hd1_ HV.out (by have := (objM_in hob).2; omega) (objM_in hob).2 (by omega)).mono ?_
  rintro e w5 (⟨q, hq, rfl, hg, hc⟩ | ⟨hq, rfl, hg⟩)
  · have hg' := GK.out.trans hg
    have HQ := Lib.hid hq
    clear hq hg
    go_wp2
    go_end0
    exact .inl ⟨q, HQ.out, rfl, hg', hc⟩
  · have hg' := GK.out.trans hg
    have HQ := Lib.hid hq
    clear hq hg
    go_wp2
    exact ⟨rfl, .inr ⟨HQ.out, rfl, hg'⟩⟩
set_option maxHeartbeats 4000000 in
theorem struct_5nz {W0 w : World} {s : List Int} {cp g nx m : Nat} {D Wd O : Int} {sb so at_ d p : Nat} {off depth : Int} (hE : Env W0 s (some ⟨sb, so, none⟩)) (hK : Ck W0 s (some ⟨sb, so, none⟩) cp D Wd O g nx m w) (ha : at_ ≤ 17592186040320) (ho0 : -536870912 ≤ off) (ho1 : off ≤ 536870911) (hd : d ≤ 65535) (hp : p ≤ 65535) (hx : nx ≤ s.length) (hm : m ≤ 4611686018427387904) (hcp : s.length ≤ cp) {v : Nat → Nat → Nat → Option (Nat × Nat)} (hv : InM s v) (hd0_ : 0 ≤ depth) (hd1_ : depth ≤ 1000000) (hV : VisC W0 s (some ⟨sb, so, none⟩) cp D Wd O g v (depth + 1)) (hdp : ¬ d + p = 0) (hob : objM s at_ off (d + p) nx = true) (hch : d + p ≤ m) (hdz : ¬ d = 0) (hw1 : ¬ wd s (nx + d - 1) = 0) (hpz : p = 0)  :
    Calls Tryd.prog 33 #[.pointer (some ⟨g, 0, none⟩), .int .i64 at_, .int .i64 depth, .agg #[.int .i64 0, .int .i64 off, .int .i64 d, .int .i64 p, .int .i64 0, .int .i64 0, .bool false, .int .i64 0, .int .u32 0, .int .u32 0]] w fun e w' => EndM W0 s (some ⟨sb, so, none⟩) cp D Wd O g w (ptrsM v p (nx + d) (nx + (d + p)) (m - (d + p))) e w' := by
  have HLEN := Lib.hid hE.len
  have hlen := hE.len
  have t0 : ((d : Int) + (p : Int) == 0) = false := beq_eq_false_iff_ne.2 (by omega)
  have HI := Lib.hid hv
  have HV := Lib.hid hV
  clear hv hV
  have H_hpz := Lib.hid hpz
  clear hpz
  have GK := Lib.hid (Gr.refl g w)
  have CK := Lib.hid hK
  have HE := Lib.hid hE
  clear hE hK
  go_enter Tryd.func33, Tryd.ntmps33
  go_wp2_with fail
  have lg : g < w.heap.size := blk_lt CK.out.blk
  refine calls_at (fun wa hW => ?_)
  have hb : Below w.heap.size w wa := by rw [hW]; exact (Below.refl _ _).alloc (Nat.le_refl _) _
  have nB : wa.heap[w.heap.size]? = some (.cells #[.int .i64 0, .int .i64 off, .int .i64 d, .int .i64 p, .int .i64 0, .int .i64 0, .bool false, .int .i64 0, .int .u32 0, .int .u32 0] 67 (0, 0)) := by rw [hW]; exact heap_alloc_new _ _
  have neB : w.heap.size ≠ g := by omega
  clear hW lg
  replace GK := Lib.hid (GK.out.then hb)
  replace CK := Lib.hid (CK.out.then hb)
  clear hb
  have B := Lib.hid nB
  clear nB
  have e0 : ((d : Int) + (p : Int)) = ((d + p : Nat) : Int) := by omega
  rw [e0]
  clear e0
  refine (object_yes HE.out CK.out ha ⟨ho0, ho1⟩ (by omega) hx hcp hob).mono ?_
  rintro e w1 ⟨rfl, hg, hc⟩
  have gB : Hid (Gr g wa w1) := Lib.hid hg
  replace B := Lib.hid (gB.out.blk B.out neB)
  replace GK := Lib.hid (GK.out.trans gB.out)
  clear gB
  clear CK
  have CK := Lib.hid hc
  clear hg hc
  have l_B : w.heap.size < w1.heap.size := blk_lt B.out
  have q_B_0 : w1.cell? ⟨w.heap.size, 0, none⟩ = some (.int .i64 0) := (blk_cell B.out 0).trans rfl
  have q_B_1 : w1.cell? ⟨w.heap.size, 1, none⟩ = some (.int .i64 off) := (blk_cell B.out 1).trans rfl
  have q_B_2 : w1.cell? ⟨w.heap.size, 2, none⟩ = some (.int .i64 d) := (blk_cell B.out 2).trans rfl
  have q_B_3 : w1.cell? ⟨w.heap.size, 3, none⟩ = some (.int .i64 p) := (blk_cell B.out 3).trans rfl
  have q_B_4 : w1.cell? ⟨w.heap.size, 4, none⟩ = some (.int .i64 0) := (blk_cell B.out 4).trans rfl
  have q_B_5 : w1.cell? ⟨w.heap.size, 5, none⟩ = some (.int .i64 0) := (blk_cell B.out 5).trans rfl
  have q_B_6 : w1.cell? ⟨w.heap.size, 6, none⟩ = some (.bool false) := (blk_cell B.out 6).trans rfl
  have q_B_7 : w1.cell? ⟨w.heap.size, 7, none⟩ = some (.int .i64 0) := (blk_cell B.out 7).trans rfl
  have q_B_8 : w1.cell? ⟨w.heap.size, 8, none⟩ = some (.int .u32 0) := (blk_cell B.out 8).trans rfl
  have q_B_9 : w1.cell? ⟨w.heap.size, 9, none⟩ = some (.int .u32 0) := (blk_cell B.out 9).trans rfl
  go_wp2_with fail
  clear l_B q_B_0 q_B_1 q_B_2 q_B_3 q_B_4 q_B_5 q_B_6 q_B_7 q_B_8 q_B_9
  have e0 : ((d : Int) + (p : Int)) = ((d + p : Nat) : Int) := by omega
  rw [e0]
  clear e0
  refine (charge_ok HE.out CK.out hch (by omega) (by omega)).mono ?_
  rintro e w2 (⟨q, hq, rfl, hg, hc⟩ | ⟨hq, _⟩)
  rotate_left
  · cases hq
  cases hq
  have gB : Hid (Gr g w1 w2) := Lib.hid hg
  replace B := Lib.hid (gB.out.blk B.out neB)
  replace GK := Lib.hid (GK.out.trans gB.out)
  clear gB
  clear CK
  have CK := Lib.hid hc
  clear hg hc
  have l_B : w.heap.size < w2.heap.size := blk_lt B.out
  have q_B_0 : w2.cell? ⟨w.heap.size, 0, none⟩ = some (.int .i64 0) := (blk_cell B.out 0).trans rfl
  have q_B_1 : w2.cell? ⟨w.heap.size, 1, none⟩ = some (.int .i64 off) := (blk_cell B.out 1).trans rfl
  have q_B_2 : w2.cell? ⟨w.heap.size, 2, none⟩ = some (.int .i64 d) := (blk_cell B.out 2).trans rfl
  have q_B_3 : w2.cell? ⟨w.heap.size, 3, none⟩ = some (.int .i64 p) := (blk_cell B.out 3).trans rfl
  have q_B_4 : w2.cell? ⟨w.heap.size, 4, none⟩ = some (.int .i64 0) := (blk_cell B.out 4).trans rfl
  have q_B_5 : w2.cell? ⟨w.heap.size, 5, none⟩ = some (.int .i64 0) := (blk_cell B.out 5).trans rfl
  have q_B_6 : w2.cell? ⟨w.heap.size, 6, none⟩ = some (.bool false) := (blk_cell B.out 6).trans rfl
  have q_B_7 : w2.cell? ⟨w.heap.size, 7, none⟩ = some (.int .i64 0) := (blk_cell B.out 7).trans rfl
  have q_B_8 : w2.cell? ⟨w.heap.size, 8, none⟩ = some (.int .u32 0) := (blk_cell B.out 8).trans rfl
  have q_B_9 : w2.cell? ⟨w.heap.size, 9, none⟩ = some (.int .u32 0) := (blk_cell B.out 9).trans rfl
  go_wp2_with fail
  clear l_B q_B_0 q_B_1 q_B_2 q_B_3 q_B_4 q_B_5 q_B_6 q_B_7 q_B_8 q_B_9
  obtain ⟨j, hj⟩ : ∃ j, nx + d = j + 1 := ⟨nx + d - 1, by omega⟩
  have hjl : j < s.length := by have := (objM_in hob).2; omega
  have ej : nx + d - 1 = j := by omega
  rw [ej] at hw1
  clear ej
  have hwc := wd_cell HE.out CK.out.below hjl
  generalize wd s j = x at hwc hw1
  have hj0 : (0 : Int) ≤ (j : Int) := Int.natCast_nonneg _
  have hj1 : (j : Int) < (s.length : Int) := by omega
  have t1 : ((d : Int) == 0) = false := beq_eq_false_iff_ne.2 (by omega)
  have t2 : (x != 0) = true := bne_iff_ne.2 hw1
  have HJ := Lib.hid hj
  clear hj
  obtain ⟨x1_, x2_, x3_, x4_, x5_, x6_⟩ := idx_wraps HJ.out (by have := HLEN.out; omega)
  have l_B : w.heap.size < w2.heap.size := blk_lt B.out
  have q_B_0 : w2.cell? ⟨w.heap.size, 0, none⟩ = some (.int .i64 0) := (blk_cell B.out 0).trans rfl
  have q_B_1 : w2.cell? ⟨w.heap.size, 1, none⟩ = some (.int .i64 off) := (blk_cell B.out 1).trans rfl
  have q_B_2 : w2.cell? ⟨w.heap.size, 2, none⟩ = some (.int .i64 d) := (blk_cell B.out 2).trans rfl
  have q_B_3 : w2.cell? ⟨w.heap.size, 3, none⟩ = some (.int .i64 p) := (blk_cell B.out 3).trans rfl
  have q_B_4 : w2.cell? ⟨w.heap.size, 4, none⟩ = some (.int .i64 0) := (blk_cell B.out 4).trans rfl
  have q_B_5 : w2.cell? ⟨w.heap.size, 5, none⟩ = some (.int .i64 0) := (blk_cell B.out 5).trans rfl
  have q_B_6 : w2.cell? ⟨w.heap.size, 6, none⟩ = some (.bool false) := (blk_cell B.out 6).trans rfl
  have q_B_7 : w2.cell? ⟨w.heap.size, 7, none⟩ = some (.int .i64 0) := (blk_cell B.out 7).trans rfl
  have q_B_8 : w2.cell? ⟨w.heap.size, 8, none⟩ = some (.int .u32 0) := (blk_cell B.out 8).trans rfl
  have q_B_9 : w2.cell? ⟨w.heap.size, 9, none⟩ = some (.int .u32 0) := (blk_cell B.out 9).trans rfl
  have l_K : g < w2.heap.size := blk_lt CK.out.blk
  have q_K_0 : w2.cell? ⟨g, 0, none⟩ = some (.slice (some ⟨sb, so, none⟩) s.length cp) := (blk_cell CK.out.blk 0).trans rfl
  refine start_ (n := 18) (S := fun w' => w'.cell? ⟨w.heap.size, 2, none⟩ = some (.int .i64 (d : Int)) ∧ w'.cell? ⟨g, 0, none⟩ = some (.slice (some ⟨sb, so, none⟩) s.length cp) ∧ w'.cell? ⟨sb, so + j, none⟩ = some (.int .u64 x)) (ds := []) #[false, false, false, false, false, false, false, false, false, false, false, false, false, false, false, false, false, false] (by kernel_rfl) rfl rfl ⟨q_B_2, q_K_0, hwc⟩ (fun hHeld => ?_)
  obtain ⟨w3, hwd⟩ : ∃ W, W = w2.drew := ⟨_, rfl⟩
  rw [← hwd] at hHeld ⊢
  have hb : Below w2.heap.size w2 w3 := by rw [hwd]; exact (Below.refl _ _).drew
  clear hwd
  replace GK := Lib.hid (GK.out.then hb)
  replace CK := Lib.hid (CK.out.then hb)
  replace B := Lib.hid (blk_below B.out hb)
  clear hb
  refine pure_ (i := 0) (N := some 35) (v := ?_) (a' := ?_) #[true, false, false, false, false, false, false, false, false, false, false, false, false, false, false, false, false, false] rfl rfl (by kernel_rfl) (fun _ _ _ h => h) (Or.inl ⟨by rfl, ?_⟩) ?_ ?_
  rotate_left
  · intro w'
    go_simp
    with_reducible rfl
  rotate_left
  · simp only [Act.put, List.setIfInBounds_toArray, List.set_cons_zero, List.set_cons_succ, i64_w, i32_w]
    rfl
  refine take_ (i := 1) (N := some 36) (v := ?_) (a' := ?_) #[true, true, false, false, false, false, false, false, false, false, false, false, false, false, false, false, false, false] rfl rfl (by kernel_rfl) (fun _ _ _ h => h) (Or.inl ⟨by rfl, ?_⟩) hHeld ?_ ?_
  rotate_left
  · rintro w' ⟨s0, s1, s2⟩
    go_simp
    with_reducible rfl
  rotate_left
  · simp only [Act.put, List.setIfInBounds_toArray, List.set_cons_zero, List.set_cons_succ, i64_w, i32_w]
    rfl
  refine pure_ (i := 2) (N := some 37) (v := ?_) (a' := ?_) #[true, true, true, false, false, false, false, false, false, false, false, false, false, false, false, false, false, false] rfl rfl (by kernel_rfl) (fun _ _ _ h => h) (Or.inl ⟨by rfl, ?_⟩) ?_ ?_
  rotate_left
  · intro w'
    go_simp
    with_reducible rfl
  rotate_left
  · simp only [Act.put, List.setIfInBounds_toArray, List.set_cons_zero, List.set_cons_succ, i64_w, i32_w]
    rfl
  refine pure_ (i := 3) (N := some 38) (v := ?_) (a' := ?_) #[true, true, true, true, false, false, false, false, false, false, false, false, false, false, false, false, false, false] rfl rfl (by kernel_rfl) (fun _ _ _ h => h) (Or.inl ⟨by rfl, ?_⟩) ?_ ?_
  rotate_left
  · intro w'
    go_simp
    with_reducible rfl
  rotate_left
  · simp only [Act.put, List.setIfInBounds_toArray, List.set_cons_zero, List.set_cons_succ, i64_w, i32_w]
    rfl
  refine pure_ (i := 4) (N := some 39) (v := ?_) (a' := ?_) #[true, true, true, true, true, false, false, false, false, false, false, false, false, false, false, false, false, false] rfl rfl (by kernel_rfl) (fun _ _ _ h => h) (Or.inl ⟨by rfl, ?_⟩) ?_ ?_
  rotate_left
  · intro w'
    go_simp
    with_reducible rfl
  rotate_left
  · simp only [Act.put, List.setIfInBounds_toArray, List.set_cons_zero, List.set_cons_succ, i64_w, i32_w]
    rfl
  refine pure_ (i := 5) (N := some 40) (v := ?_) (a' := ?_) #[true, true, true, true, true, true, false, false, false, false, false, false, false, false, false, false, false, false] rfl rfl (by kernel_rfl) (fun _ _ _ h => h) (Or.inl ⟨by rfl, ?_⟩) ?_ ?_
  rotate_left
  · intro w'
    go_simp
    with_reducible rfl
  rotate_left
  · simp only [Act.put, List.setIfInBounds_toArray, List.set_cons_zero, List.set_cons_succ, i64_w, i32_w]
    rfl
  refine pure_ (i := 6) (N := some 41) (v := ?_) (a' := ?_) #[true, true, true, true, true, true, true, false, false, false, false, false, false, false, false, false, false, false] rfl rfl (by kernel_rfl) (fun _ _ _ h => h) (Or.inl ⟨by rfl, ?_⟩) ?_ ?_
  rotate_left
  · intro w'
    go_simp
    with_reducible rfl
  rotate_left
  · simp only [Act.put, List.setIfInBounds_toArray, List.set_cons_zero, List.set_cons_succ, i64_w, i32_w]
    rfl
  refine pure_ (i := 8) (N := some 43) (v := ?_) (a' := ?_) #[true, true, true, true, true, true, true, false, true, false, false, false, false, false, false, false, false, false] rfl rfl (by kernel_rfl) (fun _ _ _ h => h) (Or.inl ⟨by rfl, ?_⟩) ?_ ?_
  rotate_left
  · intro w'
    go_simp
    with_reducible rfl
  rotate_left
  · simp only [Act.put, List.setIfInBounds_toArray, List.set_cons_zero, List.set_cons_succ, i64_w, i32_w]
    rfl
  refine pure_ (i := 9) (N := some 44) (v := ?_) (a' := ?_) #[true, true, true, true, true, true, true, false, true, true, false, false, false, false, false, false, false, false] rfl rfl (by kernel_rfl) (fun _ _ _ h => h) (Or.inl ⟨by rfl, ?_⟩) ?_ ?_
  rotate_left
  · intro w'
    go_simp
    with_reducible rfl
  rotate_left
  · simp only [Act.put, List.setIfInBounds_toArray, List.set_cons_zero, List.set_cons_succ, i64_w, i32_w]
    rfl
  refine take_ (i := 7) (N := some 42) (v := ?_) (a' := ?_) #[true, true, true, true, true, true, true, true, true, true, false, false, false, false, false, false, false, false] rfl rfl (by kernel_rfl) (fun _ _ _ h => h) (Or.inl ⟨by rfl, ?_⟩) hHeld ?_ ?_
  rotate_left
  · rintro w' ⟨s0, s1, s2⟩
    go_simp
    with_reducible rfl
  rotate_left
  · simp only [Act.put, List.setIfInBounds_toArray, List.set_cons_zero, List.set_cons_succ, i64_w, i32_w]
    rfl
  refine take_ (i := 10) (N := some 45) (v := ?_) (a' := ?_) #[true, true, true, true, true, true, true, true, true, true, true, false, false, false, false, false, false, false] rfl rfl (by kernel_rfl) (fun _ _ _ h => h) (Or.inl ⟨by rfl, ?_⟩) hHeld ?_ ?_
  rotate_left
  · rintro w' ⟨s0, s1, s2⟩
    go_simp
    with_reducible rfl
  rotate_left
  · simp only [Act.put, List.setIfInBounds_toArray, List.set_cons_zero, List.set_cons_succ, i64_w, i32_w]
    rfl
  refine pure_ (i := 11) (N := some 46) (v := ?_) (a' := ?_) #[true, true, true, true, true, true, true, true, true, true, true, true, false, false, false, false, false, false] rfl rfl (by kernel_rfl) (fun _ _ _ h => h) (Or.inl ⟨by rfl, ?_⟩) ?_ ?_
  rotate_left
  · intro w'
    go_simp
    with_reducible rfl
  rotate_left
  · simp only [Act.put, List.setIfInBounds_toArray, List.set_cons_zero, List.set_cons_succ, i64_w, i32_w]
    rfl
  refine pure_ (i := 12) (N := some 47) (v := ?_) (a' := ?_) #[true, true, true, true, true, true, true, true, true, true, true, true, true, false, false, false, false, false] rfl rfl (by kernel_rfl) (fun _ _ _ h => h) (Or.inl ⟨by rfl, ?_⟩) ?_ ?_
  rotate_left
  · intro w'
    go_simp
    with_reducible rfl
  rotate_left
  · simp only [Act.put, List.setIfInBounds_toArray, List.set_cons_zero, List.set_cons_succ, i64_w, i32_w]
    rfl
  refine pure_ (i := 13) (N := some 48) (v := ?_) (a' := ?_) #[true, true, true, true, true, true, true, true, true, true, true, true, true, true, false, false, false, false] rfl rfl (by kernel_rfl) (fun _ _ _ h => h) (Or.inl ⟨by rfl, ?_⟩) ?_ ?_
  rotate_left
  · intro w'
    go_simp
    with_reducible rfl
  rotate_left
  · simp only [Act.put, List.setIfInBounds_toArray, List.set_cons_zero, List.set_cons_succ, i64_w, i32_w]
    rfl
  refine take_ (i := 14) (N := some 49) (v := ?_) (a' := ?_) #[true, true, true, true, true, true, true, true, true, true, true, true, true, true, true, false, false, false] rfl rfl (by kernel_rfl) (fun _ _ _ h => h) (Or.inl ⟨by rfl, ?_⟩) hHeld ?_ ?_
  rotate_left
  · rintro w' ⟨s0, s1, s2⟩
    go_simp
    with_reducible rfl
  rotate_left
  · simp only [Act.put, List.setIfInBounds_toArray, List.set_cons_zero, List.set_cons_succ, i64_w, i32_w]
    rfl
  refine pure_ (i := 15) (N := some 50) (v := ?_) (a' := ?_) #[true, true, true, true, true, true, true, true, true, true, true, true, true, true, true, true, false, false] rfl rfl (by kernel_rfl) (fun _ _ _ h => h) (Or.inl ⟨by rfl, ?_⟩) ?_ ?_
  rotate_left
  · intro w'
    go_simp
    with_reducible rfl
  rotate_left
  · simp only [Act.put, List.setIfInBounds_toArray, List.set_cons_zero, List.set_cons_succ, i64_w, i32_w]
    rfl
  refine pure_ (i := 16) (N := some 51) (v := ?_) (a' := ?_) #[true, true, true, true, true, true, true, true, true, true, true, true, true, true, true, true, true, false] rfl rfl (by kernel_rfl) (fun _ _ _ h => h) (Or.inl ⟨by rfl, ?_⟩) ?_ ?_
  rotate_left
  · intro w'
    go_simp
    with_reducible rfl
  rotate_left
  · simp only [Act.put, List.setIfInBounds_toArray, List.set_cons_zero, List.set_cons_succ, i64_w, i32_w]
    rfl
  refine one_ (i := 17) (N := some 52) #[true, true, true, true, true, true, true, true, true, true, true, true, true, true, true, true, true, true] rfl rfl (by kernel_rfl) (by decide) (fun K hK => ?_)
  refine goes_ Tryd.func19 (by kernel_rfl) rfl #[.bool true] (by rfl) rfl rfl (by simp only [List.map_toArray, List.map_cons, List.map_nil]; rfl) ?_
  with_reducible refine (must_yes _).mono ?_
  rintro e w3 ⟨rfl, rfl⟩
  refine ⟨_, rfl, ?_⟩
  refine hK.out _ _ ⟨hHeld.1, hHeld.2.1, hHeld.2.2⟩ (fun hHeld => ?_)
  clear hK K
  refine norm_ (a' := ?_) ?_ ?_
  rotate_left
  · show Act.put _ (some 52) _ = _
    simp only [Act.put, List.setIfInBounds_toArray, List.set_cons_zero, List.set_cons_succ, i64_w, i32_w]
    rfl
  refine done_ (by kernel_rfl) ?_
  clear hwc hj0 hj1 t1 t2 x1_ x2_ x3_ x4_ x5_ x6_ l_B q_B_0 q_B_1 q_B_2 q_B_3 q_B_4 q_B_5 q_B_6 q_B_7 q_B_8 q_B_9 l_K q_K_0
  clear hHeld
  go_wp2_with fail
  have t1 : ((p : Int) == 0) = true := beq_iff_eq.2 (by have := H_hpz.out; omega)
  have l_B : w.heap.size < w3.heap.size := blk_lt B.out
  have q_B_0 : w3.cell? ⟨w.heap.size, 0, none⟩ = some (.int .i64 0) := (blk_cell B.out 0).trans rfl
  have q_B_1 : w3.cell? ⟨w.heap.size, 1, none⟩ = some (.int .i64 off) := (blk_cell B.out 1).trans rfl
  have q_B_2 : w3.cell? ⟨w.heap.size, 2, none⟩ = some (.int .i64 d) := (blk_cell B.out 2).trans rfl
  have q_B_3 : w3.cell? ⟨w.heap.size, 3, none⟩ = some (.int .i64 p) := (blk_cell B.out 3).trans rfl
  have q_B_4 : w3.cell? ⟨w.heap.size, 4, none⟩ = some (.int .i64 0) := (blk_cell B.out 4).trans rfl
  have q_B_5 : w3.cell? ⟨w.heap.size, 5, none⟩ = some (.int .i64 0) := (blk_cell B.out 5).trans rfl
  have q_B_6 : w3.cell? ⟨w.heap.size, 6, none⟩ = some (.bool false) := (blk_cell B.out 6).trans rfl
  have q_B_7 : w3.cell? ⟨w.heap.size, 7, none⟩ = some (.int .i64 0) := (blk_cell B.out 7).trans rfl
  have q_B_8 : w3.cell? ⟨w.heap.size, 8, none⟩ = some (.int .u32 0) := (blk_cell B.out 8).trans rfl
  have q_B_9 : w3.cell? ⟨w.heap.size, 9, none⟩ = some (.int .u32 0) := (blk_cell B.out 9).trans rfl
  refine start_ (n := 21) (S := fun w' => w'.cell? ⟨w.heap.size, 3, none⟩ = some (.int .i64 (p : Int))) (ds := []) #[false, false, false, false, false, false, false, false, false, false, false, false, false, false, false, false, false, false, false, false, false] (by kernel_rfl) rfl rfl (q_B_3) (fun hHeld => ?_)
  obtain ⟨w4, hwd⟩ : ∃ W, W = w3.drew := ⟨_, rfl⟩
  rw [← hwd] at hHeld ⊢
  have hb : Below w3.heap.size w3 w4 := by rw [hwd]; exact (Below.refl _ _).drew
  clear hwd
  replace GK := Lib.hid (GK.out.then hb)
  replace CK := Lib.hid (CK.out.then hb)
  replace B := Lib.hid (blk_below B.out hb)
  clear hb
  refine pure_ (i := 0) (N := some 53) (v := ?_) (a' := ?_) #[true, false, false, false, false, false, false, false, false, false, false, false, false, false, false, false, false, false, false, false, false] rfl rfl (by kernel_rfl) (fun _ _ _ h => h) (Or.inl ⟨by rfl, ?_⟩) ?_ ?_
  rotate_left
  · intro w'
    go_simp
    with_reducible rfl
  rotate_left
  · simp only [Act.put, List.setIfInBounds_toArray, List.set_cons_zero, List.set_cons_succ, i64_w, i32_w]
    rfl
  refine take_ (i := 1) (N := some 54) (v := ?_) (a' := ?_) #[true, true, false, false, false, false, false, false, false, false, false, false, false, false, false, false, false, false, false, false, false] rfl rfl (by kernel_rfl) (fun _ _ _ h => h) (Or.inl ⟨by rfl, ?_⟩) hHeld ?_ ?_
  rotate_left
  · intro w' s0
    go_simp
    with_reducible rfl
  rotate_left
  · simp only [Act.put, List.setIfInBounds_toArray, List.set_cons_zero, List.set_cons_succ, i64_w, i32_w]
    rfl
  refine pure_ (i := 2) (N := some 55) (v := ?_) (a' := ?_) #[true, true, true, false, false, false, false, false, false, false, false, false, false, false, false, false, false, false, false, false, false] rfl rfl (by kernel_rfl) (fun _ _ _ h => h) (Or.inl ⟨by rfl, ?_⟩) ?_ ?_
  rotate_left
  · intro w'
    go_simp
    with_reducible rfl
  rotate_left
  · simp only [Act.put, List.setIfInBounds_toArray, List.set_cons_zero, List.set_cons_succ, i64_w, i32_w]
    rfl
  refine pure_ (i := 3) (N := some 56) (v := ?_) (a' := ?_) #[true, true, true, true, false, false, false, false, false, false, false, false, false, false, false, false, false, false, false, false, false] rfl rfl (by kernel_rfl) (fun _ _ _ h => h) (Or.inl ⟨by rfl, ?_⟩) ?_ ?_
  rotate_left
  · intro w'
    go_simp
    with_reducible rfl
  rotate_left
  · simp only [Act.put, List.setIfInBounds_toArray, List.set_cons_zero, List.set_cons_succ, i64_w, i32_w]
    rfl
  refine pure_ (i := 4) (N := some 57) (v := undef) (a' := ?_) #[true, true, true, true, true, false, false, false, false, false, false, false, false, false, false, false, false, false, false, false, false] rfl rfl (by kernel_rfl) (fun _ _ _ h => h) (Or.inr ⟨by rfl, rfl⟩) ?_ ?_
  rotate_left
  · simp only [Act.put, List.setIfInBounds_toArray, List.set_cons_zero, List.set_cons_succ, i64_w, i32_w]
    rfl
  refine pure_ (i := 5) (N := some 58) (v := undef) (a' := ?_) #[true, true, true, true, true, true, false, false, false, false, false, false, false, false, false, false, false, false, false, false, false] rfl rfl (by kernel_rfl) (fun _ _ _ h => h) (Or.inr ⟨by rfl, rfl⟩) ?_ ?_
  rotate_left
  · simp only [Act.put, List.setIfInBounds_toArray, List.set_cons_zero, List.set_cons_succ, i64_w, i32_w]
    rfl
  refine pure_ (i := 6) (N := some 59) (v := undef) (a' := ?_) #[true, true, true, true, true, true, true, false, false, false, false, false, false, false, false, false, false, false, false, false, false] rfl rfl (by kernel_rfl) (fun _ _ _ h => h) (Or.inr ⟨by rfl, rfl⟩) ?_ ?_
  rotate_left
  · simp only [Act.put, List.setIfInBounds_toArray, List.set_cons_zero, List.set_cons_succ, i64_w, i32_w]
    rfl
  refine pure_ (i := 7) (N := some 60) (v := undef) (a' := ?_) #[true, true, true, true, true, true, true, true, false, false, false, false, false, false, false, false, false, false, false, false, false] rfl rfl (by kernel_rfl) (fun _ _ _ h => h) (Or.inr ⟨by rfl, rfl⟩) ?_ ?_
  rotate_left
  · simp only [Act.put, List.setIfInBounds_toArray, List.set_cons_zero, List.set_cons_succ, i64_w, i32_w]
    rfl
  refine pure_ (i := 8) (N := some 61) (v := undef) (a' := ?_) #[true, true, true, true, true, true, true, true, true, false, false, false, false, false, false, false, false, false, false, false, false] rfl rfl (by kernel_rfl) (fun _ _ _ h => h) (Or.inr ⟨by rfl, rfl⟩) ?_ ?_
  rotate_left
  · simp only [Act.put, List.setIfInBounds_toArray, List.set_cons_zero, List.set_cons_succ, i64_w, i32_w]
    rfl
  refine pure_ (i := 9) (N := some 62) (v := undef) (a' := ?_) #[true, true, true, true, true, true, true, true, true, true, false, false, false, false, false, false, false, false, false, false, false] rfl rfl (by kernel_rfl) (fun _ _ _ h => h) (Or.inr ⟨by rfl, rfl⟩) ?_ ?_
  rotate_left
  · simp only [Act.put, List.setIfInBounds_toArray, List.set_cons_zero, List.set_cons_succ, i64_w, i32_w]
    rfl
  refine pure_ (i := 10) (N := some 63) (v := undef) (a' := ?_) #[true, true, true, true, true, true, true, true, true, true, true, false, false, false, false, false, false, false, false, false, false] rfl rfl (by kernel_rfl) (fun _ _ _ h => h) (Or.inr ⟨by rfl, rfl⟩) ?_ ?_
  rotate_left
  · simp only [Act.put, List.setIfInBounds_toArray, List.set_cons_zero, List.set_cons_succ, i64_w, i32_w]
    rfl
  refine pure_ (i := 11) (N := some 64) (v := undef) (a' := ?_) #[true, true, true, true, true, true, true, true, true, true, true, true, false, false, false, false, false, false, false, false, false] rfl rfl (by kernel_rfl) (fun _ _ _ h => h) (Or.inr ⟨by rfl, rfl⟩) ?_ ?_
  rotate_left
  · simp only [Act.put, List.setIfInBounds_toArray, List.set_cons_zero, List.set_cons_succ, i64_w, i32_w]
    rfl
  refine pure_ (i := 12) (N := some 65) (v := undef) (a' := ?_) #[true, true, true, true, true, true, true, true, true, true, true, true, true, false, false, false, false, false, false, false, false] rfl rfl (by kernel_rfl) (fun _ _ _ h => h) (Or.inr ⟨by rfl, rfl⟩) ?_ ?_
  rotate_left
  · simp only [Act.put, List.setIfInBounds_toArray, List.set_cons_zero, List.set_cons_succ, i64_w, i32_w]
    rfl
  refine pure_ (i := 13) (N := some 66) (v := undef) (a' := ?_) #[true, true, true, true, true, true, true, true, true, true, true, true, true, true, false, false, false, false, false, false, false] rfl rfl (by kernel_rfl) (fun _ _ _ h => h) (Or.inr ⟨by rfl, rfl⟩) ?_ ?_
  rotate_left
  · simp only [Act.put, List.setIfInBounds_toArray, List.set_cons_zero, List.set_cons_succ, i64_w, i32_w]
    rfl
  refine pure_ (i := 14) (N := some 67) (v := undef) (a' := ?_) #[true, true, true, true, true, true, true, true, true, true, true, true, true, true, true, false, false, false, false, false, false] rfl rfl (by kernel_rfl) (fun _ _ _ h => h) (Or.inr ⟨by rfl, rfl⟩) ?_ ?_
  rotate_left
  · simp only [Act.put, List.setIfInBounds_toArray, List.set_cons_zero, List.set_cons_succ, i64_w, i32_w]
    rfl
  refine pure_ (i := 15) (N := some 68) (v := undef) (a' := ?_) #[true, true, true, true, true, true, true, true, true, true, true, true, true, true, true, true, false, false, false, false, false] rfl rfl (by kernel_rfl) (fun _ _ _ h => h) (Or.inr ⟨by rfl, rfl⟩) ?_ ?_
  rotate_left
  · simp only [Act.put, List.setIfInBounds_toArray, List.set_cons_zero, List.set_cons_succ, i64_w, i32_w]
    rfl
  refine pure_ (i := 16) (N := some 69) (v := undef) (a' := ?_) #[true, true, true, true, true, true, true, true, true, true, true, true, true, true, true, true, true, false, false, false, false] rfl rfl (by kernel_rfl) (fun _ _ _ h => h) (Or.inr ⟨by rfl, rfl⟩) ?_ ?_
  rotate_left
  · simp only [Act.put, List.setIfInBounds_toArray, List.set_cons_zero, List.set_cons_succ, i64_w, i32_w]
    rfl
  refine pure_ (i := 17) (N := some 70) (v := undef) (a' := ?_) #[true, true, true, true, true, true, true, true, true, true, true, true, true, true, true, true, true, true, false, false, false] rfl rfl (by kernel_rfl) (fun _ _ _ h => h) (Or.inr ⟨by rfl, rfl⟩) ?_ ?_
  rotate_left
  · simp only [Act.put, List.setIfInBounds_toArray, List.set_cons_zero, List.set_cons_succ, i64_w, i32_w]
    rfl
  refine pure_ (i := 18) (N := some 71) (v := undef) (a' := ?_) #[true, true, true, true, true, true, true, true, true, true, true, true, true, true, true, true, true, true, true, false, false] rfl rfl (by kernel_rfl) (fun _ _ _ h => h) (Or.inr ⟨by rfl, rfl⟩) ?_ ?_
  rotate_left
  · simp only [Act.put, List.setIfInBounds_toArray, List.set_cons_zero, List.set_cons_succ, i64_w, i32_w]
    rfl
  refine pure_ (i := 19) (N := some 72) (v := ?_) (a' := ?_) #[true, true, true, true, true, true, true, true, true, true, true, true, true, true, true, true, true, true, true, true, false] rfl rfl (by kernel_rfl) (fun _ _ _ h => h) (Or.inl ⟨by rfl, ?_⟩) ?_ ?_
  rotate_left
  · intro w'
    go_simp
    with_reducible rfl
  rotate_left
  · simp only [Act.put, List.setIfInBounds_toArray, List.set_cons_zero, List.set_cons_succ, i64_w, i32_w]
    rfl
  refine one_ (i := 20) (N := some 73) #[true, true, true, true, true, true, true, true, true, true, true, true, true, true, true, true, true, true, true, true, true] rfl rfl (by kernel_rfl) (by decide) (fun K hK => ?_)
  refine goes_ Tryd.func19 (by kernel_rfl) rfl #[.bool true] (by rfl) rfl rfl (by simp only [List.map_toArray, List.map_cons, List.map_nil]; rfl) ?_
  with_reducible refine (must_yes _).mono ?_
  rintro e w3 ⟨rfl, rfl⟩
  refine ⟨_, rfl, ?_⟩
  refine hK.out _ _ (hHeld) (fun hHeld => ?_)
  clear hK K
  refine norm_ (a' := ?_) ?_ ?_
  rotate_left
  · show Act.put _ (some 73) _ = _
    simp only [Act.put, List.setIfInBounds_toArray, List.set_cons_zero, List.set_cons_succ, i64_w, i32_w]
    rfl
  refine done_ (by kernel_rfl) ?_
  clear t1 l_B q_B_0 q_B_1 q_B_2 q_B_3 q_B_4 q_B_5 q_B_6 q_B_7 q_B_8 q_B_9
  clear hHeld
  have l_B : w.heap.size < w4.heap.size := blk_lt B.out
  have q_B_0 : w4.cell? ⟨w.heap.size, 0, none⟩ = some (.int .i64 0) := (blk_cell B.out 0).trans rfl
  have q_B_1 : w4.cell? ⟨w.heap.size, 1, none⟩ = some (.int .i64 off) := (blk_cell B.out 1).trans rfl
  have q_B_2 : w4.cell? ⟨w.heap.size, 2, none⟩ = some (.int .i64 d) := (blk_cell B.out 2).trans rfl
  have q_B_3 : w4.cell? ⟨w.heap.size, 3, none⟩ = some (.int .i64 p) := (blk_cell B.out 3).trans rfl
  have q_B_4 : w4.cell? ⟨w.heap.size, 4, none⟩ = some (.int .i64 0) := (blk_cell B.out 4).trans rfl
  have q_B_5 : w4.cell? ⟨w.heap.size, 5, none⟩ = some (.int .i64 0) := (blk_cell B.out 5).trans rfl
  have q_B_6 : w4.cell? ⟨w.heap.size, 6, none⟩ = some (.bool false) := (blk_cell B.out 6).trans rfl
  have q_B_7 : w4.cell? ⟨w.heap.size, 7, none⟩ = some (.int .i64 0) := (blk_cell B.out 7).trans rfl
  have q_B_8 : w4.cell? ⟨w.heap.size, 8, none⟩ = some (.int .u32 0) := (blk_cell B.out 8).trans rfl
  have q_B_9 : w4.cell? ⟨w.heap.size, 9, none⟩ = some (.int .u32 0) := (blk_cell B.out 9).trans rfl
  go_wp2_with fail
  clear l_B q_B_0 q_B_1 q_B_2 q_B_3 q_B_4 q_B_5 q_B_6 q_B_7 q_B_8 q_B_9
  have e0 : ((nx : Int) + (d : Int)) = ((nx + d : Nat) : Int) := by omega
  rw [e0]
  clear e0
  refine (pointers_any HE.out CK.out HI.out hd0_ hd1_ HV.out (by have := (objM_in hob).2; omega) (objM_in hob).2 (by omega)).mono ?_
  rintro e w5 (⟨q, hq, rfl, hg, hc⟩ | ⟨hq, rfl, hg⟩)
  · have hg' := GK.out.trans hg
    have HQ := Lib.hid hq
    clear hq hg
    go_wp2
    go_end0
    exact .inl ⟨q, HQ.out, rfl, hg', hc⟩
  · have hg' := GK.out.trans hg
    have HQ := Lib.hid hq
    clear hq hg
    go_wp2
    exact ⟨rfl, .inr ⟨HQ.out, rfl, hg'⟩⟩
set_option maxHeartbeats 4000000 in
theorem struct_5nn {W0 w : World} {s : List Int} {cp g nx m : Nat} {D Wd O : Int} {sb so at_ d p : Nat} {off depth : Int} (hE : Env W0 s (some ⟨sb, so, none⟩)) (hK : Ck W0 s (some ⟨sb, so, none⟩) cp D Wd O g nx m w) (ha : at_ ≤ 17592186040320) (ho0 : -536870912 ≤ off) (ho1 : off ≤ 536870911) (hd : d ≤ 65535) (hp : p ≤ 65535) (hx : nx ≤ s.length) (hm : m ≤ 4611686018427387904) (hcp : s.length ≤ cp) {v : Nat → Nat → Nat → Option (Nat × Nat)} (hv : InM s v) (hd0_ : 0 ≤ depth) (hd1_ : depth ≤ 1000000) (hV : VisC W0 s (some ⟨sb, so, none⟩) cp D Wd O g v (depth + 1)) (hdp : ¬ d + p = 0) (hob : objM s at_ off (d + p) nx = true) (hch : d + p ≤ m) (hdz : ¬ d = 0) (hw1 : ¬ wd s (nx + d - 1) = 0) (hpz : ¬ p = 0) (hw2 : ¬ wd s (nx + d + p - 1) = 0)  :
    Calls Tryd.prog 33 #[.pointer (some ⟨g, 0, none⟩), .int .i64 at_, .int .i64 depth, .agg #[.int .i64 0, .int .i64 off, .int .i64 d, .int .i64 p, .int .i64 0, .int .i64 0, .bool false, .int .i64 0, .int .u32 0, .int .u32 0]] w fun e w' => EndM W0 s (some ⟨sb, so, none⟩) cp D Wd O g w (ptrsM v p (nx + d) (nx + (d + p)) (m - (d + p))) e w' := by
  have HLEN := Lib.hid hE.len
  have hlen := hE.len
  have t0 : ((d : Int) + (p : Int) == 0) = false := beq_eq_false_iff_ne.2 (by omega)
  have HI := Lib.hid hv
  have HV := Lib.hid hV
  clear hv hV
  have GK := Lib.hid (Gr.refl g w)
  have CK := Lib.hid hK
  have HE := Lib.hid hE
  clear hE hK
  go_enter Tryd.func33, Tryd.ntmps33
  go_wp2_with fail
  have lg : g < w.heap.size := blk_lt CK.out.blk
  refine calls_at (fun wa hW => ?_)
  have hb : Below w.heap.size w wa := by rw [hW]; exact (Below.refl _ _).alloc (Nat.le_refl _) _
  have nB : wa.heap[w.heap.size]? = some (.cells #[.int .i64 0, .int .i64 off, .int .i64 d, .int .i64 p, .int .i64 0, .int .i64 0, .bool false, .int .i64 0, .int .u32 0, .int .u32 0] 67 (0, 0)) := by rw [hW]; exact heap_alloc_new _ _
  have neB : w.heap.size ≠ g := by omega
  clear hW lg
  replace GK := Lib.hid (GK.out.then hb)
  replace CK := Lib.hid (CK.out.then hb)
  clear hb
  have B := Lib.hid nB
  clear nB
  have e0 : ((d : Int) + (p : Int)) = ((d + p : Nat) : Int) := by omega
  rw [e0]
  clear e0
  refine (object_yes HE.out CK.out ha ⟨ho0, ho1⟩ (by omega) hx hcp hob).mono ?_
  rintro e w1 ⟨rfl, hg, hc⟩
  have gB : Hid (Gr g wa w1) := Lib.hid hg
  replace B := Lib.hid (gB.out.blk B.out neB)
  replace GK := Lib.hid (GK.out.trans gB.out)
  clear gB
  clear CK
  have CK := Lib.hid hc
  clear hg hc
  have l_B : w.heap.size < w1.heap.size := blk_lt B.out
  have q_B_0 : w1.cell? ⟨w.heap.size, 0, none⟩ = some (.int .i64 0) := (blk_cell B.out 0).trans rfl
  have q_B_1 : w1.cell? ⟨w.heap.size, 1, none⟩ = some (.int .i64 off) := (blk_cell B.out 1).trans rfl
  have q_B_2 : w1.cell? ⟨w.heap.size, 2, none⟩ = some (.int .i64 d) := (blk_cell B.out 2).trans rfl
  have q_B_3 : w1.cell? ⟨w.heap.size, 3, none⟩ = some (.int .i64 p) := (blk_cell B.out 3).trans rfl
  have q_B_4 : w1.cell? ⟨w.heap.size, 4, none⟩ = some (.int .i64 0) := (blk_cell B.out 4).trans rfl
  have q_B_5 : w1.cell? ⟨w.heap.size, 5, none⟩ = some (.int .i64 0) := (blk_cell B.out 5).trans rfl
  have q_B_6 : w1.cell? ⟨w.heap.size, 6, none⟩ = some (.bool false) := (blk_cell B.out 6).trans rfl
  have q_B_7 : w1.cell? ⟨w.heap.size, 7, none⟩ = some (.int .i64 0) := (blk_cell B.out 7).trans rfl
  have q_B_8 : w1.cell? ⟨w.heap.size, 8, none⟩ = some (.int .u32 0) := (blk_cell B.out 8).trans rfl
  have q_B_9 : w1.cell? ⟨w.heap.size, 9, none⟩ = some (.int .u32 0) := (blk_cell B.out 9).trans rfl
  go_wp2_with fail
  clear l_B q_B_0 q_B_1 q_B_2 q_B_3 q_B_4 q_B_5 q_B_6 q_B_7 q_B_8 q_B_9
  have e0 : ((d : Int) + (p : Int)) = ((d + p : Nat) : Int) := by omega
  rw [e0]
  clear e0
  refine (charge_ok HE.out CK.out hch (by omega) (by omega)).mono ?_
  rintro e w2 (⟨q, hq, rfl, hg, hc⟩ | ⟨hq, _⟩)
  rotate_left
  · cases hq
  cases hq
  have gB : Hid (Gr g w1 w2) := Lib.hid hg
  replace B := Lib.hid (gB.out.blk B.out neB)
  replace GK := Lib.hid (GK.out.trans gB.out)
  clear gB
  clear CK
  have CK := Lib.hid hc
  clear hg hc
  have l_B : w.heap.size < w2.heap.size := blk_lt B.out
  have q_B_0 : w2.cell? ⟨w.heap.size, 0, none⟩ = some (.int .i64 0) := (blk_cell B.out 0).trans rfl
  have q_B_1 : w2.cell? ⟨w.heap.size, 1, none⟩ = some (.int .i64 off) := (blk_cell B.out 1).trans rfl
  have q_B_2 : w2.cell? ⟨w.heap.size, 2, none⟩ = some (.int .i64 d) := (blk_cell B.out 2).trans rfl
  have q_B_3 : w2.cell? ⟨w.heap.size, 3, none⟩ = some (.int .i64 p) := (blk_cell B.out 3).trans rfl
  have q_B_4 : w2.cell? ⟨w.heap.size, 4, none⟩ = some (.int .i64 0) := (blk_cell B.out 4).trans rfl
  have q_B_5 : w2.cell? ⟨w.heap.size, 5, none⟩ = some (.int .i64 0) := (blk_cell B.out 5).trans rfl
  have q_B_6 : w2.cell? ⟨w.heap.size, 6, none⟩ = some (.bool false) := (blk_cell B.out 6).trans rfl
  have q_B_7 : w2.cell? ⟨w.heap.size, 7, none⟩ = some (.int .i64 0) := (blk_cell B.out 7).trans rfl
  have q_B_8 : w2.cell? ⟨w.heap.size, 8, none⟩ = some (.int .u32 0) := (blk_cell B.out 8).trans rfl
  have q_B_9 : w2.cell? ⟨w.heap.size, 9, none⟩ = some (.int .u32 0) := (blk_cell B.out 9).trans rfl
  go_wp2_with fail
  clear l_B q_B_0 q_B_1 q_B_2 q_B_3 q_B_4 q_B_5 q_B_6 q_B_7 q_B_8 q_B_9
  obtain ⟨j, hj⟩ : ∃ j, nx + d = j + 1 := ⟨nx + d - 1, by omega⟩
  have hjl : j < s.length := by have := (objM_in hob).2; omega
  have ej : nx + d - 1 = j := by omega
  rw [ej] at hw1
  clear ej
  have hwc := wd_cell HE.out CK.out.below hjl
  generalize wd s j = x at hwc hw1
  have hj0 : (0 : Int) ≤ (j : Int) := Int.natCast_nonneg _
  have hj1 : (j : Int) < (s.length : Int) := by omega
  have t1 : ((d : Int) == 0) = false := beq_eq_false_iff_ne.2 (by omega)
  have t2 : (x != 0) = true := bne_iff_ne.2 hw1
  have HJ := Lib.hid hj
  clear hj
  obtain ⟨x1_, x2_, x3_, x4_, x5_, x6_⟩ := idx_wraps HJ.out (by have := HLEN.out; omega)
  have l_B : w.heap.size < w2.heap.size := blk_lt B.out
  have q_B_0 : w2.cell? ⟨w.heap.size, 0, none⟩ = some (.int .i64 0) := (blk_cell B.out 0).trans rfl
  have q_B_1 : w2.cell? ⟨w.heap.size, 1, none⟩ = some (.int .i64 off) := (blk_cell B.out 1).trans rfl
  have q_B_2 : w2.cell? ⟨w.heap.size, 2, none⟩ = some (.int .i64 d) := (blk_cell B.out 2).trans rfl
  have q_B_3 : w2.cell? ⟨w.heap.size, 3, none⟩ = some (.int .i64 p) := (blk_cell B.out 3).trans rfl
  have q_B_4 : w2.cell? ⟨w.heap.size, 4, none⟩ = some (.int .i64 0) := (blk_cell B.out 4).trans rfl
  have q_B_5 : w2.cell? ⟨w.heap.size, 5, none⟩ = some (.int .i64 0) := (blk_cell B.out 5).trans rfl
  have q_B_6 : w2.cell? ⟨w.heap.size, 6, none⟩ = some (.bool false) := (blk_cell B.out 6).trans rfl
  have q_B_7 : w2.cell? ⟨w.heap.size, 7, none⟩ = some (.int .i64 0) := (blk_cell B.out 7).trans rfl
  have q_B_8 : w2.cell? ⟨w.heap.size, 8, none⟩ = some (.int .u32 0) := (blk_cell B.out 8).trans rfl
  have q_B_9 : w2.cell? ⟨w.heap.size, 9, none⟩ = some (.int .u32 0) := (blk_cell B.out 9).trans rfl
  have l_K : g < w2.heap.size := blk_lt CK.out.blk
  have q_K_0 : w2.cell? ⟨g, 0, none⟩ = some (.slice (some ⟨sb, so, none⟩) s.length cp) := (blk_cell CK.out.blk 0).trans rfl
  refine start_ (n := 18) (S := fun w' => w'.cell? ⟨w.heap.size, 2, none⟩ = some (.int .i64 (d : Int)) ∧ w'.cell? ⟨g, 0, none⟩ = some (.slice (some ⟨sb, so, none⟩) s.length cp) ∧ w'.cell? ⟨sb, so + j, none⟩ = some (.int .u64 x)) (ds := []) #[false, false, false, false, false, false, false, false, false, false, false, false, false, false, false, false, false, false] (by kernel_rfl) rfl rfl ⟨q_B_2, q_K_0, hwc⟩ (fun hHeld => ?_)
  obtain ⟨w3, hwd⟩ : ∃ W, W = w2.drew := ⟨_, rfl⟩
  rw [← hwd] at hHeld ⊢
  have hb : Below w2.heap.size w2 w3 := by rw [hwd]; exact (Below.refl _ _).drew
  clear hwd
  replace GK := Lib.hid (GK.out.then hb)
  replace CK := Lib.hid (CK.out.then hb)
  replace B := Lib.hid (blk_below B.out hb)
  clear hb
  refine pure_ (i := 0) (N := some 35) (v := ?_) (a' := ?_) #[true, false, false, false, false, false, false, false, false, false, false, false, false, false, false, false, false, false] rfl rfl (by kernel_rfl) (fun _ _ _ h => h) (Or.inl ⟨by rfl, ?_⟩) ?_ ?_
  rotate_left
  · intro w'
    go_simp
    with_reducible rfl
  rotate_left
  · simp only [Act.put, List.setIfInBounds_toArray, List.set_cons_zero, List.set_cons_succ, i64_w, i32_w]
    rfl
  refine take_ (i := 1) (N := some 36) (v := ?_) (a' := ?_) #[true, true, false, false, false, false, false, false, false, false, false, false, false, false, false, false, false, false] rfl rfl (by kernel_rfl) (fun _ _ _ h => h) (Or.inl ⟨by rfl, ?_⟩) hHeld ?_ ?_
  rotate_left
  · rintro w' ⟨s0, s1, s2⟩
    go_simp
    with_reducible rfl
  rotate_left
  · simp only [Act.put, List.setIfInBounds_toArray, List.set_cons_zero, List.set_cons_succ, i64_w, i32_w]
    rfl
  refine pure_ (i := 2) (N := some 37) (v := ?_) (a' := ?_) #[true, true, true, false, false, false, false, false, false, false, false, false, false, false, false, false, false, false] rfl rfl (by kernel_rfl) (fun _ _ _ h => h) (Or.inl ⟨by rfl, ?_⟩) ?_ ?_
  rotate_left
  · intro w'
    go_simp
    with_reducible rfl
  rotate_left
  · simp only [Act.put, List.setIfInBounds_toArray, List.set_cons_zero, List.set_cons_succ, i64_w, i32_w]
    rfl
  refine pure_ (i := 3) (N := some 38) (v := ?_) (a' := ?_) #[true, true, true, true, false, false, false, false, false, false, false, false, false, false, false, false, false, false] rfl rfl (by kernel_rfl) (fun _ _ _ h => h) (Or.inl ⟨by rfl, ?_⟩) ?_ ?_
  rotate_left
  · intro w'
    go_simp
    with_reducible rfl
  rotate_left
  · simp only [Act.put, List.setIfInBounds_toArray, List.set_cons_zero, List.set_cons_succ, i64_w, i32_w]
    rfl
  refine pure_ (i := 4) (N := some 39) (v := ?_) (a' := ?_) #[true, true, true, true, true, false, false, false, false, false, false, false, false, false, false, false, false, false] rfl rfl (by kernel_rfl) (fun _ _ _ h => h) (Or.inl ⟨by rfl, ?_⟩) ?_ ?_
  rotate_left
  · intro w'
    go_simp
    with_reducible rfl
  rotate_left
  · simp only [Act.put, List.setIfInBounds_toArray, List.set_cons_zero, List.set_cons_succ, i64_w, i32_w]
    rfl
  refine pure_ (i := 5) (N := some 40) (v := ?_) (a' := ?_) #[true, true, true, true, true, true, false, false, false, false, false, false, false, false, false, false, false, false] rfl rfl (by kernel_rfl) (fun _ _ _ h => h) (Or.inl ⟨by rfl, ?_⟩) ?_ ?_
  rotate_left
  · intro w'
    go_simp
    with_reducible rfl
  rotate_left
  · simp only [Act.put, List.setIfInBounds_toArray, List.set_cons_zero, List.set_cons_succ, i64_w, i32_w]
    rfl
  refine pure_ (i := 6) (N := some 41) (v := ?_) (a' := ?_) #[true, true, true, true, true, true, true, false, false, false, false, false, false, false, false, false, false, false] rfl rfl (by kernel_rfl) (fun _ _ _ h => h) (Or.inl ⟨by rfl, ?_⟩) ?_ ?_
  rotate_left
  · intro w'
    go_simp
    with_reducible rfl
  rotate_left
  · simp only [Act.put, List.setIfInBounds_toArray, List.set_cons_zero, List.set_cons_succ, i64_w, i32_w]
    rfl
  refine pure_ (i := 8) (N := some 43) (v := ?_) (a' := ?_) #[true, true, true, true, true, true, true, false, true, false, false, false, false, false, false, false, false, false] rfl rfl (by kernel_rfl) (fun _ _ _ h => h) (Or.inl ⟨by rfl, ?_⟩) ?_ ?_
  rotate_left
  · intro w'
    go_simp
    with_reducible rfl
  rotate_left
  · simp only [Act.put, List.setIfInBounds_toArray, List.set_cons_zero, List.set_cons_succ, i64_w, i32_w]
    rfl
  refine pure_ (i := 9) (N := some 44) (v := ?_) (a' := ?_) #[true, true, true, true, true, true, true, false, true, true, false, false, false, false, false, false, false, false] rfl rfl (by kernel_rfl) (fun _ _ _ h => h) (Or.inl ⟨by rfl, ?_⟩) ?_ ?_
  rotate_left
  · intro w'
    go_simp
    with_reducible rfl
  rotate_left
  · simp only [Act.put, List.setIfInBounds_toArray, List.set_cons_zero, List.set_cons_succ, i64_w, i32_w]
    rfl
  refine take_ (i := 7) (N := some 42) (v := ?_) (a' := ?_) #[true, true, true, true, true, true, true, true, true, true, false, false, false, false, false, false, false, false] rfl rfl (by kernel_rfl) (fun _ _ _ h => h) (Or.inl ⟨by rfl, ?_⟩) hHeld ?_ ?_
  rotate_left
  · rintro w' ⟨s0, s1, s2⟩
    go_simp
    with_reducible rfl
  rotate_left
  · simp only [Act.put, List.setIfInBounds_toArray, List.set_cons_zero, List.set_cons_succ, i64_w, i32_w]
    rfl
  refine take_ (i := 10) (N := some 45) (v := ?_) (a' := ?_) #[true, true, true, true, true, true, true, true, true, true, true, false, false, false, false, false, false, false] rfl rfl (by kernel_rfl) (fun _ _ _ h => h) (Or.inl ⟨by rfl, ?_⟩) hHeld ?_ ?_
  rotate_left
  · rintro w' ⟨s0, s1, s2⟩
    go_simp
    with_reducible rfl
  rotate_left
  · simp only [Act.put, List.setIfInBounds_toArray, List.set_cons_zero, List.set_cons_succ, i64_w, i32_w]
    rfl
  refine pure_ (i := 11) (N := some 46) (v := ?_) (a' := ?_) #[true, true, true, true, true, true, true, true, true, true, true, true, false, false, false, false, false, false] rfl rfl (by kernel_rfl) (fun _ _ _ h => h) (Or.inl ⟨by rfl, ?_⟩) ?_ ?_
  rotate_left
  · intro w'
    go_simp
    with_reducible rfl
  rotate_left
  · simp only [Act.put, List.setIfInBounds_toArray, List.set_cons_zero, List.set_cons_succ, i64_w, i32_w]
    rfl
  refine pure_ (i := 12) (N := some 47) (v := ?_) (a' := ?_) #[true, true, true, true, true, true, true, true, true, true, true, true, true, false, false, false, false, false] rfl rfl (by kernel_rfl) (fun _ _ _ h => h) (Or.inl ⟨by rfl, ?_⟩) ?_ ?_
  rotate_left
  · intro w'
    go_simp
    with_reducible rfl
  rotate_left
  · simp only [Act.put, List.setIfInBounds_toArray, List.set_cons_zero, List.set_cons_succ, i64_w, i32_w]
    rfl
  refine pure_ (i := 13) (N := some 48) (v := ?_) (a' := ?_) #[true, true, true, true, true, true, true, true, true, true, true, true, true, true, false, false, false, false] rfl rfl (by kernel_rfl) (fun _ _ _ h => h) (Or.inl ⟨by rfl, ?_⟩) ?_ ?_
  rotate_left
  · intro w'
    go_simp
    with_reducible rfl
  rotate_left
  · simp only [Act.put, List.setIfInBounds_toArray, List.set_cons_zero, List.set_cons_succ, i64_w, i32_w]
    rfl
  refine take_ (i := 14) (N := some 49) (v := ?_) (a' := ?_) #[true, true, true, true, true, true, true, true, true, true, true, true, true, true, true, false, false, false] rfl rfl (by kernel_rfl) (fun _ _ _ h => h) (Or.inl ⟨by rfl, ?_⟩) hHeld ?_ ?_
  rotate_left
  · rintro w' ⟨s0, s1, s2⟩
    go_simp
    with_reducible rfl
  rotate_left
  · simp only [Act.put, List.setIfInBounds_toArray, List.set_cons_zero, List.set_cons_succ, i64_w, i32_w]
    rfl
  refine pure_ (i := 15) (N := some 50) (v := ?_) (a' := ?_) #[true, true, true, true, true, true, true, true, true, true, true, true, true, true, true, true, false, false] rfl rfl (by kernel_rfl) (fun _ _ _ h => h) (Or.inl ⟨by rfl, ?_⟩) ?_ ?_
  rotate_left
  · intro w'
    go_simp
    with_reducible rfl
  rotate_left
  · simp only [Act.put, List.setIfInBounds_toArray, List.set_cons_zero, List.set_cons_succ, i64_w, i32_w]
    rfl
  refine pure_ (i := 16) (N := some 51) (v := ?_) (a' := ?_) #[true, true, true, true, true, true, true, true, true, true, true, true, true, true, true, true, true, false] rfl rfl (by kernel_rfl) (fun _ _ _ h => h) (Or.inl ⟨by rfl, ?_⟩) ?_ ?_
  rotate_left
  · intro w'
    go_simp
    with_reducible rfl
  rotate_left
  · simp only [Act.put, List.setIfInBounds_toArray, List.set_cons_zero, List.set_cons_succ, i64_w, i32_w]
    rfl
  refine one_ (i := 17) (N := some 52) #[true, true, true, true, true, true, true, true, true, true, true, true, true, true, true, true, true, true] rfl rfl (by kernel_rfl) (by decide) (fun K hK => ?_)
  refine goes_ Tryd.func19 (by kernel_rfl) rfl #[.bool true] (by rfl) rfl rfl (by simp only [List.map_toArray, List.map_cons, List.map_nil]; rfl) ?_
  with_reducible refine (must_yes _).mono ?_
  rintro e w3 ⟨rfl, rfl⟩
  refine ⟨_, rfl, ?_⟩
  refine hK.out _ _ ⟨hHeld.1, hHeld.2.1, hHeld.2.2⟩ (fun hHeld => ?_)
  clear hK K
  refine norm_ (a' := ?_) ?_ ?_
  rotate_left
  · show Act.put _ (some 52) _ = _
    simp only [Act.put, List.setIfInBounds_toArray, List.set_cons_zero, List.set_cons_succ, i64_w, i32_w]
    rfl
  refine done_ (by kernel_rfl) ?_
  clear hwc hj0 hj1 t1 t2 x1_ x2_ x3_ x4_ x5_ x6_ l_B q_B_0 q_B_1 q_B_2 q_B_3 q_B_4 q_B_5 q_B_6 q_B_7 q_B_8 q_B_9 l_K q_K_0
  clear hHeld
  go_wp2_with fail
  obtain ⟨k, hk⟩ : ∃ k, nx + d = k := ⟨_, rfl⟩
  obtain ⟨j, hj⟩ : ∃ j, k + p = j + 1 := ⟨k + p - 1, by omega⟩
  have hjl : j < s.length := by have := (objM_in hob).2; omega
  have ej : nx + d + p - 1 = j := by omega
  rw [ej] at hw2
  clear ej
  have hwc := wd_cell HE.out CK.out.below hjl
  generalize wd s j = x at hwc hw2
  have hj0 : (0 : Int) ≤ (j : Int) := Int.natCast_nonneg _
  have hj1 : (j : Int) < (s.length : Int) := by omega
  have t1 : ((p : Int) == 0) = false := beq_eq_false_iff_ne.2 (by omega)
  have t2 : (x != 0) = true := bne_iff_ne.2 hw2
  have HJ := Lib.hid hj
  have HKK := Lib.hid hk
  clear hj hk
  obtain ⟨y1_, y2_⟩ := sum_wraps HKK.out (by have := HLEN.out; have := HJ.out; omega)
  obtain ⟨x1_, x2_, x3_, x4_, x5_, x6_⟩ := idx_wraps HJ.out (by have := HLEN.out; omega)
  have l_B : w.heap.size < w3.heap.size := blk_lt B.out
  have q_B_0 : w3.cell? ⟨w.heap.size, 0, none⟩ = some (.int .i64 0) := (blk_cell B.out 0).trans rfl
  have q_B_1 : w3.cell? ⟨w.heap.size, 1, none⟩ = some (.int .i64 off) := (blk_cell B.out 1).trans rfl
  have q_B_2 : w3.cell? ⟨w.heap.size, 2, none⟩ = some (.int .i64 d) := (blk_cell B.out 2).trans rfl
  have q_B_3 : w3.cell? ⟨w.heap.size, 3, none⟩ = some (.int .i64 p) := (blk_cell B.out 3).trans rfl
  have q_B_4 : w3.cell? ⟨w.heap.size, 4, none⟩ = some (.int .i64 0) := (blk_cell B.out 4).trans rfl
  have q_B_5 : w3.cell? ⟨w.heap.size, 5, none⟩ = some (.int .i64 0) := (blk_cell B.out 5).trans rfl
  have q_B_6 : w3.cell? ⟨w.heap.size, 6, none⟩ = some (.bool false) := (blk_cell B.out 6).trans rfl
  have q_B_7 : w3.cell? ⟨w.heap.size, 7, none⟩ = some (.int .i64 0) := (blk_cell B.out 7).trans rfl
  have q_B_8 : w3.cell? ⟨w.heap.size, 8, none⟩ = some (.int .u32 0) := (blk_cell B.out 8).trans rfl
  have q_B_9 : w3.cell? ⟨w.heap.size, 9, none⟩ = some (.int .u32 0) := (blk_cell B.out 9).trans rfl
  have l_K : g < w3.heap.size := blk_lt CK.out.blk
  have q_K_0 : w3.cell? ⟨g, 0, none⟩ = some (.slice (some ⟨sb, so, none⟩) s.length cp) := (blk_cell CK.out.blk 0).trans rfl
  refine start_ (n := 21) (S := fun w' => w'.cell? ⟨w.heap.size, 2, none⟩ = some (.int .i64 (d : Int)) ∧ w'.cell? ⟨w.heap.size, 3, none⟩ = some (.int .i64 (p : Int)) ∧ w'.cell? ⟨g, 0, none⟩ = some (.slice (some ⟨sb, so, none⟩) s.length cp) ∧ w'.cell? ⟨sb, so + j, none⟩ = some (.int .u64 x)) (ds := []) #[false, false, false, false, false, false, false, false, false, false, false, false, false, false, false, false, false, false, false, false, false] (by kernel_rfl) rfl rfl ⟨q_B_2, q_B_3, q_K_0, hwc⟩ (fun hHeld => ?_)
  obtain ⟨w4, hwd⟩ : ∃ W, W = w3.drew := ⟨_, rfl⟩
  rw [← hwd] at hHeld ⊢
  have hb : Below w3.heap.size w3 w4 := by rw [hwd]; exact (Below.refl _ _).drew
  clear hwd
  replace GK := Lib.hid (GK.out.then hb)
  replace CK := Lib.hid (CK.out.then hb)
  replace B := Lib.hid (blk_below B.out hb)
  clear hb
  refine pure_ (i := 0) (N := some 53) (v := ?_) (a' := ?_) #[true, false, false, false, false, false, false, false, false, false, false, false, false, false, false, false, false, false, false, false, false] rfl rfl (by kernel_rfl) (fun _ _ _ h => h) (Or.inl ⟨by rfl, ?_⟩) ?_ ?_
  rotate_left
  · intro w'
    go_simp
    with_reducible rfl
  rotate_left
  · simp only [Act.put, List.setIfInBounds_toArray, List.set_cons_zero, List.set_cons_succ, i64_w, i32_w]
    rfl
  refine take_ (i := 1) (N := some 54) (v := ?_) (a' := ?_) #[true, true, false, false, false, false, false, false, false, false, false, false, false, false, false, false, false, false, false, false, false] rfl rfl (by kernel_rfl) (fun _ _ _ h => h) (Or.inl ⟨by rfl, ?_⟩) hHeld ?_ ?_
  rotate_left
  · rintro w' ⟨s0, s1, s2, s3⟩
    go_simp
    with_reducible rfl
  rotate_left
  · simp only [Act.put, List.setIfInBounds_toArray, List.set_cons_zero, List.set_cons_succ, i64_w, i32_w]
    rfl
  refine pure_ (i := 2) (N := some 55) (v := ?_) (a' := ?_) #[true, true, true, false, false, false, false, false, false, false, false, false, false, false, false, false, false, false, false, false, false] rfl rfl (by kernel_rfl) (fun _ _ _ h => h) (Or.inl ⟨by rfl, ?_⟩) ?_ ?_
  rotate_left
  · intro w'
    go_simp
    with_reducible rfl
  rotate_left
  · simp only [Act.put, List.setIfInBounds_toArray, List.set_cons_zero, List.set_cons_succ, i64_w, i32_w]
    rfl
  refine pure_ (i := 3) (N := some 56) (v := ?_) (a' := ?_) #[true, true, true, true, false, false, false, false, false, false, false, false, false, false, false, false, false, false, false, false, false] rfl rfl (by kernel_rfl) (fun _ _ _ h => h) (Or.inl ⟨by rfl, ?_⟩) ?_ ?_
  rotate_left
  · intro w'
    go_simp
    with_reducible rfl
  rotate_left
  · simp only [Act.put, List.setIfInBounds_toArray, List.set_cons_zero, List.set_cons_succ, i64_w, i32_w]
    rfl
  refine pure_ (i := 4) (N := some 57) (v := ?_) (a' := ?_) #[true, true, true, true, true, false, false, false, false, false, false, false, false, false, false, false, false, false, false, false, false] rfl rfl (by kernel_rfl) (fun _ _ _ h => h) (Or.inl ⟨by rfl, ?_⟩) ?_ ?_
  rotate_left
  · intro w'
    go_simp
    with_reducible rfl
  rotate_left
  · simp only [Act.put, List.setIfInBounds_toArray, List.set_cons_zero, List.set_cons_succ, i64_w, i32_w]
    rfl
  refine pure_ (i := 5) (N := some 58) (v := ?_) (a' := ?_) #[true, true, true, true, true, true, false, false, false, false, false, false, false, false, false, false, false, false, false, false, false] rfl rfl (by kernel_rfl) (fun _ _ _ h => h) (Or.inl ⟨by rfl, ?_⟩) ?_ ?_
  rotate_left
  · intro w'
    go_simp
    with_reducible rfl
  rotate_left
  · simp only [Act.put, List.setIfInBounds_toArray, List.set_cons_zero, List.set_cons_succ, i64_w, i32_w]
    rfl
  refine pure_ (i := 6) (N := some 59) (v := ?_) (a' := ?_) #[true, true, true, true, true, true, true, false, false, false, false, false, false, false, false, false, false, false, false, false, false] rfl rfl (by kernel_rfl) (fun _ _ _ h => h) (Or.inl ⟨by rfl, ?_⟩) ?_ ?_
  rotate_left
  · intro w'
    go_simp
    with_reducible rfl
  rotate_left
  · simp only [Act.put, List.setIfInBounds_toArray, List.set_cons_zero, List.set_cons_succ, i64_w, i32_w]
    rfl
  refine pure_ (i := 8) (N := some 61) (v := ?_) (a' := ?_) #[true, true, true, true, true, true, true, false, true, false, false, false, false, false, false, false, false, false, false, false, false] rfl rfl (by kernel_rfl) (fun _ _ _ h => h) (Or.inl ⟨by rfl, ?_⟩) ?_ ?_
  rotate_left
  · intro w'
    go_simp
    with_reducible rfl
  rotate_left
  · simp only [Act.put, List.setIfInBounds_toArray, List.set_cons_zero, List.set_cons_succ, i64_w, i32_w]
    rfl
  refine pure_ (i := 9) (N := some 62) (v := ?_) (a' := ?_) #[true, true, true, true, true, true, true, false, true, true, false, false, false, false, false, false, false, false, false, false, false] rfl rfl (by kernel_rfl) (fun _ _ _ h => h) (Or.inl ⟨by rfl, ?_⟩) ?_ ?_
  rotate_left
  · intro w'
    go_simp
    with_reducible rfl
  rotate_left
  · simp only [Act.put, List.setIfInBounds_toArray, List.set_cons_zero, List.set_cons_succ, i64_w, i32_w]
    rfl
  refine pure_ (i := 12) (N := some 65) (v := ?_) (a' := ?_) #[true, true, true, true, true, true, true, false, true, true, false, false, true, false, false, false, false, false, false, false, false] rfl rfl (by kernel_rfl) (fun _ _ _ h => h) (Or.inl ⟨by rfl, ?_⟩) ?_ ?_
  rotate_left
  · intro w'
    go_simp
    with_reducible rfl
  rotate_left
  · simp only [Act.put, List.setIfInBounds_toArray, List.set_cons_zero, List.set_cons_succ, i64_w, i32_w]
    rfl
  refine take_ (i := 7) (N := some 60) (v := ?_) (a' := ?_) #[true, true, true, true, true, true, true, true, true, true, false, false, true, false, false, false, false, false, false, false, false] rfl rfl (by kernel_rfl) (fun _ _ _ h => h) (Or.inl ⟨by rfl, ?_⟩) hHeld ?_ ?_
  rotate_left
  · rintro w' ⟨s0, s1, s2, s3⟩
    go_simp
    with_reducible rfl
  rotate_left
  · simp only [Act.put, List.setIfInBounds_toArray, List.set_cons_zero, List.set_cons_succ, i64_w, i32_w]
    rfl
  refine take_ (i := 10) (N := some 63) (v := ?_) (a' := ?_) #[true, true, true, true, true, true, true, true, true, true, true, false, true, false, false, false, false, false, false, false, false] rfl rfl (by kernel_rfl) (fun _ _ _ h => h) (Or.inl ⟨by rfl, ?_⟩) hHeld ?_ ?_
  rotate_left
  · rintro w' ⟨s0, s1, s2, s3⟩
    go_simp
    with_reducible rfl
  rotate_left
  · simp only [Act.put, List.setIfInBounds_toArray, List.set_cons_zero, List.set_cons_succ, i64_w, i32_w]
    rfl
  refine pure_ (i := 11) (N := some 64) (v := ?_) (a' := ?_) #[true, true, true, true, true, true, true, true, true, true, true, true, true, false, false, false, false, false, false, false, false] rfl rfl (by kernel_rfl) (fun _ _ _ h => h) (Or.inl ⟨by rfl, ?_⟩) ?_ ?_
  rotate_left
  · intro w'
    go_simp
    with_reducible rfl
  rotate_left
  · simp only [Act.put, List.setIfInBounds_toArray, List.set_cons_zero, List.set_cons_succ, i64_w, i32_w]
    rfl
  refine take_ (i := 13) (N := some 66) (v := ?_) (a' := ?_) #[true, true, true, true, true, true, true, true, true, true, true, true, true, true, false, false, false, false, false, false, false] rfl rfl (by kernel_rfl) (fun _ _ _ h => h) (Or.inl ⟨by rfl, ?_⟩) hHeld ?_ ?_
  rotate_left
  · rintro w' ⟨s0, s1, s2, s3⟩
    go_simp
    with_reducible rfl
  rotate_left
  · simp only [Act.put, List.setIfInBounds_toArray, List.set_cons_zero, List.set_cons_succ, i64_w, i32_w]
    rfl
  refine pure_ (i := 14) (N := some 67) (v := ?_) (a' := ?_) #[true, true, true, true, true, true, true, true, true, true, true, true, true, true, true, false, false, false, false, false, false] rfl rfl (by kernel_rfl) (fun _ _ _ h => h) (Or.inl ⟨by rfl, ?_⟩) ?_ ?_
  rotate_left
  · intro w'
    go_simp
    with_reducible rfl
  rotate_left
  · simp only [Act.put, List.setIfInBounds_toArray, List.set_cons_zero, List.set_cons_succ, i64_w, i32_w]
    rfl
  refine pure_ (i := 15) (N := some 68) (v := ?_) (a' := ?_) #[true, true, true, true, true, true, true, true, true, true, true, true, true, true, true, true, false, false, false, false, false] rfl rfl (by kernel_rfl) (fun _ _ _ h => h) (Or.inl ⟨by rfl, ?_⟩) ?_ ?_
  rotate_left
  · intro w'
    go_simp
    with_reducible rfl
  rotate_left
  · simp only [Act.put, List.setIfInBounds_toArray, List.set_cons_zero, List.set_cons_succ, i64_w, i32_w]
    rfl
  refine pure_ (i := 16) (N := some 69) (v := ?_) (a' := ?_) #[true, true, true, true, true, true, true, true, true, true, true, true, true, true, true, true, true, false, false, false, false] rfl rfl (by kernel_rfl) (fun _ _ _ h => h) (Or.inl ⟨by rfl, ?_⟩) ?_ ?_
  rotate_left
  · intro w'
    go_simp
    with_reducible rfl
  rotate_left
  · simp only [Act.put, List.setIfInBounds_toArray, List.set_cons_zero, List.set_cons_succ, i64_w, i32_w]
    rfl
  refine take_ (i := 17) (N := some 70) (v := ?_) (a' := ?_) #[true, true, true, true, true, true, true, true, true, true, true, true, true, true, true, true, true, true, false, false, false] rfl rfl (by kernel_rfl) (fun _ _ _ h => h) (Or.inl ⟨by rfl, ?_⟩) hHeld ?_ ?_
  rotate_left
  · rintro w' ⟨s0, s1, s2, s3⟩
    go_simp
    with_reducible rfl
  rotate_left
  · simp only [Act.put, List.setIfInBounds_toArray, List.set_cons_zero, List.set_cons_succ, i64_w, i32_w]
    rfl
  refine pure_ (i := 18) (N := some 71) (v := ?_) (a' := ?_) #[true, true, true, true, true, true, true, true, true, true, true, true, true, true, true, true, true, true, true, false, false] rfl rfl (by kernel_rfl) (fun _ _ _ h => h) (Or.inl ⟨by rfl, ?_⟩) ?_ ?_
  rotate_left
  · intro w'
    go_simp
    with_reducible rfl
  rotate_left
  · simp only [Act.put, List.setIfInBounds_toArray, List.set_cons_zero, List.set_cons_succ, i64_w, i32_w]
    rfl
  refine pure_ (i := 19) (N := some 72) (v := ?_) (a' := ?_) #[true, true, true, true, true, true, true, true, true, true, true, true, true, true, true, true, true, true, true, true, false] rfl rfl (by kernel_rfl) (fun _ _ _ h => h) (Or.inl ⟨by rfl, ?_⟩) ?_ ?_
  rotate_left
  · intro w'
    go_simp
    with_reducible rfl
  rotate_left
  · simp only [Act.put, List.setIfInBounds_toArray, List.set_cons_zero, List.set_cons_succ, i64_w, i32_w]
    rfl
  refine one_ (i := 20) (N := some 73) #[true, true, true, true, true, true, true, true, true, true, true, true, true, true, true, true, true, true, true, true, true] rfl rfl (by kernel_rfl) (by decide) (fun K hK => ?_)
  refine goes_ Tryd.func19 (by kernel_rfl) rfl #[.bool true] (by rfl) rfl rfl (by simp only [List.map_toArray, List.map_cons, List.map_nil]; rfl) ?_
  with_reducible refine (must_yes _).mono ?_
  rintro e w3 ⟨rfl, rfl⟩
  refine ⟨_, rfl, ?_⟩
  refine hK.out _ _ ⟨hHeld.1, hHeld.2.1, hHeld.2.2.1, hHeld.2.2.2⟩ (fun hHeld => ?_)
  clear hK K
  refine norm_ (a' := ?_) ?_ ?_
  rotate_left
  · show Act.put _ (some 73) _ = _
    simp only [Act.put, List.setIfInBounds_toArray, List.set_cons_zero, List.set_cons_succ, i64_w, i32_w]
    rfl
  refine done_ (by kernel_rfl) ?_
  clear hwc hj0 hj1 t1 t2 y1_ y2_ x1_ x2_ x3_ x4_ x5_ x6_ l_B q_B_0 q_B_1 q_B_2 q_B_3 q_B_4 q_B_5 q_B_6 q_B_7 q_B_8 q_B_9 l_K q_K_0
  clear hHeld
  have l_B : w.heap.size < w4.heap.size := blk_lt B.out
  have q_B_0 : w4.cell? ⟨w.heap.size, 0, none⟩ = some (.int .i64 0) := (blk_cell B.out 0).trans rfl
  have q_B_1 : w4.cell? ⟨w.heap.size, 1, none⟩ = some (.int .i64 off) := (blk_cell B.out 1).trans rfl
  have q_B_2 : w4.cell? ⟨w.heap.size, 2, none⟩ = some (.int .i64 d) := (blk_cell B.out 2).trans rfl
  have q_B_3 : w4.cell? ⟨w.heap.size, 3, none⟩ = some (.int .i64 p) := (blk_cell B.out 3).trans rfl
  have q_B_4 : w4.cell? ⟨w.heap.size, 4, none⟩ = some (.int .i64 0) := (blk_cell B.out 4).trans rfl
  have q_B_5 : w4.cell? ⟨w.heap.size, 5, none⟩ = some (.int .i64 0) := (blk_cell B.out 5).trans rfl
  have q_B_6 : w4.cell? ⟨w.heap.size, 6, none⟩ = some (.bool false) := (blk_cell B.out 6).trans rfl
  have q_B_7 : w4.cell? ⟨w.heap.size, 7, none⟩ = some (.int .i64 0) := (blk_cell B.out 7).trans rfl
  have q_B_8 : w4.cell? ⟨w.heap.size, 8, none⟩ = some (.int .u32 0) := (blk_cell B.out 8).trans rfl
  have q_B_9 : w4.cell? ⟨w.heap.size, 9, none⟩ = some (.int .u32 0) := (blk_cell B.out 9).trans rfl
  go_wp2_with fail
  clear l_B q_B_0 q_B_1 q_B_2 q_B_3 q_B_4 q_B_5 q_B_6 q_B_7 q_B_8 q_B_9
  have e0 : ((nx : Int) + (d : Int)) = ((nx + d : Nat) : Int) := by omega
  rw [e0]
  clear e0
  refine (pointers_any HE.out CK.out HI.out hd0_ hd1_ HV.out (by have := (objM_in hob).2; omega) (objM_in hob).2 (by omega)).mono ?_
  rintro e w5 (⟨q, hq, rfl, hg, hc⟩ | ⟨hq, rfl, hg⟩)
  · have hg' := GK.out.trans hg
    have HQ := Lib.hid hq
    clear hq hg
    go_wp2
    go_end0
    exact .inl ⟨q, HQ.out, rfl, hg', hc⟩
  · have hg' := GK.out.trans hg
    have HQ := Lib.hid hq
    clear hq hg
    go_wp2
    exact ⟨rfl, .inr ⟨HQ.out, rfl, hg'⟩⟩
end Go.Proofs.YtidglmocekghmaaDoor.Pr
end
section
namespace Go.Proofs.YtidglmocekghmaaDoor.Pr
open Go.RowKit Go.Proofs.YtidglmocekghmaaDoorW.PrintWords Go.Proofs.YtidglmocekghmaaDoorW.PrintLast Go.Proofs.YtidglmocekghmaaDoorW.PrintMore
set_option linter.unusedVariables false
set_option linter.unusedSimpArgs false
theorem structure_any {W0 w : World} {s : List Int} {cp g nx m : Nat} {D Wd O : Int} {sb so at_ : Nat} {depth : Int} (hE : Env W0 s (some ⟨sb, so, none⟩)) (hK : Ck W0 s (some ⟨sb, so, none⟩) cp D Wd O g nx m w) (w0 : Int)
    (ha : at_ ≤ 17592186040320) (hx : nx ≤ s.length) (hm : m ≤ 4611686018427387904) (hcp : s.length ≤ cp) {v : Nat → Nat → Nat → Option (Nat × Nat)} (hv : InM s v) (hd0_ : 0 ≤ depth) (hd1_ : depth ≤ 1000000) (hV : VisC W0 s (some ⟨sb, so, none⟩) cp D Wd O g v (depth + 1)) :
    Calls Tryd.prog 33 #[.pointer (some ⟨g, 0, none⟩), .int .i64 at_, .int .i64 depth, aggP 0 (offW w0) (dataW w0) (ptrsW w0) 0 0 false 0 0 0] w fun e w' => EndM W0 s (some ⟨sb, so, none⟩) cp D Wd O g w (structM s v at_ w0 nx m) e w' := by
  have ho := offW_bd w0
  have hdb := dataW_bd w0
  have hpb := ptrsW_bd w0
  obtain ⟨d, hd'⟩ : ∃ d : Nat, dataW w0 = (d : Int) := ⟨(dataW w0).toNat, by omega⟩
  obtain ⟨p, hp'⟩ : ∃ p : Nat, ptrsW w0 = (p : Int) := ⟨(ptrsW w0).toNat, by omega⟩
  unfold structM aggP
  rw [hd'] at hdb ⊢
  rw [hp'] at hpb ⊢
  dsimp only
  simp only [Int.toNat_natCast]
  generalize offW w0 = off at ho ⊢
  have hd : d ≤ 65535 := by omega
  have hp : p ≤ 65535 := by omega
  have bad : ∀ {r : Option (Nat × Nat)}, r = none → (Calls Tryd.prog 33 #[.pointer (some ⟨g, 0, none⟩), .int .i64 at_, .int .i64 depth, .agg #[.int .i64 0, .int .i64 off, .int .i64 d, .int .i64 p, .int .i64 0, .int .i64 0, .bool false, .int .i64 0, .int .u32 0, .int .u32 0]] w fun e w' => e = .panicked [{ v := .iface 47 (.agg #[]), recovered := false }] ∧ Gr g w w') →
      Calls Tryd.prog 33 #[.pointer (some ⟨g, 0, none⟩), .int .i64 at_, .int .i64 depth, .agg #[.int .i64 0, .int .i64 off, .int .i64 d, .int .i64 p, .int .i64 0, .int .i64 0, .bool false, .int .i64 0, .int .u32 0, .int .u32 0]] w fun e w' => EndM W0 s (some ⟨sb, so, none⟩) cp D Wd O g w r e w' :=
    fun hr h => h.mono fun e w' ⟨a, b⟩ => .inr ⟨hr, a, b⟩
  by_cases hdp : d + p = 0
  · rw [if_pos hdp]
    by_cases h1 : off = -1
    · rw [if_pos h1]
      exact (struct_0a hE hK ha ho.1 ho.2 hd hp hx hm hcp hdp h1).mono fun e w' ⟨a, b, c⟩ => .inl ⟨_, rfl, a, b, c⟩
    · rw [if_neg h1]
      exact bad rfl (struct_0b hE hK ha ho.1 ho.2 hd hp hx hm hcp hdp h1)
  · rw [if_neg hdp]
    by_cases hob : objM s at_ off (d + p) nx = true
    · rw [if_pos hob]
      by_cases hch : d + p ≤ m
      · rw [if_pos hch]
        unfold lastM
        by_cases hdz : d = 0
        · have e1 : (decide (d = 0) || decide (wd s (nx + d - 1) ≠ 0)) = true := by simp [hdz]
          rw [if_pos e1]
          by_cases hpz : p = 0
          · omega
          · by_cases hw2 : wd s (nx + d + p - 1) = 0
            · have e2 : ¬ (decide (p = 0) || decide (wd s (nx + d + p - 1) ≠ 0)) = true := by simp [hpz, hw2]
              rw [if_neg e2]
              exact bad rfl (struct_4z hE hK ha ho.1 ho.2 hd hp hx hm hcp hdp hob hch hdz hpz hw2)
            · have e2 : (decide (p = 0) || decide (wd s (nx + d + p - 1) ≠ 0)) = true := by simp [hw2]
              rw [if_pos e2]
              exact struct_5zn hE hK ha ho.1 ho.2 hd hp hx hm hcp hv hd0_ hd1_ hV hdp hob hch hdz hpz hw2
        · by_cases hw1 : wd s (nx + d - 1) = 0
          · have e1 : ¬ (decide (d = 0) || decide (wd s (nx + d - 1) ≠ 0)) = true := by simp [hdz, hw1]
            rw [if_neg e1]
            exact bad rfl (struct_3 hE hK ha ho.1 ho.2 hd hp hx hm hcp hdp hob hch hdz hw1)
          · have e1 : (decide (d = 0) || decide (wd s (nx + d - 1) ≠ 0)) = true := by simp [hw1]
            rw [if_pos e1]
            by_cases hpz : p = 0
            · have e2 : (decide (p = 0) || decide (wd s (nx + d + p - 1) ≠ 0)) = true := by simp [hpz]
              rw [if_pos e2]
              exact struct_5nz hE hK ha ho.1 ho.2 hd hp hx hm hcp hv hd0_ hd1_ hV hdp hob hch hdz hw1 hpz
            · by_cases hw2 : wd s (nx + d + p - 1) = 0
              · have e2 : ¬ (decide (p = 0) || decide (wd s (nx + d + p - 1) ≠ 0)) = true := by simp [hpz, hw2]
                rw [if_neg e2]
                exact bad rfl (struct_4n hE hK ha ho.1 ho.2 hd hp hx hm hcp hdp hob hch hdz hw1 hpz hw2)
              · have e2 : (decide (p = 0) || decide (wd s (nx + d + p - 1) ≠ 0)) = true := by simp [hw2]
                rw [if_pos e2]
                exact struct_5nn hE hK ha ho.1 ho.2 hd hp hx hm hcp hv hd0_ hd1_ hV hdp hob hch hdz hw1 hpz hw2
      · rw [if_neg hch]
        exact bad rfl (struct_2 hE hK ha ho.1 ho.2 hd hp hx hm hcp hdp hob hch)
    · rw [if_neg hob]
      exact bad rfl (struct_1 hE hK ha ho.1 ho.2 hd hp hx hm hcp hdp hob)
end Go.Proofs.YtidglmocekghmaaDoor.Pr
end
section
namespace Go.Proofs.YtidglmocekghmaaDoor.Pr
open Go.RowKit Go.Proofs.YtidglmocekghmaaDoorW.PrintWords Go.Proofs.YtidglmocekghmaaDoorW.PrintLast Go.Proofs.YtidglmocekghmaaDoorW.PrintMore
set_option linter.unusedVariables false
set_option linter.unusedSimpArgs false
theorem anyM_succ (s : List Int) (size : Nat) : ∀ k a, anyM s size (k + 1) a = (anyM s size k a || decide (wd s (a + k * size) ≠ 0))
  | 0, a => by simp [anyM]
  | k + 1, a => by
    rw [anyM, anyM_succ s size k (a + size), anyM, Bool.or_assoc, show a + (k + 1) * size = a + size + k * size by rw [Nat.add_mul]; omega]
theorem elemsM_succ (v : Nat → Nat → Nat → Option (Nat × Nat)) (p size k a nx m : Nat) : elemsM v p size (k + 1) a nx m = match ptrsM v p a nx m with | none => none | some r => elemsM v p size k (a + size) r.1 r.2 := rfl
theorem decV_agg (t : Int) : ∃ (o d p e c : Int) (b : Bool) (pa sg lo : Int), decV t = .agg #[.int .i64 (kindW t), .int .i64 o, .int .i64 d, .int .i64 p, .int .i64 e, .int .i64 c, .bool b, .int .i64 pa, .int .u32 sg, .int .u32 lo] ∧ -536870912 ≤ o ∧ o ≤ 536870911 ∧ 0 ≤ d ∧ d ≤ 65535 ∧ 0 ≤ p ∧ p ≤ 65535 ∧ (kindW t = 0 → o = offW t ∧ d = dataW t ∧ p = ptrsW t) := by
  have hb := kindW_bd t
  have h1 := offW_bd t
  have h2 := dataW_bd t
  have h3 := ptrsW_bd t
  unfold decV aggP
  split
  · rename_i h; rw [h]; exact ⟨_, _, _, _, _, _, _, _, _, rfl, h1.1, h1.2, h2.1, h2.2, h3.1, h3.2, fun _ => ⟨rfl, rfl, rfl⟩⟩
  split
  · rename_i h; rw [h]; exact ⟨_, _, _, _, _, _, _, _, _, rfl, h1.1, h1.2, by omega, by omega, by omega, by omega, fun h => by omega⟩
  split
  · rename_i h; rw [h]; exact ⟨_, _, _, _, _, _, _, _, _, rfl, by omega, by omega, by omega, by omega, by omega, by omega, fun h => by omega⟩
  · rw [show kindW t = 3 by omega]; exact ⟨_, _, _, _, _, _, _, _, _, rfl, by omega, by omega, by omega, by omega, by omega, by omega, fun h => by omega⟩
set_option maxHeartbeats 4000000 in
theorem comp_1 {W0 w : World} {s : List Int} {cp g nx m : Nat} {D Wd O : Int} {sb so at_ c : Nat} {off depth : Int} (hE : Env W0 s (some ⟨sb, so, none⟩)) (hK : Ck W0 s (some ⟨sb, so, none⟩) cp D Wd O g nx m w) (ha : at_ ≤ 17592186040320) (ho0 : -536870912 ≤ off) (ho1 : off ≤ 536870911) (hc0 : c ≤ 536870911) (hx : nx ≤ s.length) (hm : m ≤ 4611686018427387904) (hcp : s.length ≤ cp) (hob : ¬ objM s at_ off (c + 1) nx = true) :
    Calls Tryd.prog 59 #[.pointer (some ⟨g, 0, none⟩), .int .i64 at_, .int .i64 depth, .agg #[.int .i64 1, .int .i64 off, .int .i64 0, .int .i64 0, .int .i64 7, .int .i64 c, .bool false, .int .i64 0, .int .u32 0, .int .u32 0]] w fun e w' => e = .panicked [{ v := .iface 47 (.agg #[]), recovered := false }] ∧ Gr g w w' := by
  have HLEN := Lib.hid hE.len
  have hlen := hE.len
  have GK := Lib.hid (Gr.refl g w)
  have CK := Lib.hid hK
  have HE := Lib.hid hE
  clear hE hK
  go_enter Tryd.func59, Tryd.ntmps59
  go_wp2_with fail
  have lg : g < w.heap.size := blk_lt CK.out.blk
  refine calls_at (fun wa hW => ?_)
  have hb : Below w.heap.size w wa := by rw [hW]; exact (Below.refl _ _).alloc (Nat.le_refl _) _
  have nB : wa.heap[w.heap.size]? = some (.cells #[.int .i64 1, .int .i64 off, .int .i64 0, .int .i64 0, .int .i64 7, .int .i64 c, .bool false, .int .i64 0, .int .u32 0, .int .u32 0] 67 (0, 0)) := by rw [hW]; exact heap_alloc_new _ _
  have neB : w.heap.size ≠ g := by omega
  clear hW lg
  replace GK := Lib.hid (GK.out.then hb)
  replace CK := Lib.hid (CK.out.then hb)
  clear hb
  have B := Lib.hid nB
  clear nB
  have e0 : ((c : Int) + 1) = ((c + 1 : Nat) : Int) := by omega
  rw [e0]
  clear e0
  refine (object_no HE.out CK.out ha ⟨ho0, ho1⟩ (by omega) hx hcp hob).mono ?_
  rintro e w1 ⟨rfl, hg⟩
  have hg' := GK.out.trans hg
  clear hg
  go_wp2
  exact ⟨rfl, rfl, hg'⟩
set_option maxHeartbeats 4000000 in
theorem comp_2k {W0 w : World} {s : List Int} {cp g nx m : Nat} {D Wd O : Int} {sb so at_ c : Nat} {off depth : Int} {tk tO td tp te tc ta ts tl : Int} {tb : Bool} (hE : Env W0 s (some ⟨sb, so, none⟩)) (hK : Ck W0 s (some ⟨sb, so, none⟩) cp D Wd O g nx m w) (ha : at_ ≤ 17592186040320) (ho0 : -536870912 ≤ off) (ho1 : off ≤ 536870911) (hc0 : c ≤ 536870911) (hx : nx ≤ s.length) (hm : m ≤ 4611686018427387904) (hcp : s.length ≤ cp) (hob : objM s at_ off (c + 1) nx = true) (hDec : decV (wd s nx) = .agg #[.int .i64 tk, .int .i64 tO, .int .i64 td, .int .i64 tp, .int .i64 te, .int .i64 tc, .bool tb, .int .i64 ta, .int .u32 ts, .int .u32 tl]) (td0 : 0 ≤ td) (td1 : td ≤ 65535) (tp0 : 0 ≤ tp) (tp1 : tp ≤ 65535) (hk : ¬ tk = 0)  :
    Calls Tryd.prog 59 #[.pointer (some ⟨g, 0, none⟩), .int .i64 at_, .int .i64 depth, .agg #[.int .i64 1, .int .i64 off, .int .i64 0, .int .i64 0, .int .i64 7, .int .i64 c, .bool false, .int .i64 0, .int .u32 0, .int .u32 0]] w fun e w' => e = .panicked [{ v := .iface 47 (.agg #[]), recovered := false }] ∧ Gr g w w' := by
  have HLEN := Lib.hid hE.len
  have hlen := hE.len
  have HDEC := Lib.hid hDec
  clear hDec
  have t1 : (tk == 0) = false := beq_eq_false_iff_ne.2 hk
  have GK := Lib.hid (Gr.refl g w)
  have CK := Lib.hid hK
  have HE := Lib.hid hE
  clear hE hK
  go_enter Tryd.func59, Tryd.ntmps59
  go_wp2_with fail
  have lg : g < w.heap.size := blk_lt CK.out.blk
  refine calls_at (fun wa hW => ?_)
  have hb : Below w.heap.size w wa := by rw [hW]; exact (Below.refl _ _).alloc (Nat.le_refl _) _
  have nB : wa.heap[w.heap.size]? = some (.cells #[.int .i64 1, .int .i64 off, .int .i64 0, .int .i64 0, .int .i64 7, .int .i64 c, .bool false, .int .i64 0, .int .u32 0, .int .u32 0] 67 (0, 0)) := by rw [hW]; exact heap_alloc_new _ _
  have neB : w.heap.size ≠ g := by omega
  clear hW lg
  replace GK := Lib.hid (GK.out.then hb)
  replace CK := Lib.hid (CK.out.then hb)
  clear hb
  have B := Lib.hid nB
  clear nB
  have e0 : ((c : Int) + 1) = ((c + 1 : Nat) : Int) := by omega
  rw [e0]
  clear e0
  refine (object_yes HE.out CK.out ha ⟨ho0, ho1⟩ (by omega) hx hcp hob).mono ?_
  rintro e w1 ⟨rfl, hg, hc⟩
  have gB : Hid (Gr g wa w1) := Lib.hid hg
  replace B := Lib.hid (gB.out.blk B.out neB)
  replace GK := Lib.hid (GK.out.trans gB.out)
  clear gB
  clear CK
  have CK := Lib.hid hc
  clear hg hc
  have hnl : nx < s.length := by have := (objM_in hob).2; omega
  have hwc := wd_cell HE.out CK.out.below hnl
  have hwr := HE.out.word nx
  have hn0 : (0 : Int) ≤ (nx : Int) := Int.natCast_nonneg _
  have hn1 : (nx : Int) < (s.length : Int) := by omega
  clear hnl
  have l_K : g < w1.heap.size := blk_lt CK.out.blk
  have q_K_0 : w1.cell? ⟨g, 0, none⟩ = some (.slice (some ⟨sb, so, none⟩) s.length cp) := (blk_cell CK.out.blk 0).trans rfl
  go_wp2_with fail
  clear hwc hn0 hn1 l_K q_K_0
  refine (decode_any (wd s nx) w1 hwr.1 hwr.2 (HE.out.dec.below CK.out.below)).mono ?_
  rw [HDEC.out]
  rintro e w2 ⟨rfl, hb⟩
  replace GK := Lib.hid (GK.out.then hb)
  replace CK := Lib.hid (CK.out.then hb)
  replace B := Lib.hid (blk_below B.out hb)
  clear hb hwr
  have l_B : w.heap.size < w2.heap.size := blk_lt B.out
  have q_B_0 : w2.cell? ⟨w.heap.size, 0, none⟩ = some (.int .i64 1) := (blk_cell B.out 0).trans rfl
  have q_B_1 : w2.cell? ⟨w.heap.size, 1, none⟩ = some (.int .i64 off) := (blk_cell B.out 1).trans rfl
  have q_B_2 : w2.cell? ⟨w.heap.size, 2, none⟩ = some (.int .i64 0) := (blk_cell B.out 2).trans rfl
  have q_B_3 : w2.cell? ⟨w.heap.size, 3, none⟩ = some (.int .i64 0) := (blk_cell B.out 3).trans rfl
  have q_B_4 : w2.cell? ⟨w.heap.size, 4, none⟩ = some (.int .i64 7) := (blk_cell B.out 4).trans rfl
  have q_B_5 : w2.cell? ⟨w.heap.size, 5, none⟩ = some (.int .i64 c) := (blk_cell B.out 5).trans rfl
  have q_B_6 : w2.cell? ⟨w.heap.size, 6, none⟩ = some (.bool false) := (blk_cell B.out 6).trans rfl
  have q_B_7 : w2.cell? ⟨w.heap.size, 7, none⟩ = some (.int .i64 0) := (blk_cell B.out 7).trans rfl
  have q_B_8 : w2.cell? ⟨w.heap.size, 8, none⟩ = some (.int .u32 0) := (blk_cell B.out 8).trans rfl
  have q_B_9 : w2.cell? ⟨w.heap.size, 9, none⟩ = some (.int .u32 0) := (blk_cell B.out 9).trans rfl
  go_wp2_with fail
  clear l_B q_B_0 q_B_1 q_B_2 q_B_3 q_B_4 q_B_5 q_B_6 q_B_7 q_B_8 q_B_9
  refine calls_at (fun wt hW => ?_)
  have hb : Below w2.heap.size w2 wt := by rw [hW]; exact (Below.refl _ _).alloc (Nat.le_refl _) _
  have hlc : w.heap.size < w2.heap.size := blk_lt B.out
  have hlg : g < w2.heap.size := blk_lt CK.out.blk
  obtain ⟨gt, hgt⟩ : ∃ n, w2.heap.size = n := ⟨_, rfl⟩
  have neT : gt ≠ g := by omega
  have nT : wt.heap[gt]? = some (.cells #[.int .i64 tk, .int .i64 tO, .int .i64 td, .int .i64 tp, .int .i64 te, .int .i64 tc, .bool tb, .int .i64 ta, .int .u32 ts, .int .u32 tl] 67 (0, 0)) := by rw [hW, ← hgt]; exact heap_alloc_new _ _
  rw [hgt]
  clear hW hlc hlg hgt
  replace GK := Lib.hid (GK.out.then hb)
  replace CK := Lib.hid (CK.out.then hb)
  replace B := Lib.hid (blk_below B.out hb)
  clear hb
  have T := Lib.hid nT
  clear nT
  refine (must_no _).mono ?_
  rintro e wy ⟨rfl, rfl⟩
  go_wp2
  exact ⟨rfl, rfl, GK.out⟩
set_option maxHeartbeats 4000000 in
theorem comp_2o {W0 w : World} {s : List Int} {cp g nx m : Nat} {D Wd O : Int} {sb so at_ c : Nat} {off depth : Int} {tO td tp te tc ta ts tl : Int} {tb : Bool} (hE : Env W0 s (some ⟨sb, so, none⟩)) (hK : Ck W0 s (some ⟨sb, so, none⟩) cp D Wd O g nx m w) (ha : at_ ≤ 17592186040320) (ho0 : -536870912 ≤ off) (ho1 : off ≤ 536870911) (hc0 : c ≤ 536870911) (hx : nx ≤ s.length) (hm : m ≤ 4611686018427387904) (hcp : s.length ≤ cp) (hob : objM s at_ off (c + 1) nx = true) (hDec : decV (wd s nx) = .agg #[.int .i64 0, .int .i64 tO, .int .i64 td, .int .i64 tp, .int .i64 te, .int .i64 tc, .bool tb, .int .i64 ta, .int .u32 ts, .int .u32 tl]) (td0 : 0 ≤ td) (td1 : td ≤ 65535) (tp0 : 0 ≤ tp) (tp1 : tp ≤ 65535) (ho : ¬ 0 ≤ tO)  :
    Calls Tryd.prog 59 #[.pointer (some ⟨g, 0, none⟩), .int .i64 at_, .int .i64 depth, .agg #[.int .i64 1, .int .i64 off, .int .i64 0, .int .i64 0, .int .i64 7, .int .i64 c, .bool false, .int .i64 0, .int .u32 0, .int .u32 0]] w fun e w' => e = .panicked [{ v := .iface 47 (.agg #[]), recovered := false }] ∧ Gr g w w' := by
  have HLEN := Lib.hid hE.len
  have hlen := hE.len
  have HDEC := Lib.hid hDec
  clear hDec
  have t2 : decide (0 ≤ tO) = false := decide_eq_false ho
  have GK := Lib.hid (Gr.refl g w)
  have CK := Lib.hid hK
  have HE := Lib.hid hE
  clear hE hK
  go_enter Tryd.func59, Tryd.ntmps59
  go_wp2_with fail
  have lg : g < w.heap.size := blk_lt CK.out.blk
  refine calls_at (fun wa hW => ?_)
  have hb : Below w.heap.size w wa := by rw [hW]; exact (Below.refl _ _).alloc (Nat.le_refl _) _
  have nB : wa.heap[w.heap.size]? = some (.cells #[.int .i64 1, .int .i64 off, .int .i64 0, .int .i64 0, .int .i64 7, .int .i64 c, .bool false, .int .i64 0, .int .u32 0, .int .u32 0] 67 (0, 0)) := by rw [hW]; exact heap_alloc_new _ _
  have neB : w.heap.size ≠ g := by omega
  clear hW lg
  replace GK := Lib.hid (GK.out.then hb)
  replace CK := Lib.hid (CK.out.then hb)
  clear hb
  have B := Lib.hid nB
  clear nB
  have e0 : ((c : Int) + 1) = ((c + 1 : Nat) : Int) := by omega
  rw [e0]
  clear e0
  refine (object_yes HE.out CK.out ha ⟨ho0, ho1⟩ (by omega) hx hcp hob).mono ?_
  rintro e w1 ⟨rfl, hg, hc⟩
  have gB : Hid (Gr g wa w1) := Lib.hid hg
  replace B := Lib.hid (gB.out.blk B.out neB)
  replace GK := Lib.hid (GK.out.trans gB.out)
  clear gB
  clear CK
  have CK := Lib.hid hc
  clear hg hc
  have hnl : nx < s.length := by have := (objM_in hob).2; omega
  have hwc := wd_cell HE.out CK.out.below hnl
  have hwr := HE.out.word nx
  have hn0 : (0 : Int) ≤ (nx : Int) := Int.natCast_nonneg _
  have hn1 : (nx : Int) < (s.length : Int) := by omega
  clear hnl
  have l_K : g < w1.heap.size := blk_lt CK.out.blk
  have q_K_0 : w1.cell? ⟨g, 0, none⟩ = some (.slice (some ⟨sb, so, none⟩) s.length cp) := (blk_cell CK.out.blk 0).trans rfl
  go_wp2_with fail
  clear hwc hn0 hn1 l_K q_K_0
  refine (decode_any (wd s nx) w1 hwr.1 hwr.2 (HE.out.dec.below CK.out.below)).mono ?_
  rw [HDEC.out]
  rintro e w2 ⟨rfl, hb⟩
  replace GK := Lib.hid (GK.out.then hb)
  replace CK := Lib.hid (CK.out.then hb)
  replace B := Lib.hid (blk_below B.out hb)
  clear hb hwr
  have l_B : w.heap.size < w2.heap.size := blk_lt B.out
  have q_B_0 : w2.cell? ⟨w.heap.size, 0, none⟩ = some (.int .i64 1) := (blk_cell B.out 0).trans rfl
  have q_B_1 : w2.cell? ⟨w.heap.size, 1, none⟩ = some (.int .i64 off) := (blk_cell B.out 1).trans rfl
  have q_B_2 : w2.cell? ⟨w.heap.size, 2, none⟩ = some (.int .i64 0) := (blk_cell B.out 2).trans rfl
  have q_B_3 : w2.cell? ⟨w.heap.size, 3, none⟩ = some (.int .i64 0) := (blk_cell B.out 3).trans rfl
  have q_B_4 : w2.cell? ⟨w.heap.size, 4, none⟩ = some (.int .i64 7) := (blk_cell B.out 4).trans rfl
  have q_B_5 : w2.cell? ⟨w.heap.size, 5, none⟩ = some (.int .i64 c) := (blk_cell B.out 5).trans rfl
  have q_B_6 : w2.cell? ⟨w.heap.size, 6, none⟩ = some (.bool false) := (blk_cell B.out 6).trans rfl
  have q_B_7 : w2.cell? ⟨w.heap.size, 7, none⟩ = some (.int .i64 0) := (blk_cell B.out 7).trans rfl
  have q_B_8 : w2.cell? ⟨w.heap.size, 8, none⟩ = some (.int .u32 0) := (blk_cell B.out 8).trans rfl
  have q_B_9 : w2.cell? ⟨w.heap.size, 9, none⟩ = some (.int .u32 0) := (blk_cell B.out 9).trans rfl
  go_wp2_with fail
  clear l_B q_B_0 q_B_1 q_B_2 q_B_3 q_B_4 q_B_5 q_B_6 q_B_7 q_B_8 q_B_9
  refine calls_at (fun wt hW => ?_)
  have hb : Below w2.heap.size w2 wt := by rw [hW]; exact (Below.refl _ _).alloc (Nat.le_refl _) _
  have hlc : w.heap.size < w2.heap.size := blk_lt B.out
  have hlg : g < w2.heap.size := blk_lt CK.out.blk
  obtain ⟨gt, hgt⟩ : ∃ n, w2.heap.size = n := ⟨_, rfl⟩
  have neT : gt ≠ g := by omega
  have nT : wt.heap[gt]? = some (.cells #[.int .i64 0, .int .i64 tO, .int .i64 td, .int .i64 tp, .int .i64 te, .int .i64 tc, .bool tb, .int .i64 ta, .int .u32 ts, .int .u32 tl] 67 (0, 0)) := by rw [hW, ← hgt]; exact heap_alloc_new _ _
  rw [hgt]
  clear hW hlc hlg hgt
  replace GK := Lib.hid (GK.out.then hb)
  replace CK := Lib.hid (CK.out.then hb)
  replace B := Lib.hid (blk_below B.out hb)
  clear hb
  have T := Lib.hid nT
  clear nT
  refine (must_no _).mono ?_
  rintro e wy ⟨rfl, rfl⟩
  go_wp2
  exact ⟨rfl, rfl, GK.out⟩
set_option maxHeartbeats 4000000 in
theorem comp_2m {W0 w : World} {s : List Int} {cp g nx m : Nat} {D Wd O : Int} {sb so at_ c : Nat} {off depth : Int} {K d p sz qq : Nat} {te tc ta ts tl : Int} {tb : Bool} (hE : Env W0 s (some ⟨sb, so, none⟩)) (hK : Ck W0 s (some ⟨sb, so, none⟩) cp D Wd O g nx m w) (ha : at_ ≤ 17592186040320) (ho0 : -536870912 ≤ off) (ho1 : off ≤ 536870911) (hc0 : c ≤ 536870911) (hx : nx ≤ s.length) (hm : m ≤ 4611686018427387904) (hcp : s.length ≤ cp) (hob : objM s at_ off (c + 1) nx = true) (hDec : decV (wd s nx) = .agg #[.int .i64 0, .int .i64 (K : Int), .int .i64 (d : Int), .int .i64 (p : Int), .int .i64 te, .int .i64 tc, .bool tb, .int .i64 ta, .int .u32 ts, .int .u32 tl]) (hK1 : K ≤ 536870911) (hd : d ≤ 65535) (hp : p ≤ 65535) (hsz : d + p = sz) (hqq : K * sz = qq) (hq1 : qq ≤ 1152921504606846976) (hqc : ¬ qq = c)  :
    Calls Tryd.prog 59 #[.pointer (some ⟨g, 0, none⟩), .int .i64 at_, .int .i64 depth, .agg #[.int .i64 1, .int .i64 off, .int .i64 0, .int .i64 0, .int .i64 7, .int .i64 c, .bool false, .int .i64 0, .int .u32 0, .int .u32 0]] w fun e w' => e = .panicked [{ v := .iface 47 (.agg #[]), recovered := false }] ∧ Gr g w w' := by
  have HLEN := Lib.hid hE.len
  have hlen := hE.len
  have HDEC := Lib.hid hDec
  clear hDec
  have HSZ := Lib.hid hsz
  have HQC := Lib.hid hqc
  have z0 : (sz : Int) ≤ 131072 := by omega
  have z1 : (0 : Int) ≤ (sz : Int) := Int.natCast_nonneg _
  have z2 : (0 : Int) ≤ (K : Int) := Int.natCast_nonneg _
  clear hqc
  have HQQ := Lib.hid hqq
  clear hqq
  have t3 : ((qq : Int) == (c : Int)) = false := beq_eq_false_iff_ne.2 (fun e => HQC.out (by omega))
  have z3 : (qq : Int) ≤ 1152921504606846976 := by omega
  have z4 : (0 : Int) ≤ (qq : Int) := Int.natCast_nonneg _
  have e_sz : (d : Int) + (p : Int) = (sz : Int) := by omega
  clear hsz
  have e_q : (K : Int) * (sz : Int) = (qq : Int) := by have := HQQ.out; rw [← this]; simp
  have GK := Lib.hid (Gr.refl g w)
  have CK := Lib.hid hK
  have HE := Lib.hid hE
  clear hE hK
  go_enter Tryd.func59, Tryd.ntmps59
  go_wp2_with fail
  have lg : g < w.heap.size := blk_lt CK.out.blk
  refine calls_at (fun wa hW => ?_)
  have hb : Below w.heap.size w wa := by rw [hW]; exact (Below.refl _ _).alloc (Nat.le_refl _) _
  have nB : wa.heap[w.heap.size]? = some (.cells #[.int .i64 1, .int .i64 off, .int .i64 0, .int .i64 0, .int .i64 7, .int .i64 c, .bool false, .int .i64 0, .int .u32 0, .int .u32 0] 67 (0, 0)) := by rw [hW]; exact heap_alloc_new _ _
  have neB : w.heap.size ≠ g := by omega
  clear hW lg
  replace GK := Lib.hid (GK.out.then hb)
  replace CK := Lib.hid (CK.out.then hb)
  clear hb
  have B := Lib.hid nB
  clear nB
  have e0 : ((c : Int) + 1) = ((c + 1 : Nat) : Int) := by omega
  rw [e0]
  clear e0
  refine (object_yes HE.out CK.out ha ⟨ho0, ho1⟩ (by omega) hx hcp hob).mono ?_
  rintro e w1 ⟨rfl, hg, hc⟩
  have gB : Hid (Gr g wa w1) := Lib.hid hg
  replace B := Lib.hid (gB.out.blk B.out neB)
  replace GK := Lib.hid (GK.out.trans gB.out)
  clear gB
  clear CK
  have CK := Lib.hid hc
  clear hg hc
  have hnl : nx < s.length := by have := (objM_in hob).2; omega
  have hwc := wd_cell HE.out CK.out.below hnl
  have hwr := HE.out.word nx
  have hn0 : (0 : Int) ≤ (nx : Int) := Int.natCast_nonneg _
  have hn1 : (nx : Int) < (s.length : Int) := by omega
  clear hnl
  have l_K : g < w1.heap.size := blk_lt CK.out.blk
  have q_K_0 : w1.cell? ⟨g, 0, none⟩ = some (.slice (some ⟨sb, so, none⟩) s.length cp) := (blk_cell CK.out.blk 0).trans rfl
  go_wp2_with fail
  clear hwc hn0 hn1 l_K q_K_0
  refine (decode_any (wd s nx) w1 hwr.1 hwr.2 (HE.out.dec.below CK.out.below)).mono ?_
  rw [HDEC.out]
  rintro e w2 ⟨rfl, hb⟩
  replace GK := Lib.hid (GK.out.then hb)
  replace CK := Lib.hid (CK.out.then hb)
  replace B := Lib.hid (blk_below B.out hb)
  clear hb hwr
  have l_B : w.heap.size < w2.heap.size := blk_lt B.out
  have q_B_0 : w2.cell? ⟨w.heap.size, 0, none⟩ = some (.int .i64 1) := (blk_cell B.out 0).trans rfl
  have q_B_1 : w2.cell? ⟨w.heap.size, 1, none⟩ = some (.int .i64 off) := (blk_cell B.out 1).trans rfl
  have q_B_2 : w2.cell? ⟨w.heap.size, 2, none⟩ = some (.int .i64 0) := (blk_cell B.out 2).trans rfl
  have q_B_3 : w2.cell? ⟨w.heap.size, 3, none⟩ = some (.int .i64 0) := (blk_cell B.out 3).trans rfl
  have q_B_4 : w2.cell? ⟨w.heap.size, 4, none⟩ = some (.int .i64 7) := (blk_cell B.out 4).trans rfl
  have q_B_5 : w2.cell? ⟨w.heap.size, 5, none⟩ = some (.int .i64 c) := (blk_cell B.out 5).trans rfl
  have q_B_6 : w2.cell? ⟨w.heap.size, 6, none⟩ = some (.bool false) := (blk_cell B.out 6).trans rfl
  have q_B_7 : w2.cell? ⟨w.heap.size, 7, none⟩ = some (.int .i64 0) := (blk_cell B.out 7).trans rfl
  have q_B_8 : w2.cell? ⟨w.heap.size, 8, none⟩ = some (.int .u32 0) := (blk_cell B.out 8).trans rfl
  have q_B_9 : w2.cell? ⟨w.heap.size, 9, none⟩ = some (.int .u32 0) := (blk_cell B.out 9).trans rfl
  go_wp2_with fail
  clear l_B q_B_0 q_B_1 q_B_2 q_B_3 q_B_4 q_B_5 q_B_6 q_B_7 q_B_8 q_B_9
  refine calls_at (fun wt hW => ?_)
  have hb : Below w2.heap.size w2 wt := by rw [hW]; exact (Below.refl _ _).alloc (Nat.le_refl _) _
  have hlc : w.heap.size < w2.heap.size := blk_lt B.out
  have hlg : g < w2.heap.size := blk_lt CK.out.blk
  obtain ⟨gt, hgt⟩ : ∃ n, w2.heap.size = n := ⟨_, rfl⟩
  have neT : gt ≠ g := by omega
  have nT : wt.heap[gt]? = some (.cells #[.int .i64 0, .int .i64 (K : Int), .int .i64 (d : Int), .int .i64 (p : Int), .int .i64 te, .int .i64 tc, .bool tb, .int .i64 ta, .int .u32 ts, .int .u32 tl] 67 (0, 0)) := by rw [hW, ← hgt]; exact heap_alloc_new _ _
  rw [hgt]
  clear hW hlc hlg hgt
  replace GK := Lib.hid (GK.out.then hb)
  replace CK := Lib.hid (CK.out.then hb)
  replace B := Lib.hid (blk_below B.out hb)
  clear hb
  have T := Lib.hid nT
  clear nT
  refine (must_no _).mono ?_
  rintro e wy ⟨rfl, rfl⟩
  go_wp2
  exact ⟨rfl, rfl, GK.out⟩
set_option maxHeartbeats 4000000 in
theorem comp_3 {W0 w : World} {s : List Int} {cp g nx m : Nat} {D Wd O : Int} {sb so at_ c : Nat} {off depth : Int} {K d p sz : Nat} {te tc ta ts tl : Int} {tb : Bool} (hE : Env W0 s (some ⟨sb, so, none⟩)) (hK : Ck W0 s (some ⟨sb, so, none⟩) cp D Wd O g nx m w) (ha : at_ ≤ 17592186040320) (ho0 : -536870912 ≤ off) (ho1 : off ≤ 536870911) (hc0 : c ≤ 536870911) (hx : nx ≤ s.length) (hm : m ≤ 4611686018427387904) (hcp : s.length ≤ cp) (hob : objM s at_ off (c + 1) nx = true) (hDec : decV (wd s nx) = .agg #[.int .i64 0, .int .i64 (K : Int), .int .i64 (d : Int), .int .i64 (p : Int), .int .i64 te, .int .i64 tc, .bool tb, .int .i64 ta, .int .u32 ts, .int .u32 tl]) (hK1 : K ≤ 536870911) (hd : d ≤ 65535) (hp : p ≤ 65535) (hsz : d + p = sz) (hqc : K * sz = c) (hch : ¬ c + 1 ≤ m) :
    Calls Tryd.prog 59 #[.pointer (some ⟨g, 0, none⟩), .int .i64 at_, .int .i64 depth, .agg #[.int .i64 1, .int .i64 off, .int .i64 0, .int .i64 0, .int .i64 7, .int .i64 c, .bool false, .int .i64 0, .int .u32 0, .int .u32 0]] w fun e w' => e = .panicked [{ v := .iface 47 (.agg #[]), recovered := false }] ∧ Gr g w w' := by
  have HLEN := Lib.hid hE.len
  have hlen := hE.len
  have HDEC := Lib.hid hDec
  clear hDec
  have HSZ := Lib.hid hsz
  have HQC := Lib.hid hqc
  have z0 : (sz : Int) ≤ 131072 := by omega
  have z1 : (0 : Int) ≤ (sz : Int) := Int.natCast_nonneg _
  have z2 : (0 : Int) ≤ (K : Int) := Int.natCast_nonneg _
  clear hqc
  have e_sz : (d : Int) + (p : Int) = (sz : Int) := by omega
  clear hsz
  have e_q : (K : Int) * (sz : Int) = (c : Int) := by have := HQC.out; rw [← this]; simp
  have GK := Lib.hid (Gr.refl g w)
  have CK := Lib.hid hK
  have HE := Lib.hid hE
  clear hE hK
  go_enter Tryd.func59, Tryd.ntmps59
  go_wp2_with fail
  have lg : g < w.heap.size := blk_lt CK.out.blk
  refine calls_at (fun wa hW => ?_)
  have hb : Below w.heap.size w wa := by rw [hW]; exact (Below.refl _ _).alloc (Nat.le_refl _) _
  have nB : wa.heap[w.heap.size]? = some (.cells #[.int .i64 1, .int .i64 off, .int .i64 0, .int .i64 0, .int .i64 7, .int .i64 c, .bool false, .int .i64 0, .int .u32 0, .int .u32 0] 67 (0, 0)) := by rw [hW]; exact heap_alloc_new _ _
  have neB : w.heap.size ≠ g := by omega
  clear hW lg
  replace GK := Lib.hid (GK.out.then hb)
  replace CK := Lib.hid (CK.out.then hb)
  clear hb
  have B := Lib.hid nB
  clear nB
  have e0 : ((c : Int) + 1) = ((c + 1 : Nat) : Int) := by omega
  rw [e0]
  clear e0
  refine (object_yes HE.out CK.out ha ⟨ho0, ho1⟩ (by omega) hx hcp hob).mono ?_
  rintro e w1 ⟨rfl, hg, hc⟩
  have gB : Hid (Gr g wa w1) := Lib.hid hg
  replace B := Lib.hid (gB.out.blk B.out neB)
  replace GK := Lib.hid (GK.out.trans gB.out)
  clear gB
  clear CK
  have CK := Lib.hid hc
  clear hg hc
  have hnl : nx < s.length := by have := (objM_in hob).2; omega
  have hwc := wd_cell HE.out CK.out.below hnl
  have hwr := HE.out.word nx
  have hn0 : (0 : Int) ≤ (nx : Int) := Int.natCast_nonneg _
  have hn1 : (nx : Int) < (s.length : Int) := by omega
  clear hnl
  have l_K : g < w1.heap.size := blk_lt CK.out.blk
  have q_K_0 : w1.cell? ⟨g, 0, none⟩ = some (.slice (some ⟨sb, so, none⟩) s.length cp) := (blk_cell CK.out.blk 0).trans rfl
  go_wp2_with fail
  clear hwc hn0 hn1 l_K q_K_0
  refine (decode_any (wd s nx) w1 hwr.1 hwr.2 (HE.out.dec.below CK.out.below)).mono ?_
  rw [HDEC.out]
  rintro e w2 ⟨rfl, hb⟩
  replace GK := Lib.hid (GK.out.then hb)
  replace CK := Lib.hid (CK.out.then hb)
  replace B := Lib.hid (blk_below B.out hb)
  clear hb hwr
  have l_B : w.heap.size < w2.heap.size := blk_lt B.out
  have q_B_0 : w2.cell? ⟨w.heap.size, 0, none⟩ = some (.int .i64 1) := (blk_cell B.out 0).trans rfl
  have q_B_1 : w2.cell? ⟨w.heap.size, 1, none⟩ = some (.int .i64 off) := (blk_cell B.out 1).trans rfl
  have q_B_2 : w2.cell? ⟨w.heap.size, 2, none⟩ = some (.int .i64 0) := (blk_cell B.out 2).trans rfl
  have q_B_3 : w2.cell? ⟨w.heap.size, 3, none⟩ = some (.int .i64 0) := (blk_cell B.out 3).trans rfl
  have q_B_4 : w2.cell? ⟨w.heap.size, 4, none⟩ = some (.int .i64 7) := (blk_cell B.out 4).trans rfl
  have q_B_5 : w2.cell? ⟨w.heap.size, 5, none⟩ = some (.int .i64 c) := (blk_cell B.out 5).trans rfl
  have q_B_6 : w2.cell? ⟨w.heap.size, 6, none⟩ = some (.bool false) := (blk_cell B.out 6).trans rfl
  have q_B_7 : w2.cell? ⟨w.heap.size, 7, none⟩ = some (.int .i64 0) := (blk_cell B.out 7).trans rfl
  have q_B_8 : w2.cell? ⟨w.heap.size, 8, none⟩ = some (.int .u32 0) := (blk_cell B.out 8).trans rfl
  have q_B_9 : w2.cell? ⟨w.heap.size, 9, none⟩ = some (.int .u32 0) := (blk_cell B.out 9).trans rfl
  go_wp2_with fail
  clear l_B q_B_0 q_B_1 q_B_2 q_B_3 q_B_4 q_B_5 q_B_6 q_B_7 q_B_8 q_B_9
  refine calls_at (fun wt hW => ?_)
  have hb : Below w2.heap.size w2 wt := by rw [hW]; exact (Below.refl _ _).alloc (Nat.le_refl _) _
  have hlc : w.heap.size < w2.heap.size := blk_lt B.out
  have hlg : g < w2.heap.size := blk_lt CK.out.blk
  obtain ⟨gt, hgt⟩ : ∃ n, w2.heap.size = n := ⟨_, rfl⟩
  have neT : gt ≠ g := by omega
  have nT : wt.heap[gt]? = some (.cells #[.int .i64 0, .int .i64 (K : Int), .int .i64 (d : Int), .int .i64 (p : Int), .int .i64 te, .int .i64 tc, .bool tb, .int .i64 ta, .int .u32 ts, .int .u32 tl] 67 (0, 0)) := by rw [hW, ← hgt]; exact heap_alloc_new _ _
  rw [hgt]
  clear hW hlc hlg hgt
  replace GK := Lib.hid (GK.out.then hb)
  replace CK := Lib.hid (CK.out.then hb)
  replace B := Lib.hid (blk_below B.out hb)
  clear hb
  have T := Lib.hid nT
  clear nT
  refine (must_yes _).mono ?_
  rintro e wy ⟨rfl, rfl⟩
  clear e_sz e_q
  have l_B : w.heap.size < wt.heap.size := blk_lt B.out
  have q_B_0 : wt.cell? ⟨w.heap.size, 0, none⟩ = some (.int .i64 1) := (blk_cell B.out 0).trans rfl
  have q_B_1 : wt.cell? ⟨w.heap.size, 1, none⟩ = some (.int .i64 off) := (blk_cell B.out 1).trans rfl
  have q_B_2 : wt.cell? ⟨w.heap.size, 2, none⟩ = some (.int .i64 0) := (blk_cell B.out 2).trans rfl
  have q_B_3 : wt.cell? ⟨w.heap.size, 3, none⟩ = some (.int .i64 0) := (blk_cell B.out 3).trans rfl
  have q_B_4 : wt.cell? ⟨w.heap.size, 4, none⟩ = some (.int .i64 7) := (blk_cell B.out 4).trans rfl
  have q_B_5 : wt.cell? ⟨w.heap.size, 5, none⟩ = some (.int .i64 c) := (blk_cell B.out 5).trans rfl
  have q_B_6 : wt.cell? ⟨w.heap.size, 6, none⟩ = some (.bool false) := (blk_cell B.out 6).trans rfl
  have q_B_7 : wt.cell? ⟨w.heap.size, 7, none⟩ = some (.int .i64 0) := (blk_cell B.out 7).trans rfl
  have q_B_8 : wt.cell? ⟨w.heap.size, 8, none⟩ = some (.int .u32 0) := (blk_cell B.out 8).trans rfl
  have q_B_9 : wt.cell? ⟨w.heap.size, 9, none⟩ = some (.int .u32 0) := (blk_cell B.out 9).trans rfl
  go_wp2_with fail
  clear l_B q_B_0 q_B_1 q_B_2 q_B_3 q_B_4 q_B_5 q_B_6 q_B_7 q_B_8 q_B_9
  have e0 : ((c : Int) + 1) = ((c + 1 : Nat) : Int) := by omega
  rw [e0]
  clear e0
  refine (charge_bad HE.out CK.out hch (by omega) (by omega)).mono ?_
  rintro e w3 (⟨q, hq, _⟩ | ⟨_, rfl, hg⟩)
  · cases hq
  have hg' := GK.out.trans hg
  clear hg
  go_wp2
  exact ⟨rfl, rfl, hg'⟩
set_option maxHeartbeats 4000000 in
theorem comp_4a {W0 w : World} {s : List Int} {cp g nx m : Nat} {D Wd O : Int} {sb so at_ c : Nat} {off depth : Int} {K d p sz : Nat} {te tc ta ts tl : Int} {tb : Bool} (hE : Env W0 s (some ⟨sb, so, none⟩)) (hK : Ck W0 s (some ⟨sb, so, none⟩) cp D Wd O g nx m w) (ha : at_ ≤ 17592186040320) (ho0 : -536870912 ≤ off) (ho1 : off ≤ 536870911) (hc0 : c ≤ 536870911) (hx : nx ≤ s.length) (hm : m ≤ 4611686018427387904) (hcp : s.length ≤ cp) (hob : objM s at_ off (c + 1) nx = true) (hDec : decV (wd s nx) = .agg #[.int .i64 0, .int .i64 (K : Int), .int .i64 (d : Int), .int .i64 (p : Int), .int .i64 te, .int .i64 tc, .bool tb, .int .i64 ta, .int .u32 ts, .int .u32 tl]) (hK1 : K ≤ 536870911) (hd : d ≤ 65535) (hp : p ≤ 65535) (hsz : d + p = sz) (hqc : K * sz = c) (hch : c + 1 ≤ m) (hz : sz = 0) (hch2 : K ≤ m - (c + 1)) :
    Calls Tryd.prog 59 #[.pointer (some ⟨g, 0, none⟩), .int .i64 at_, .int .i64 depth, .agg #[.int .i64 1, .int .i64 off, .int .i64 0, .int .i64 0, .int .i64 7, .int .i64 c, .bool false, .int .i64 0, .int .u32 0, .int .u32 0]] w fun e w' => (e = .returned (.tuple #[]) ∧ Gr g w w' ∧ Ck W0 s (some ⟨sb, so, none⟩) cp D Wd O g (nx + (c + 1)) (m - (c + 1) - K) w') := by
  have HLEN := Lib.hid hE.len
  have hlen := hE.len
  have HDEC := Lib.hid hDec
  clear hDec
  have HSZ := Lib.hid hsz
  have HQC := Lib.hid hqc
  have z0 : (sz : Int) ≤ 131072 := by omega
  have z1 : (0 : Int) ≤ (sz : Int) := Int.natCast_nonneg _
  have z2 : (0 : Int) ≤ (K : Int) := Int.natCast_nonneg _
  clear hqc
  have e_sz : (d : Int) + (p : Int) = (sz : Int) := by omega
  clear hsz
  have e_q : (K : Int) * (sz : Int) = (c : Int) := by have := HQC.out; rw [← this]; simp
  have H_z := Lib.hid hz
  clear hz
  have GK := Lib.hid (Gr.refl g w)
  have CK := Lib.hid hK
  have HE := Lib.hid hE
  clear hE hK
  go_enter Tryd.func59, Tryd.ntmps59
  go_wp2_with fail
  have lg : g < w.heap.size := blk_lt CK.out.blk
  refine calls_at (fun wa hW => ?_)
  have hb : Below w.heap.size w wa := by rw [hW]; exact (Below.refl _ _).alloc (Nat.le_refl _) _
  have nB : wa.heap[w.heap.size]? = some (.cells #[.int .i64 1, .int .i64 off, .int .i64 0, .int .i64 0, .int .i64 7, .int .i64 c, .bool false, .int .i64 0, .int .u32 0, .int .u32 0] 67 (0, 0)) := by rw [hW]; exact heap_alloc_new _ _
  have neB : w.heap.size ≠ g := by omega
  clear hW lg
  replace GK := Lib.hid (GK.out.then hb)
  replace CK := Lib.hid (CK.out.then hb)
  clear hb
  have B := Lib.hid nB
  clear nB
  have e0 : ((c : Int) + 1) = ((c + 1 : Nat) : Int) := by omega
  rw [e0]
  clear e0
  refine (object_yes HE.out CK.out ha ⟨ho0, ho1⟩ (by omega) hx hcp hob).mono ?_
  rintro e w1 ⟨rfl, hg, hc⟩
  have gB : Hid (Gr g wa w1) := Lib.hid hg
  replace B := Lib.hid (gB.out.blk B.out neB)
  replace GK := Lib.hid (GK.out.trans gB.out)
  clear gB
  clear CK
  have CK := Lib.hid hc
  clear hg hc
  have hnl : nx < s.length := by have := (objM_in hob).2; omega
  have hwc := wd_cell HE.out CK.out.below hnl
  have hwr := HE.out.word nx
  have hn0 : (0 : Int) ≤ (nx : Int) := Int.natCast_nonneg _
  have hn1 : (nx : Int) < (s.length : Int) := by omega
  clear hnl
  have l_K : g < w1.heap.size := blk_lt CK.out.blk
  have q_K_0 : w1.cell? ⟨g, 0, none⟩ = some (.slice (some ⟨sb, so, none⟩) s.length cp) := (blk_cell CK.out.blk 0).trans rfl
  go_wp2_with fail
  clear hwc hn0 hn1 l_K q_K_0
  refine (decode_any (wd s nx) w1 hwr.1 hwr.2 (HE.out.dec.below CK.out.below)).mono ?_
  rw [HDEC.out]
  rintro e w2 ⟨rfl, hb⟩
  replace GK := Lib.hid (GK.out.then hb)
  replace CK := Lib.hid (CK.out.then hb)
  replace B := Lib.hid (blk_below B.out hb)
  clear hb hwr
  have l_B : w.heap.size < w2.heap.size := blk_lt B.out
  have q_B_0 : w2.cell? ⟨w.heap.size, 0, none⟩ = some (.int .i64 1) := (blk_cell B.out 0).trans rfl
  have q_B_1 : w2.cell? ⟨w.heap.size, 1, none⟩ = some (.int .i64 off) := (blk_cell B.out 1).trans rfl
  have q_B_2 : w2.cell? ⟨w.heap.size, 2, none⟩ = some (.int .i64 0) := (blk_cell B.out 2).trans rfl
  have q_B_3 : w2.cell? ⟨w.heap.size, 3, none⟩ = some (.int .i64 0) := (blk_cell B.out 3).trans rfl
  have q_B_4 : w2.cell? ⟨w.heap.size, 4, none⟩ = some (.int .i64 7) := (blk_cell B.out 4).trans rfl
  have q_B_5 : w2.cell? ⟨w.heap.size, 5, none⟩ = some (.int .i64 c) := (blk_cell B.out 5).trans rfl
  have q_B_6 : w2.cell? ⟨w.heap.size, 6, none⟩ = some (.bool false) := (blk_cell B.out 6).trans rfl
  have q_B_7 : w2.cell? ⟨w.heap.size, 7, none⟩ = some (.int .i64 0) := (blk_cell B.out 7).trans rfl
  have q_B_8 : w2.cell? ⟨w.heap.size, 8, none⟩ = some (.int .u32 0) := (blk_cell B.out 8).trans rfl
  have q_B_9 : w2.cell? ⟨w.heap.size, 9, none⟩ = some (.int .u32 0) := (blk_cell B.out 9).trans rfl
  go_wp2_with fail
  clear l_B q_B_0 q_B_1 q_B_2 q_B_3 q_B_4 q_B_5 q_B_6 q_B_7 q_B_8 q_B_9
  refine calls_at (fun wt hW => ?_)
  have hb : Below w2.heap.size w2 wt := by rw [hW]; exact (Below.refl _ _).alloc (Nat.le_refl _) _
  have hlc : w.heap.size < w2.heap.size := blk_lt B.out
  have hlg : g < w2.heap.size := blk_lt CK.out.blk
  obtain ⟨gt, hgt⟩ : ∃ n, w2.heap.size = n := ⟨_, rfl⟩
  have neT : gt ≠ g := by omega
  have nT : wt.heap[gt]? = some (.cells #[.int .i64 0, .int .i64 (K : Int), .int .i64 (d : Int), .int .i64 (p : Int), .int .i64 te, .int .i64 tc, .bool tb, .int .i64 ta, .int .u32 ts, .int .u32 tl] 67 (0, 0)) := by rw [hW, ← hgt]; exact heap_alloc_new _ _
  rw [hgt]
  clear hW hlc hlg hgt
  replace GK := Lib.hid (GK.out.then hb)
  replace CK := Lib.hid (CK.out.then hb)
  replace B := Lib.hid (blk_below B.out hb)
  clear hb
  have T := Lib.hid nT
  clear nT
  refine (must_yes _).mono ?_
  rintro e wy ⟨rfl, rfl⟩
  clear e_sz e_q
  have l_B : w.heap.size < wt.heap.size := blk_lt B.out
  have q_B_0 : wt.cell? ⟨w.heap.size, 0, none⟩ = some (.int .i64 1) := (blk_cell B.out 0).trans rfl
  have q_B_1 : wt.cell? ⟨w.heap.size, 1, none⟩ = some (.int .i64 off) := (blk_cell B.out 1).trans rfl
  have q_B_2 : wt.cell? ⟨w.heap.size, 2, none⟩ = some (.int .i64 0) := (blk_cell B.out 2).trans rfl
  have q_B_3 : wt.cell? ⟨w.heap.size, 3, none⟩ = some (.int .i64 0) := (blk_cell B.out 3).trans rfl
  have q_B_4 : wt.cell? ⟨w.heap.size, 4, none⟩ = some (.int .i64 7) := (blk_cell B.out 4).trans rfl
  have q_B_5 : wt.cell? ⟨w.heap.size, 5, none⟩ = some (.int .i64 c) := (blk_cell B.out 5).trans rfl
  have q_B_6 : wt.cell? ⟨w.heap.size, 6, none⟩ = some (.bool false) := (blk_cell B.out 6).trans rfl
  have q_B_7 : wt.cell? ⟨w.heap.size, 7, none⟩ = some (.int .i64 0) := (blk_cell B.out 7).trans rfl
  have q_B_8 : wt.cell? ⟨w.heap.size, 8, none⟩ = some (.int .u32 0) := (blk_cell B.out 8).trans rfl
  have q_B_9 : wt.cell? ⟨w.heap.size, 9, none⟩ = some (.int .u32 0) := (blk_cell B.out 9).trans rfl
  go_wp2_with fail
  clear l_B q_B_0 q_B_1 q_B_2 q_B_3 q_B_4 q_B_5 q_B_6 q_B_7 q_B_8 q_B_9
  have e0 : ((c : Int) + 1) = ((c + 1 : Nat) : Int) := by omega
  rw [e0]
  clear e0
  refine (charge_ok HE.out CK.out hch (by omega) (by omega)).mono ?_
  rintro e w3 (⟨q, hq, rfl, hg, hc⟩ | ⟨hq, _⟩)
  rotate_left
  · cases hq
  cases hq
  have gB : Hid (Gr g wt w3) := Lib.hid hg
  replace B := Lib.hid (gB.out.blk B.out neB)
  replace T := Lib.hid (gB.out.blk T.out neT)
  replace GK := Lib.hid (GK.out.trans gB.out)
  clear gB
  clear CK
  have CK := Lib.hid hc
  clear hg hc
  have t4 : ((sz : Int) == 0) = true := beq_iff_eq.2 (by have := H_z.out; omega)
  have l_T : gt < w3.heap.size := blk_lt T.out
  have q_T_0 : w3.cell? ⟨gt, 0, none⟩ = some (.int .i64 0) := (blk_cell T.out 0).trans rfl
  have q_T_1 : w3.cell? ⟨gt, 1, none⟩ = some (.int .i64 (K : Int)) := (blk_cell T.out 1).trans rfl
  have q_T_2 : w3.cell? ⟨gt, 2, none⟩ = some (.int .i64 (d : Int)) := (blk_cell T.out 2).trans rfl
  have q_T_3 : w3.cell? ⟨gt, 3, none⟩ = some (.int .i64 (p : Int)) := (blk_cell T.out 3).trans rfl
  have q_T_4 : w3.cell? ⟨gt, 4, none⟩ = some (.int .i64 te) := (blk_cell T.out 4).trans rfl
  have q_T_5 : w3.cell? ⟨gt, 5, none⟩ = some (.int .i64 tc) := (blk_cell T.out 5).trans rfl
  have q_T_6 : w3.cell? ⟨gt, 6, none⟩ = some (.bool tb) := (blk_cell T.out 6).trans rfl
  have q_T_7 : w3.cell? ⟨gt, 7, none⟩ = some (.int .i64 ta) := (blk_cell T.out 7).trans rfl
  have q_T_8 : w3.cell? ⟨gt, 8, none⟩ = some (.int .u32 ts) := (blk_cell T.out 8).trans rfl
  have q_T_9 : w3.cell? ⟨gt, 9, none⟩ = some (.int .u32 tl) := (blk_cell T.out 9).trans rfl
  go_wp2_with fail
  clear t4 l_T q_T_0 q_T_1 q_T_2 q_T_3 q_T_4 q_T_5 q_T_6 q_T_7 q_T_8 q_T_9
  refine (charge_ok HE.out CK.out hch2 (by omega) (by omega)).mono ?_
  rintro e w4 (⟨q, hq, rfl, hg, hc⟩ | ⟨hq, _⟩)
  rotate_left
  · cases hq
  cases hq
  have hg' := GK.out.trans hg
  go_wp2
  refine bodyPost_ret (results_none rfl _ _ _) rfl ?_
  exact ⟨rfl, hg', hc⟩
set_option maxHeartbeats 4000000 in
theorem comp_4b {W0 w : World} {s : List Int} {cp g nx m : Nat} {D Wd O : Int} {sb so at_ c : Nat} {off depth : Int} {K d p sz : Nat} {te tc ta ts tl : Int} {tb : Bool} (hE : Env W0 s (some ⟨sb, so, none⟩)) (hK : Ck W0 s (some ⟨sb, so, none⟩) cp D Wd O g nx m w) (ha : at_ ≤ 17592186040320) (ho0 : -536870912 ≤ off) (ho1 : off ≤ 536870911) (hc0 : c ≤ 536870911) (hx : nx ≤ s.length) (hm : m ≤ 4611686018427387904) (hcp : s.length ≤ cp) (hob : objM s at_ off (c + 1) nx = true) (hDec : decV (wd s nx) = .agg #[.int .i64 0, .int .i64 (K : Int), .int .i64 (d : Int), .int .i64 (p : Int), .int .i64 te, .int .i64 tc, .bool tb, .int .i64 ta, .int .u32 ts, .int .u32 tl]) (hK1 : K ≤ 536870911) (hd : d ≤ 65535) (hp : p ≤ 65535) (hsz : d + p = sz) (hqc : K * sz = c) (hch : c + 1 ≤ m) (hz : sz = 0) (hch2 : ¬ K ≤ m - (c + 1)) :
    Calls Tryd.prog 59 #[.pointer (some ⟨g, 0, none⟩), .int .i64 at_, .int .i64 depth, .agg #[.int .i64 1, .int .i64 off, .int .i64 0, .int .i64 0, .int .i64 7, .int .i64 c, .bool false, .int .i64 0, .int .u32 0, .int .u32 0]] w fun e w' => e = .panicked [{ v := .iface 47 (.agg #[]), recovered := false }] ∧ Gr g w w' := by
  have HLEN := Lib.hid hE.len
  have hlen := hE.len
  have HDEC := Lib.hid hDec
  clear hDec
  have HSZ := Lib.hid hsz
  have HQC := Lib.hid hqc
  have z0 : (sz : Int) ≤ 131072 := by omega
  have z1 : (0 : Int) ≤ (sz : Int) := Int.natCast_nonneg _
  have z2 : (0 : Int) ≤ (K : Int) := Int.natCast_nonneg _
  clear hqc
  have e_sz : (d : Int) + (p : Int) = (sz : Int) := by omega
  clear hsz
  have e_q : (K : Int) * (sz : Int) = (c : Int) := by have := HQC.out; rw [← this]; simp
  have H_z := Lib.hid hz
  clear hz
  have GK := Lib.hid (Gr.refl g w)
  have CK := Lib.hid hK
  have HE := Lib.hid hE
  clear hE hK
  go_enter Tryd.func59, Tryd.ntmps59
  go_wp2_with fail
  have lg : g < w.heap.size := blk_lt CK.out.blk
  refine calls_at (fun wa hW => ?_)
  have hb : Below w.heap.size w wa := by rw [hW]; exact (Below.refl _ _).alloc (Nat.le_refl _) _
  have nB : wa.heap[w.heap.size]? = some (.cells #[.int .i64 1, .int .i64 off, .int .i64 0, .int .i64 0, .int .i64 7, .int .i64 c, .bool false, .int .i64 0, .int .u32 0, .int .u32 0] 67 (0, 0)) := by rw [hW]; exact heap_alloc_new _ _
  have neB : w.heap.size ≠ g := by omega
  clear hW lg
  replace GK := Lib.hid (GK.out.then hb)
  replace CK := Lib.hid (CK.out.then hb)
  clear hb
  have B := Lib.hid nB
  clear nB
  have e0 : ((c : Int) + 1) = ((c + 1 : Nat) : Int) := by omega
  rw [e0]
  clear e0
  refine (object_yes HE.out CK.out ha ⟨ho0, ho1⟩ (by omega) hx hcp hob).mono ?_
  rintro e w1 ⟨rfl, hg, hc⟩
  have gB : Hid (Gr g wa w1) := Lib.hid hg
  replace B := Lib.hid (gB.out.blk B.out neB)
  replace GK := Lib.hid (GK.out.trans gB.out)
  clear gB
  clear CK
  have CK := Lib.hid hc
  clear hg hc
  have hnl : nx < s.length := by have := (objM_in hob).2; omega
  have hwc := wd_cell HE.out CK.out.below hnl
  have hwr := HE.out.word nx
  have hn0 : (0 : Int) ≤ (nx : Int) := Int.natCast_nonneg _
  have hn1 : (nx : Int) < (s.length : Int) := by omega
  clear hnl
  have l_K : g < w1.heap.size := blk_lt CK.out.blk
  have q_K_0 : w1.cell? ⟨g, 0, none⟩ = some (.slice (some ⟨sb, so, none⟩) s.length cp) := (blk_cell CK.out.blk 0).trans rfl
  go_wp2_with fail
  clear hwc hn0 hn1 l_K q_K_0
  refine (decode_any (wd s nx) w1 hwr.1 hwr.2 (HE.out.dec.below CK.out.below)).mono ?_
  rw [HDEC.out]
  rintro e w2 ⟨rfl, hb⟩
  replace GK := Lib.hid (GK.out.then hb)
  replace CK := Lib.hid (CK.out.then hb)
  replace B := Lib.hid (blk_below B.out hb)
  clear hb hwr
  have l_B : w.heap.size < w2.heap.size := blk_lt B.out
  have q_B_0 : w2.cell? ⟨w.heap.size, 0, none⟩ = some (.int .i64 1) := (blk_cell B.out 0).trans rfl
  have q_B_1 : w2.cell? ⟨w.heap.size, 1, none⟩ = some (.int .i64 off) := (blk_cell B.out 1).trans rfl
  have q_B_2 : w2.cell? ⟨w.heap.size, 2, none⟩ = some (.int .i64 0) := (blk_cell B.out 2).trans rfl
  have q_B_3 : w2.cell? ⟨w.heap.size, 3, none⟩ = some (.int .i64 0) := (blk_cell B.out 3).trans rfl
  have q_B_4 : w2.cell? ⟨w.heap.size, 4, none⟩ = some (.int .i64 7) := (blk_cell B.out 4).trans rfl
  have q_B_5 : w2.cell? ⟨w.heap.size, 5, none⟩ = some (.int .i64 c) := (blk_cell B.out 5).trans rfl
  have q_B_6 : w2.cell? ⟨w.heap.size, 6, none⟩ = some (.bool false) := (blk_cell B.out 6).trans rfl
  have q_B_7 : w2.cell? ⟨w.heap.size, 7, none⟩ = some (.int .i64 0) := (blk_cell B.out 7).trans rfl
  have q_B_8 : w2.cell? ⟨w.heap.size, 8, none⟩ = some (.int .u32 0) := (blk_cell B.out 8).trans rfl
  have q_B_9 : w2.cell? ⟨w.heap.size, 9, none⟩ = some (.int .u32 0) := (blk_cell B.out 9).trans rfl
  go_wp2_with fail
  clear l_B q_B_0 q_B_1 q_B_2 q_B_3 q_B_4 q_B_5 q_B_6 q_B_7 q_B_8 q_B_9
  refine calls_at (fun wt hW => ?_)
  have hb : Below w2.heap.size w2 wt := by rw [hW]; exact (Below.refl _ _).alloc (Nat.le_refl _) _
  have hlc : w.heap.size < w2.heap.size := blk_lt B.out
  have hlg : g < w2.heap.size := blk_lt CK.out.blk
  obtain ⟨gt, hgt⟩ : ∃ n, w2.heap.size = n := ⟨_, rfl⟩
  have neT : gt ≠ g := by omega
  have nT : wt.heap[gt]? = some (.cells #[.int .i64 0, .int .i64 (K : Int), .int .i64 (d : Int), .int .i64 (p : Int), .int .i64 te, .int .i64 tc, .bool tb, .int .i64 ta, .int .u32 ts, .int .u32 tl] 67 (0, 0)) := by rw [hW, ← hgt]; exact heap_alloc_new _ _
  rw [hgt]
  clear hW hlc hlg hgt
  replace GK := Lib.hid (GK.out.then hb)
  replace CK := Lib.hid (CK.out.then hb)
  replace B := Lib.hid (blk_below B.out hb)
  clear hb
  have T := Lib.hid nT
  clear nT
  refine (must_yes _).mono ?_
  rintro e wy ⟨rfl, rfl⟩
  clear e_sz e_q
  have l_B : w.heap.size < wt.heap.size := blk_lt B.out
  have q_B_0 : wt.cell? ⟨w.heap.size, 0, none⟩ = some (.int .i64 1) := (blk_cell B.out 0).trans rfl
  have q_B_1 : wt.cell? ⟨w.heap.size, 1, none⟩ = some (.int .i64 off) := (blk_cell B.out 1).trans rfl
  have q_B_2 : wt.cell? ⟨w.heap.size, 2, none⟩ = some (.int .i64 0) := (blk_cell B.out 2).trans rfl
  have q_B_3 : wt.cell? ⟨w.heap.size, 3, none⟩ = some (.int .i64 0) := (blk_cell B.out 3).trans rfl
  have q_B_4 : wt.cell? ⟨w.heap.size, 4, none⟩ = some (.int .i64 7) := (blk_cell B.out 4).trans rfl
  have q_B_5 : wt.cell? ⟨w.heap.size, 5, none⟩ = some (.int .i64 c) := (blk_cell B.out 5).trans rfl
  have q_B_6 : wt.cell? ⟨w.heap.size, 6, none⟩ = some (.bool false) := (blk_cell B.out 6).trans rfl
  have q_B_7 : wt.cell? ⟨w.heap.size, 7, none⟩ = some (.int .i64 0) := (blk_cell B.out 7).trans rfl
  have q_B_8 : wt.cell? ⟨w.heap.size, 8, none⟩ = some (.int .u32 0) := (blk_cell B.out 8).trans rfl
  have q_B_9 : wt.cell? ⟨w.heap.size, 9, none⟩ = some (.int .u32 0) := (blk_cell B.out 9).trans rfl
  go_wp2_with fail
  clear l_B q_B_0 q_B_1 q_B_2 q_B_3 q_B_4 q_B_5 q_B_6 q_B_7 q_B_8 q_B_9
  have e0 : ((c : Int) + 1) = ((c + 1 : Nat) : Int) := by omega
  rw [e0]
  clear e0
  refine (charge_ok HE.out CK.out hch (by omega) (by omega)).mono ?_
  rintro e w3 (⟨q, hq, rfl, hg, hc⟩ | ⟨hq, _⟩)
  rotate_left
  · cases hq
  cases hq
  have gB : Hid (Gr g wt w3) := Lib.hid hg
  replace B := Lib.hid (gB.out.blk B.out neB)
  replace T := Lib.hid (gB.out.blk T.out neT)
  replace GK := Lib.hid (GK.out.trans gB.out)
  clear gB
  clear CK
  have CK := Lib.hid hc
  clear hg hc
  have t4 : ((sz : Int) == 0) = true := beq_iff_eq.2 (by have := H_z.out; omega)
  have l_T : gt < w3.heap.size := blk_lt T.out
  have q_T_0 : w3.cell? ⟨gt, 0, none⟩ = some (.int .i64 0) := (blk_cell T.out 0).trans rfl
  have q_T_1 : w3.cell? ⟨gt, 1, none⟩ = some (.int .i64 (K : Int)) := (blk_cell T.out 1).trans rfl
  have q_T_2 : w3.cell? ⟨gt, 2, none⟩ = some (.int .i64 (d : Int)) := (blk_cell T.out 2).trans rfl
  have q_T_3 : w3.cell? ⟨gt, 3, none⟩ = some (.int .i64 (p : Int)) := (blk_cell T.out 3).trans rfl
  have q_T_4 : w3.cell? ⟨gt, 4, none⟩ = some (.int .i64 te) := (blk_cell T.out 4).trans rfl
  have q_T_5 : w3.cell? ⟨gt, 5, none⟩ = some (.int .i64 tc) := (blk_cell T.out 5).trans rfl
  have q_T_6 : w3.cell? ⟨gt, 6, none⟩ = some (.bool tb) := (blk_cell T.out 6).trans rfl
  have q_T_7 : w3.cell? ⟨gt, 7, none⟩ = some (.int .i64 ta) := (blk_cell T.out 7).trans rfl
  have q_T_8 : w3.cell? ⟨gt, 8, none⟩ = some (.int .u32 ts) := (blk_cell T.out 8).trans rfl
  have q_T_9 : w3.cell? ⟨gt, 9, none⟩ = some (.int .u32 tl) := (blk_cell T.out 9).trans rfl
  go_wp2_with fail
  clear t4 l_T q_T_0 q_T_1 q_T_2 q_T_3 q_T_4 q_T_5 q_T_6 q_T_7 q_T_8 q_T_9
  refine (charge_bad HE.out CK.out hch2 (by omega) (by omega)).mono ?_
  rintro e w4 (⟨q, hq, _⟩ | ⟨_, rfl, hg⟩)
  · cases hq
  have hg' := GK.out.trans hg
  go_wp2
  exact ⟨rfl, rfl, hg'⟩
end Go.Proofs.YtidglmocekghmaaDoor.Pr
end
section
namespace Go.Proofs.YtidglmocekghmaaDoor.Pr
open Go.RowKit Go.Proofs.YtidglmocekghmaaDoorW.PrintWords Go.Proofs.YtidglmocekghmaaDoorW.PrintLast Go.Proofs.YtidglmocekghmaaDoorW.PrintMore
set_option linter.unusedVariables false
set_option linter.unusedSimpArgs false
theorem row_bound {k K sz c : Nat} (hk : k < K) (h : K * sz = c) : k * sz + sz ≤ c := by
  have : (k + 1) * sz ≤ K * sz := Nat.mul_le_mul_right _ hk
  rw [Nat.add_mul] at this
  omega
structure L1 (W0 : World) (s : List Int) (A : Option Addr) (cp : Nat) (D Wd O : Int) (g nx c m d p sz K gt : Nat) (cs : Array Value) (w : World) (k : Nat) (bd bp : Bool) (wr : World) : Prop where
  le : k ≤ K
  ed : bd = (decide (d = 0) || anyM s sz k (nx + 1 + d - 1))
  ep : bp = (decide (p = 0) || anyM s sz k (nx + 1 + sz - 1))
  ck : Ck W0 s A cp D Wd O g (nx + (c + 1)) (m - (c + 1)) wr
  gr : Gr g w wr
  bT : wr.heap[gt]? = some (.cells cs 67 (0, 0))
structure L2 (W0 : World) (s : List Int) (A : Option Addr) (cp : Nat) (D Wd O : Int) (g nx c m d p sz K gt : Nat) (cs : Array Value) (v : Nat → Nat → Nat → Option (Nat × Nat)) (w : World) (k nk mk : Nat) (wr : World) : Prop where
  le : k ≤ K
  eq : elemsM v p sz K (nx + 1 + d) (nx + (c + 1)) (m - (c + 1)) = elemsM v p sz (K - k) (nx + 1 + d + k * sz) nk mk
  ck : Ck W0 s A cp D Wd O g nk mk wr
  gr : Gr g w wr
  bT : wr.heap[gt]? = some (.cells cs 67 (0, 0))
  nl : nk ≤ s.length
  ml : mk ≤ m
section
variable {W0 : World} {s : List Int} {A : Option Addr} {cp : Nat} {D Wd O : Int} {g nx c m d p sz K gt : Nat} {cs : Array Value} {w : World} {k : Nat} {bd bp : Bool} {wr w' : World} {v : Nat → Nat → Nat → Option (Nat × Nat)} {nk mk : Nat}
theorem L1.step (h : L1 W0 s A cp D Wd O g nx c m d p sz K gt cs w k bd bp wr) (hk : k < K) {bd' bp' : Bool} (e1 : bd' = (bd || decide (wd s (nx + 1 + k * sz + d - 1) ≠ 0))) (e2 : bp' = (bp || decide (wd s (nx + 1 + k * sz + sz - 1) ≠ 0))) (hd : bd = true ∨ 0 < d) (hp : bp = true ∨ 0 < p) (hsz : d + p = sz)
    (ck : Ck W0 s A cp D Wd O g (nx + (c + 1)) (m - (c + 1)) w') (gr : Gr g w w') (bT : w'.heap[gt]? = some (.cells cs 67 (0, 0))) : L1 W0 s A cp D Wd O g nx c m d p sz K gt cs w (k + 1) bd' bp' w' := by
  refine ⟨by omega, ?_, ?_, ck, gr, bT⟩
  · rw [e1, anyM_succ, ← Bool.or_assoc, ← h.ed]
    rcases hd with hd | hd
    · rw [hd]; rfl
    · rw [show nx + 1 + d - 1 + k * sz = nx + 1 + k * sz + d - 1 by omega]
  · rw [e2, anyM_succ, ← Bool.or_assoc, ← h.ep]
    rcases hp with hp | hp
    · rw [hp]; rfl
    · rw [show nx + 1 + sz - 1 + k * sz = nx + 1 + k * sz + sz - 1 by omega]
theorem L1.dpos (h : L1 W0 s A cp D Wd O g nx c m d p sz K gt cs w k bd bp wr) : bd = true ∨ 0 < d := by
  have := h.ed
  by_cases hd : d = 0
  · left; rw [this]; simp [hd]
  · right; omega
theorem L1.ppos (h : L1 W0 s A cp D Wd O g nx c m d p sz K gt cs w k bd bp wr) : bp = true ∨ 0 < p := by
  have := h.ep
  by_cases hd : p = 0
  · left; rw [this]; simp [hd]
  · right; omega
theorem L2.step (hv : InM s v) (h : L2 W0 s A cp D Wd O g nx c m d p sz K gt cs v w k nk mk wr) (hk : k < K) {q : Nat × Nat} (e : ptrsM v p (nx + 1 + d + k * sz) nk mk = some q) (gr : Gr g wr w') (ck : Ck W0 s A cp D Wd O g q.1 q.2 w') (hne : gt ≠ g) : L2 W0 s A cp D Wd O g nx c m d p sz K gt cs v w (k + 1) q.1 q.2 w' := by
  have hi := ptrsM_in hv _ _ _ _ _ e h.nl
  refine ⟨by omega, ?_, ck, h.gr.trans gr, gr.blk h.bT hne, hi.2.1, by have := h.ml; omega⟩
  rw [h.eq, show K - k = (K - (k + 1)) + 1 by omega, elemsM_succ, e, Nat.add_mul, Nat.one_mul, ← Nat.add_assoc]
theorem L2.bad (h : L2 W0 s A cp D Wd O g nx c m d p sz K gt cs v w k nk mk wr) (hk : k < K) (e : ptrsM v p (nx + 1 + d + k * sz) nk mk = none) : elemsM v p sz K (nx + 1 + d) (nx + (c + 1)) (m - (c + 1)) = none := by
  rw [h.eq, show K - k = (K - (k + 1)) + 1 by omega, elemsM_succ, e]
theorem L2.done (h : L2 W0 s A cp D Wd O g nx c m d p sz K gt cs v w K nk mk wr) : elemsM v p sz K (nx + 1 + d) (nx + (c + 1)) (m - (c + 1)) = some (nk, mk) := by
  rw [h.eq, Nat.sub_self, elemsM]
end
end Go.Proofs.YtidglmocekghmaaDoor.Pr
end
