/- A part of the proof of YtidglmocekghmaaDoorLimitsCard (the texts that it stands on, gathered; declarations that nothing uses are left out). -/
import Derived.Test.YtidglmocekghmaaDoorBNLA
import Derived.Below
import Derived.Deep.Draws
import Derived.Deep.AppendLies
import Derived.Maps.AppendAt
import Derived.OwnWalk
import Derived.Laws.BytesArg
import Derived.Laws.MakeOwn
import Derived.Laws.OwnMore
import Derived.Deep.OwnRows
import Derived.Tactics
import Derived.Lib.ConvBytes
import Derived.Laws.Slices
import Derived.WalkKit
import Derived.KernelRfl
import Derived.RowKit3
import Derived.Deep.LoopGhost
import Derived.Deep.QuietTactic
import Derived.BigQuiet
import Derived.WideLaws
import Derived.Deep.DeepCutAuto
import Derived.Deep.CutBlock
import Derived.Deep.RegionHeld3
import Derived.Laws.Rows
import Derived.Lib.AppendStr
import Derived.ArgAppend
import Derived.Laws.IdiomCopy
import Derived.RowKit
import Derived.OrdersHeld
import Derived.Laws.BitsLemmas
import Derived.Laws.StructEq
import Derived.SizedLaws
import Derived.ChangeSlices
import Derived.Test.YtidglmocekghmaaDoorProg
import Derived.Lib.Hide
import Derived.WalkLawsBesides
import Derived.WalkSpells
import Derived.Outline
import Derived.IntWalk
import Derived.Laws.AppendOwn
import Derived.RangeFuncBox
import Derived.Lib.JoinLaws
set_option linter.unusedVariables false
set_option linter.unusedSimpArgs false
section
namespace Go.Proofs.YtidglmocekghmaaDoor.Pr
open Go.RowKit Go.Proofs.YtidglmocekghmaaDoorW.PrintWords Go.Proofs.YtidglmocekghmaaDoorW.PrintLast Go.Proofs.YtidglmocekghmaaDoorW.PrintMore
set_option linter.unusedVariables false
set_option linter.unusedSimpArgs false
set_option maxHeartbeats 2000000 in
theorem charge_bad {W0 w : World} {s : List Int} {A : Option Addr} {cp g nx m : Nat} {D Wd O : Int} (hE : Env W0 s A) (hK : Ck W0 s A cp D Wd O g nx m w) {c : Nat} (hc : ¬ c ≤ m) (hm : m ≤ 4611686018427387904) (hc1 : c ≤ 4611686018427387904) :
  Calls Tryd.prog 57 #[.pointer (some ⟨g, 0, none⟩), .int .i64 c] w fun e w' => EndM W0 s A cp D Wd O g w none e w' := by
 have GK := Lib.hid (Gr.refl g w)
 have CK := Lib.hid hK
 have HE := Lib.hid hE
 clear hE hK
 go_enter Tryd.func57, Tryd.ntmps57
 have l_K : g < w.heap.size := blk_lt CK.out.blk
 have q_K_0 : w.cell? ⟨g, 0, none⟩ = some (.slice A s.length cp) := (blk_cell CK.out.blk 0).trans rfl
 have q_K_1 : w.cell? ⟨g, 1, none⟩ = some (.int .i64 nx) := (blk_cell CK.out.blk 1).trans rfl
 have q_K_2 : w.cell? ⟨g, 2, none⟩ = some (.int .i64 D) := (blk_cell CK.out.blk 2).trans rfl
 have q_K_3 : w.cell? ⟨g, 3, none⟩ = some (.int .i64 Wd) := (blk_cell CK.out.blk 3).trans rfl
 have q_K_4 : w.cell? ⟨g, 4, none⟩ = some (.int .i64 O) := (blk_cell CK.out.blk 4).trans rfl
 have q_K_5 : w.cell? ⟨g, 5, none⟩ = some (.int .i64 m) := (blk_cell CK.out.blk 5).trans rfl
 go_wp2_with fail
 clear l_K q_K_0 q_K_1 q_K_2 q_K_3 q_K_4 q_K_5
 refine (charge_no (m : Int) (c : Int) w (by omega)).mono ?_
 rintro e w1 ⟨rfl, hb⟩
 replace GK := Lib.hid (GK.out.then hb)
 replace CK := Lib.hid (CK.out.then hb)
 clear hb
 have l_K : g < w1.heap.size := blk_lt CK.out.blk
 have q_K_0 : w1.cell? ⟨g, 0, none⟩ = some (.slice A s.length cp) := (blk_cell CK.out.blk 0).trans rfl
 have q_K_1 : w1.cell? ⟨g, 1, none⟩ = some (.int .i64 nx) := (blk_cell CK.out.blk 1).trans rfl
 have q_K_2 : w1.cell? ⟨g, 2, none⟩ = some (.int .i64 D) := (blk_cell CK.out.blk 2).trans rfl
 have q_K_3 : w1.cell? ⟨g, 3, none⟩ = some (.int .i64 Wd) := (blk_cell CK.out.blk 3).trans rfl
 have q_K_4 : w1.cell? ⟨g, 4, none⟩ = some (.int .i64 O) := (blk_cell CK.out.blk 4).trans rfl
 have q_K_5 : w1.cell? ⟨g, 5, none⟩ = some (.int .i64 m) := (blk_cell CK.out.blk 5).trans rfl
 have f_K_5 : w1.frozen? ⟨g, 5, none⟩ = false := blk_frozen CK.out.blk 5
 go_wp2_with fail
 clear l_K q_K_0 q_K_1 q_K_2 q_K_3 q_K_4 q_K_5 f_K_5
 refine calls_at (fun wz hW => ?_)
 have nCK : Ck W0 s A cp D Wd O g nx m wz := by rw [hW]; exact CK.out.meter (by omega)
 have nGK : Gr g w wz := by rw [hW]; exact GK.out.set _ _
 clear hW CK GK
 have CK := Lib.hid nCK
 have GK := Lib.hid nGK
 clear nCK nGK
 refine (must_no wz).mono ?_
 rintro e wy ⟨rfl, rfl⟩
 go_wp2
 exact ⟨rfl, .inr ⟨rfl, rfl, GK.out⟩⟩
end Go.Proofs.YtidglmocekghmaaDoor.Pr
end
section
namespace Go.Proofs.YtidglmocekghmaaDoor.Pr
open Go.RowKit Go.Proofs.YtidglmocekghmaaDoorW.PrintWords Go.Proofs.YtidglmocekghmaaDoorW.PrintLast Go.Proofs.YtidglmocekghmaaDoorW.PrintMore
set_option linter.unusedVariables false
set_option linter.unusedSimpArgs false
theorem C_one_slice {W : World} {g e : Nat} {A : Option Addr} {c : Nat} {xs : List Int} (hb : W.heap[g]? = some (.cells #[.slice A xs.length c] e (0, 0))) (h : (Kd.int .u64).C W A xs.length xs) (hc : xs.length ≤ c) : Kd.C (Kd.slice 32 (Kd.int .u64)) W (some ⟨g, 0, none⟩) [xs].length [xs] := by
 refine ⟨rfl, by simp, fun hn => ⟨_, rfl, fun j p hj => ⟨[.slice A xs.length c], rfl, ?_, fun i u hu => ?_⟩⟩⟩
 ·match j with
  | 0 =>
   obtain rfl : xs = p := by simpa using hj
   exact ⟨A, c, rfl, hc, h⟩
  | j + 1 => simp at hj
 ·match j, i with
  | 0, 0 =>
   obtain rfl : Value.slice A xs.length c = u := by simpa using hu
   exact (blk_cell hb 0).trans rfl
  | 0, i + 1 => simp at hu
  | j + 1, _ => simp at hj
theorem inb_f (s : List Int) (a n : Nat) (hs : s.length ≤ 17592186040320) (r : Bool) (hr : decide (a + n ≤ s.length) = r) : arena_InBounds.f [s] 0 (a : Int) (n : Int) = some r := by
 subst hr
 unfold arena_InBounds.f
 have e : rd_L1 [s] 0 = s := rfl
 rw [if_pos (by omega), if_pos (by simp), if_pos (by omega), if_pos (by omega), if_pos (by omega), e]
 by_cases h : a ≤ s.length
 ·rw [if_pos (by omega), IntWalk.wrap64_in _ ⟨by omega, by omega⟩]
  congr 1
  exact decide_eq_decide.2 (by omega)
 ·rw [if_neg (by omega), decide_eq_false (by omega)]
set_option maxHeartbeats 2000000 in
theorem object_ok {W0 w : World} {s : List Int} {A : Option Addr} {cp g nx m : Nat} {D Wd O : Int} (hE : Env W0 s A) (hK : Ck W0 s A cp D Wd O g nx m w) {at_ n : Nat} {pk off pd pp pe pc pa ps pl : Int} {pb : Bool} (ha : at_ ≤ 17592186040320) (ho0 : -536870912 ≤ off) (ho1 : off ≤ 536870911) (hn1 : n ≤ 17592186040320) (hx : nx ≤ 17592186040320) (hcp : s.length ≤ cp) (hq : (at_ : Int) + 1 + off = (nx : Int)) (hn : nx + n ≤ s.length) :
  Calls Tryd.prog 56 #[.pointer (some ⟨g, 0, none⟩), .int .i64 at_, .agg #[.int .i64 pk, .int .i64 off, .int .i64 pd, .int .i64 pp, .int .i64 pe, .int .i64 pc, .bool pb, .int .i64 pa, .int .u32 ps, .int .u32 pl], .int .i64 n] w fun e w' => (e = .returned (.int .i64 nx) ∧ Gr g w w' ∧ Ck W0 s A cp D Wd O g (nx + n) m w') := by
 have hb_ : (nx : Int) = (at_ : Int) + 1 + off := hq.symm
 have q1 : ((at_ : Int) + 1 + off == (nx : Int)) = true := beq_iff_eq.2 hq
 have r0 : 0 ≤ (at_ : Int) + 1 + off := by omega
 have r1 : (at_ : Int) + 1 + off ≤ 17592186040320 := by omega
 have HQ := Lib.hid hq
 clear hq hb_
 have HL := Lib.hid hE.len
 have GK := Lib.hid (Gr.refl g w)
 have CK := Lib.hid hK
 have HE := Lib.hid hE
 clear hE hK
 go_enter Tryd.func56, Tryd.ntmps56
 have l_K : g < w.heap.size := blk_lt CK.out.blk
 have q_K_0 : w.cell? ⟨g, 0, none⟩ = some (.slice A s.length cp) := (blk_cell CK.out.blk 0).trans rfl
 have q_K_1 : w.cell? ⟨g, 1, none⟩ = some (.int .i64 nx) := (blk_cell CK.out.blk 1).trans rfl
 have q_K_2 : w.cell? ⟨g, 2, none⟩ = some (.int .i64 D) := (blk_cell CK.out.blk 2).trans rfl
 have q_K_3 : w.cell? ⟨g, 3, none⟩ = some (.int .i64 Wd) := (blk_cell CK.out.blk 3).trans rfl
 have q_K_4 : w.cell? ⟨g, 4, none⟩ = some (.int .i64 O) := (blk_cell CK.out.blk 4).trans rfl
 have q_K_5 : w.cell? ⟨g, 5, none⟩ = some (.int .i64 m) := (blk_cell CK.out.blk 5).trans rfl
 go_wp2_with fail
 clear l_K q_K_0 q_K_1 q_K_2 q_K_3 q_K_4 q_K_5
 refine calls_at (fun wz hW => ?_)
 have hb : Below w.heap.size w wz := by rw [hW]; exact ((Below.refl _ _).alloc (Nat.le_refl _) _).alloc (by simp) _
 have nS : wz.heap[w.heap.size + 1]? = some (.cells #[.slice A s.length cp] 22 (0, 0)) := by rw [hW]; exact blk_new _ _ _ (by simp)
 clear hW
 replace GK := Lib.hid (GK.out.then hb)
 replace CK := Lib.hid (CK.out.then hb)
 have hCS := C_one_slice nS (Kd.C_below HE.out.dat CK.out.below) hcp
 clear nS hb
 rw [HQ.out]
 refine (arena_InBounds.calls _ 1 [s] 0 nx n true wz hCS (Nat.le_refl _) (inb_f s nx n HL.out _ (decide_eq_true hn))).mono ?_
 rintro e wx ⟨rfl, hd⟩
 have hb := hd.below
 clear hd hCS
 replace GK := Lib.hid (GK.out.then hb)
 replace CK := Lib.hid (CK.out.then hb)
 clear hb
 go_wp2_with fail
 refine (must_yes wx).mono ?_
 rintro e wy ⟨rfl, rfl⟩
 have l_K : g < wx.heap.size := blk_lt CK.out.blk
 have q_K_0 : wx.cell? ⟨g, 0, none⟩ = some (.slice A s.length cp) := (blk_cell CK.out.blk 0).trans rfl
 have q_K_1 : wx.cell? ⟨g, 1, none⟩ = some (.int .i64 nx) := (blk_cell CK.out.blk 1).trans rfl
 have q_K_2 : wx.cell? ⟨g, 2, none⟩ = some (.int .i64 D) := (blk_cell CK.out.blk 2).trans rfl
 have q_K_3 : wx.cell? ⟨g, 3, none⟩ = some (.int .i64 Wd) := (blk_cell CK.out.blk 3).trans rfl
 have q_K_4 : wx.cell? ⟨g, 4, none⟩ = some (.int .i64 O) := (blk_cell CK.out.blk 4).trans rfl
 have q_K_5 : wx.cell? ⟨g, 5, none⟩ = some (.int .i64 m) := (blk_cell CK.out.blk 5).trans rfl
 have f_K_1 : wx.frozen? ⟨g, 1, none⟩ = false := blk_frozen CK.out.blk 1
 have hi1 : (nx : Int) + (n : Int) ≤ 1152921504606846976 := by omega
 go_wp2
 clear l_K q_K_0 q_K_1 q_K_2 q_K_3 q_K_4 q_K_5 f_K_1
 go_ret
 exact ⟨rfl, GK.out.set _ _, CK.out.next (by omega)⟩
set_option maxHeartbeats 2000000 in
theorem object_far {W0 w : World} {s : List Int} {A : Option Addr} {cp g nx m : Nat} {D Wd O : Int} (hE : Env W0 s A) (hK : Ck W0 s A cp D Wd O g nx m w) {at_ n : Nat} {pk off pd pp pe pc pa ps pl : Int} {pb : Bool} (ha : at_ ≤ 17592186040320) (ho0 : -536870912 ≤ off) (ho1 : off ≤ 536870911) (hn1 : n ≤ 17592186040320) (hx : nx ≤ 17592186040320) (hcp : s.length ≤ cp) (hq : ¬ (at_ : Int) + 1 + off = (nx : Int)) :
  Calls Tryd.prog 56 #[.pointer (some ⟨g, 0, none⟩), .int .i64 at_, .agg #[.int .i64 pk, .int .i64 off, .int .i64 pd, .int .i64 pp, .int .i64 pe, .int .i64 pc, .bool pb, .int .i64 pa, .int .u32 ps, .int .u32 pl], .int .i64 n] w fun e w' => (e = .panicked [{ v := .iface 47 (.agg #[]), recovered := false }] ∧ Gr g w w') := by
 have q1 : ((at_ : Int) + 1 + off == (nx : Int)) = false := beq_eq_false_iff_ne.2 hq
 clear hq
 have HL := Lib.hid hE.len
 have GK := Lib.hid (Gr.refl g w)
 have CK := Lib.hid hK
 have HE := Lib.hid hE
 clear hE hK
 go_enter Tryd.func56, Tryd.ntmps56
 have l_K : g < w.heap.size := blk_lt CK.out.blk
 have q_K_0 : w.cell? ⟨g, 0, none⟩ = some (.slice A s.length cp) := (blk_cell CK.out.blk 0).trans rfl
 have q_K_1 : w.cell? ⟨g, 1, none⟩ = some (.int .i64 nx) := (blk_cell CK.out.blk 1).trans rfl
 have q_K_2 : w.cell? ⟨g, 2, none⟩ = some (.int .i64 D) := (blk_cell CK.out.blk 2).trans rfl
 have q_K_3 : w.cell? ⟨g, 3, none⟩ = some (.int .i64 Wd) := (blk_cell CK.out.blk 3).trans rfl
 have q_K_4 : w.cell? ⟨g, 4, none⟩ = some (.int .i64 O) := (blk_cell CK.out.blk 4).trans rfl
 have q_K_5 : w.cell? ⟨g, 5, none⟩ = some (.int .i64 m) := (blk_cell CK.out.blk 5).trans rfl
 go_wp2_with fail
 clear l_K q_K_0 q_K_1 q_K_2 q_K_3 q_K_4 q_K_5
 refine calls_at (fun wz hW => ?_)
 have hb : Below w.heap.size w wz := by rw [hW]; exact (Below.refl _ _).alloc (Nat.le_refl _) _
 clear hW
 replace GK := Lib.hid (GK.out.then hb)
 replace CK := Lib.hid (CK.out.then hb)
 refine (must_no wz).mono ?_
 rintro e wy ⟨rfl, rfl⟩
 go_wp2
 exact ⟨rfl, rfl, GK.out⟩
set_option maxHeartbeats 2000000 in
theorem object_out {W0 w : World} {s : List Int} {A : Option Addr} {cp g nx m : Nat} {D Wd O : Int} (hE : Env W0 s A) (hK : Ck W0 s A cp D Wd O g nx m w) {at_ n : Nat} {pk off pd pp pe pc pa ps pl : Int} {pb : Bool} (ha : at_ ≤ 17592186040320) (ho0 : -536870912 ≤ off) (ho1 : off ≤ 536870911) (hn1 : n ≤ 17592186040320) (hx : nx ≤ 17592186040320) (hcp : s.length ≤ cp) (hq : (at_ : Int) + 1 + off = (nx : Int)) (hn : ¬ nx + n ≤ s.length) :
  Calls Tryd.prog 56 #[.pointer (some ⟨g, 0, none⟩), .int .i64 at_, .agg #[.int .i64 pk, .int .i64 off, .int .i64 pd, .int .i64 pp, .int .i64 pe, .int .i64 pc, .bool pb, .int .i64 pa, .int .u32 ps, .int .u32 pl], .int .i64 n] w fun e w' => (e = .panicked [{ v := .iface 47 (.agg #[]), recovered := false }] ∧ Gr g w w') := by
 have hb_ : (nx : Int) = (at_ : Int) + 1 + off := hq.symm
 have q1 : ((at_ : Int) + 1 + off == (nx : Int)) = true := beq_iff_eq.2 hq
 have r0 : 0 ≤ (at_ : Int) + 1 + off := by omega
 have r1 : (at_ : Int) + 1 + off ≤ 17592186040320 := by omega
 have HQ := Lib.hid hq
 clear hq hb_
 have HL := Lib.hid hE.len
 have GK := Lib.hid (Gr.refl g w)
 have CK := Lib.hid hK
 have HE := Lib.hid hE
 clear hE hK
 go_enter Tryd.func56, Tryd.ntmps56
 have l_K : g < w.heap.size := blk_lt CK.out.blk
 have q_K_0 : w.cell? ⟨g, 0, none⟩ = some (.slice A s.length cp) := (blk_cell CK.out.blk 0).trans rfl
 have q_K_1 : w.cell? ⟨g, 1, none⟩ = some (.int .i64 nx) := (blk_cell CK.out.blk 1).trans rfl
 have q_K_2 : w.cell? ⟨g, 2, none⟩ = some (.int .i64 D) := (blk_cell CK.out.blk 2).trans rfl
 have q_K_3 : w.cell? ⟨g, 3, none⟩ = some (.int .i64 Wd) := (blk_cell CK.out.blk 3).trans rfl
 have q_K_4 : w.cell? ⟨g, 4, none⟩ = some (.int .i64 O) := (blk_cell CK.out.blk 4).trans rfl
 have q_K_5 : w.cell? ⟨g, 5, none⟩ = some (.int .i64 m) := (blk_cell CK.out.blk 5).trans rfl
 go_wp2_with fail
 clear l_K q_K_0 q_K_1 q_K_2 q_K_3 q_K_4 q_K_5
 refine calls_at (fun wz hW => ?_)
 have hb : Below w.heap.size w wz := by rw [hW]; exact ((Below.refl _ _).alloc (Nat.le_refl _) _).alloc (by simp) _
 have nS : wz.heap[w.heap.size + 1]? = some (.cells #[.slice A s.length cp] 22 (0, 0)) := by rw [hW]; exact blk_new _ _ _ (by simp)
 clear hW
 replace GK := Lib.hid (GK.out.then hb)
 replace CK := Lib.hid (CK.out.then hb)
 have hCS := C_one_slice nS (Kd.C_below HE.out.dat CK.out.below) hcp
 clear nS hb
 rw [HQ.out]
 refine (arena_InBounds.calls _ 1 [s] 0 nx n false wz hCS (Nat.le_refl _) (inb_f s nx n HL.out _ (decide_eq_false hn))).mono ?_
 rintro e wx ⟨rfl, hd⟩
 have hb := hd.below
 clear hd hCS
 replace GK := Lib.hid (GK.out.then hb)
 replace CK := Lib.hid (CK.out.then hb)
 clear hb
 go_wp2_with fail
 refine (must_no wx).mono ?_
 rintro e wy ⟨rfl, rfl⟩
 go_wp2
 exact ⟨rfl, rfl, GK.out⟩
theorem object_yes {W0 w : World} {s : List Int} {A : Option Addr} {cp g nx m : Nat} {D Wd O : Int} (hE : Env W0 s A) (hK : Ck W0 s A cp D Wd O g nx m w) {at_ n : Nat} {pk off pd pp pe pc pa ps pl : Int} {pb : Bool} (ha : at_ ≤ 17592186040320) (ho : -536870912 ≤ off ∧ off ≤ 536870911) (hn1 : n ≤ 17592186040320) (hx : nx ≤ s.length) (hcp : s.length ≤ cp) (h : objM s at_ off n nx = true) :
  Calls Tryd.prog 56 #[.pointer (some ⟨g, 0, none⟩), .int .i64 at_, .agg #[.int .i64 pk, .int .i64 off, .int .i64 pd, .int .i64 pp, .int .i64 pe, .int .i64 pc, .bool pb, .int .i64 pa, .int .u32 ps, .int .u32 pl], .int .i64 n] w fun e w' => (e = .returned (.int .i64 nx) ∧ Gr g w w' ∧ Ck W0 s A cp D Wd O g (nx + n) m w') :=
 object_ok hE hK ha ho.1 ho.2 hn1 (by have := hE.len; omega) hcp (objM_in h).1 (objM_in h).2
theorem object_no {W0 w : World} {s : List Int} {A : Option Addr} {cp g nx m : Nat} {D Wd O : Int} (hE : Env W0 s A) (hK : Ck W0 s A cp D Wd O g nx m w) {at_ n : Nat} {pk off pd pp pe pc pa ps pl : Int} {pb : Bool} (ha : at_ ≤ 17592186040320) (ho : -536870912 ≤ off ∧ off ≤ 536870911) (hn1 : n ≤ 17592186040320) (hx : nx ≤ s.length) (hcp : s.length ≤ cp) (h : ¬ objM s at_ off n nx = true) :
  Calls Tryd.prog 56 #[.pointer (some ⟨g, 0, none⟩), .int .i64 at_, .agg #[.int .i64 pk, .int .i64 off, .int .i64 pd, .int .i64 pp, .int .i64 pe, .int .i64 pc, .bool pb, .int .i64 pa, .int .u32 ps, .int .u32 pl], .int .i64 n] w fun e w' => (e = .panicked [{ v := .iface 47 (.agg #[]), recovered := false }] ∧ Gr g w w') := by
 unfold objM at h
 simp only [Bool.and_eq_true, decide_eq_true_eq, not_and] at h
 by_cases hq : (at_ : Int) + 1 + off = (nx : Int)
 ·exact object_out hE hK ha ho.1 ho.2 hn1 (by have := hE.len; omega) hcp hq (h hq)
 ·exact object_far hE hK ha ho.1 ho.2 hn1 (by have := hE.len; omega) hcp hq
end Go.Proofs.YtidglmocekghmaaDoor.Pr
end
section
namespace Go.Proofs.YtidglmocekghmaaDoor.Pr
open Go.RowKit Go.Proofs.YtidglmocekghmaaDoorW.PrintWords Go.Proofs.YtidglmocekghmaaDoorW.PrintLast Go.Proofs.YtidglmocekghmaaDoorW.PrintMore
set_option linter.unusedVariables false
set_option linter.unusedSimpArgs false
def VisC (W0 : World) (s : List Int) (A : Option Addr) (cp : Nat) (D Wd O : Int) (g : Nat) (v : Nat → Nat → Nat → Option (Nat × Nat)) (depth : Int) : Prop :=
 ∀ (a nx m : Nat) (w : World), a < s.length → nx ≤ s.length → m ≤ 4611686018427387904 → Ck W0 s A cp D Wd O g nx m w →
  Calls Tryd.prog 21 #[.pointer (some ⟨g, 0, none⟩), .int .i64 a, .int .i64 depth] w fun e w' => EndM W0 s A cp D Wd O g w (v a nx m) e w'
structure PtrsAt (v : Nat → Nat → Nat → Option (Nat × Nat)) (W0 : World) (s : List Int) (A : Option Addr) (cp : Nat) (D Wd O : Int) (g n a nx m : Nat) (w : World) (k nk mk : Nat) (wr : World) : Prop where
 le : k ≤ n
 eq : ptrsM v n a nx m = ptrsM v (n - k) (a + k) nk mk
 ck : Ck W0 s A cp D Wd O g nk mk wr
 gr : Gr g w wr
 nl : nk ≤ s.length
 ml : mk ≤ m
theorem PtrsAt.step {v : Nat → Nat → Nat → Option (Nat × Nat)} {W0 : World} {s : List Int} {A : Option Addr} {cp : Nat} {D Wd O : Int} {g n a nx m : Nat} {w : World} {k nk mk : Nat} {wr w' : World} {q : Nat × Nat} (hv : InM s v)
  (h : PtrsAt v W0 s A cp D Wd O g n a nx m w k nk mk wr) (hk : k < n) (e : v (a + k) nk mk = some q) (gr : Gr g wr w') (ck : Ck W0 s A cp D Wd O g q.1 q.2 w') : PtrsAt v W0 s A cp D Wd O g n a nx m w (k + 1) q.1 q.2 w' := by
 have hi := hv _ _ _ _ e h.nl
 refine ⟨by omega, ?_, ck, h.gr.trans gr, hi.2.1, by have := h.ml; omega⟩
 rw [h.eq, show n - k = (n - (k + 1)) + 1 by omega, ptrsM, e]
 rfl
theorem PtrsAt.bad {v : Nat → Nat → Nat → Option (Nat × Nat)} {W0 : World} {s : List Int} {A : Option Addr} {cp : Nat} {D Wd O : Int} {g n a nx m : Nat} {w : World} {k nk mk : Nat} {wr : World}
  (h : PtrsAt v W0 s A cp D Wd O g n a nx m w k nk mk wr) (hk : k < n) (e : v (a + k) nk mk = none) : ptrsM v n a nx m = none := by
 rw [h.eq, show n - k = (n - (k + 1)) + 1 by omega, ptrsM, e]
theorem PtrsAt.done {v : Nat → Nat → Nat → Option (Nat × Nat)} {W0 : World} {s : List Int} {A : Option Addr} {cp : Nat} {D Wd O : Int} {g n a nx m : Nat} {w : World} {nk mk : Nat} {wr : World}
  (h : PtrsAt v W0 s A cp D Wd O g n a nx m w n nk mk wr) : ptrsM v n a nx m = some (nk, mk) := by
 rw [h.eq, Nat.sub_self, ptrsM]
set_option maxHeartbeats 2000000 in
theorem pointers_any {W0 w : World} {s : List Int} {A : Option Addr} {cp g nx m : Nat} {D Wd O : Int} (hE : Env W0 s A) (hK : Ck W0 s A cp D Wd O g nx m w) {v : Nat → Nat → Nat → Option (Nat × Nat)} {a n : Nat} {depth : Int} (hv : InM s v) (hd0 : 0 ≤ depth) (hd1 : depth ≤ 1000000)
  (hV : VisC W0 s A cp D Wd O g v (depth + 1)) (ha : a + n ≤ s.length) (hx : nx ≤ s.length) (hm : m ≤ 4611686018427387904) :
  Calls Tryd.prog 58 #[.pointer (some ⟨g, 0, none⟩), .int .i64 a, .int .i64 n, .int .i64 depth] w fun e w' => EndM W0 s A cp D Wd O g w (ptrsM v n a nx m) e w' := by
 have hl := hE.len
 have HV := Lib.hid hV
 have P0 : Hid (PtrsAt v W0 s A cp D Wd O g n a nx m w 0 nx m w) := Lib.hid ⟨Nat.zero_le _, rfl, hK, Gr.refl _ _, hx, Nat.le_refl _⟩
 have HE := Lib.hid hE
 have HI := Lib.hid hv
 clear hV hK hE hv
 go_enter Tryd.func58, Tryd.ntmps58
 go_wp2_with fail
 go_loopw [8, 10] (fun _ i wr => ∃ k nk mk : Nat, i = .int .i64 k ∧ Hid (PtrsAt v W0 s A cp D Wd O g n a nx m w k nk mk wr)) (fun _ i _ => n - (intOf i).toNat)
 case atStart => exact ⟨0, nx, m, rfl, P0⟩
 case round =>
  clear P0
  obtain ⟨k, nk, mk, rfl, HP⟩ := hrel
  have hkn := HP.out.le
  have hml := HP.out.ml
  by_cases hlt : k < n
  ·have hk0 : (0 : Int) ≤ (k : Int) := Int.natCast_nonneg _
   have ea : ((a : Int) + (k : Int)) = ((a + k : Nat) : Int) := by omega
   have EA := Lib.hid ea
   clear ea
   go_wp2_with fail
   rw [EA.out]
   refine (HV.out (a + k) nk mk wr (by omega) HP.out.nl (by omega) HP.out.ck).mono ?_
   rintro e w1 (⟨q, hq, rfl, hg, hc⟩ | ⟨hq, rfl, hg⟩)
   ·have HP' := Lib.hid (HP.out.step HI.out hlt hq hg hc)
    clear HP hq hg hc
    go_wp2
    go_roundw
    case rel => exact ⟨k + 1, q.1, q.2, by go_num, HP'⟩
    case measure => simp [intOf]; omega
   ·have hb := HP.out.bad hlt hq
    have hg' := HP.out.gr.trans hg
    have HB := Lib.hid hb
    clear hq hb
    go_wp2
    exact ⟨rfl, .inr ⟨HB.out, rfl, hg'⟩⟩
  ·obtain rfl : k = n := by omega
   go_wp2
   go_end0
   exact .inl ⟨(nk, mk), HP.out.done, rfl, HP.out.gr, HP.out.ck⟩
end Go.Proofs.YtidglmocekghmaaDoor.Pr
end
section
namespace Go.Proofs.YtidglmocekghmaaDoor.Pr
open Go.RowKit Go.Proofs.YtidglmocekghmaaDoorW.PrintWords Go.Proofs.YtidglmocekghmaaDoorW.PrintLast Go.Proofs.YtidglmocekghmaaDoorW.PrintMore
set_option linter.unusedVariables false
set_option linter.unusedSimpArgs false
theorem goes_bad {P : Program} {ops : Array Oper} {Q : Exit → Act → World → Prop} {oi : Oper} {N : Option Tmp} {a : Act} {w : World} {K : Act → World → Prop} {f : FuncId} {fn : Func} {as_ : Array Operand} {ts : Array TypeId} (hf : P.funcs[f]? = some fn) (hname : (fn.name == "runtime.NumGoroutine") = false) (hb : fn.body.isSome = true) (args : Array Value)
  (hw : Region.wanted oi (yielded ops a.tmps) = true) (hop : oi.op = .call { callee := .value (.func f), args := as_, argTypes := ts }) (hargs : as_.map a.eval = args)
  (h : Calls P f args w fun e w' => ∃ c, e = .panicked c ∧ Q (.panic c) a w') : if Region.wanted oi (yielded ops a.tmps) = true then Oper.wp P oi a w K Q else K (a.put N undef) w := by
 have he := enters_ hf hname hb args w
 have hrun : (execOp a.eval oi).run P w = .ok (.enter f args) w := by
  unfold execOp
  simp [hop, resolve, Deferred.ofValue, invoke, Act.eval, hargs, he]
 rw [if_pos hw]
 unfold Oper.wp
 rw [hrun, Oper.upon_enter]
 refine h.mono fun e w'' hh => ?_
 obtain ⟨c, rfl, hk⟩ := hh
 exact hk
theorem wd_cell {W0 w : World} {s : List Int} {b off i : Nat} (he : Env W0 s (some ⟨b, off, none⟩)) (h : Below W0.heap.size W0 w) (hi : i < s.length) : w.cell? ⟨b, off + i, none⟩ = some (.int .u64 (wd s i)) := by
 obtain ⟨ad, e, hc⟩ := he.cell h hi
 obtain rfl := Option.some.inj e
 simpa [Addr.add_lit] using hc
theorem Env.addr {W0 : World} {s : List Int} {A : Option Addr} (he : Env W0 s A) (h0 : 0 < s.length) : ∃ b off, A = some ⟨b, off, none⟩ := by
 obtain ⟨ad, rfl, hc⟩ := he.cell (Below.refl _ _) h0
 obtain ⟨b, off, spot⟩ := ad
 have : spot = none := by simpa [Addr.add] using World.cell?_spot hc
 subst this
 exact ⟨b, off, rfl⟩
theorem idx_wraps {a b j : Nat} (h : a + b = j + 1) (hj : j ≤ 1152921504606846976) :
  IntKind.i64.wrap ((a : Int) + (b : Int)) = ((j + 1 : Nat) : Int) ∧ IntKind.i64.wrap (((j + 1 : Nat) : Int) - 1) = (j : Int) ∧ wrap64 ((a : Int) + (b : Int)) = ((j + 1 : Nat) : Int) ∧ wrap64 (((j + 1 : Nat) : Int) - 1) = (j : Int) ∧ wrap64 (j : Int) = (j : Int) ∧ IntKind.i64.wrap (j : Int) = (j : Int) := by
 have e : (a : Int) + (b : Int) = ((j + 1 : Nat) : Int) := by omega
 have e2 : ((j + 1 : Nat) : Int) - 1 = (j : Int) := by omega
 rw [e, e2]
 exact ⟨IntWalk.i64_in _ ⟨by omega, by omega⟩, IntWalk.i64_in _ ⟨by omega, by omega⟩, IntWalk.wrap64_in _ ⟨by omega, by omega⟩, IntWalk.wrap64_in _ ⟨by omega, by omega⟩, IntWalk.wrap64_in _ ⟨by omega, by omega⟩, IntWalk.i64_in _ ⟨by omega, by omega⟩⟩
theorem sum_wraps {a b k : Nat} (h : a + b = k) (hj : k ≤ 1152921504606846976) : IntKind.i64.wrap ((a : Int) + (b : Int)) = (k : Int) ∧ wrap64 ((a : Int) + (b : Int)) = (k : Int) := by
 have e : (a : Int) + (b : Int) = (k : Int) := by omega
 rw [e]
 exact ⟨IntWalk.i64_in _ ⟨by omega, by omega⟩, IntWalk.wrap64_in _ ⟨by omega, by omega⟩⟩
set_option maxHeartbeats 4000000 in
theorem struct_0a {W0 w : World} {s : List Int} {cp g nx m : Nat} {D Wd O : Int} {sb so at_ d p : Nat} {off depth : Int} (hE : Env W0 s (some ⟨sb, so, none⟩)) (hK : Ck W0 s (some ⟨sb, so, none⟩) cp D Wd O g nx m w) (ha : at_ ≤ 17592186040320) (ho0 : -536870912 ≤ off) (ho1 : off ≤ 536870911) (hd : d ≤ 65535) (hp : p ≤ 65535) (hx : nx ≤ s.length) (hm : m ≤ 4611686018427387904) (hcp : s.length ≤ cp) (hdp : d + p = 0) (h1 : off = -1) :
  Calls Tryd.prog 33 #[.pointer (some ⟨g, 0, none⟩), .int .i64 at_, .int .i64 depth, .agg #[.int .i64 0, .int .i64 off, .int .i64 d, .int .i64 p, .int .i64 0, .int .i64 0, .bool false, .int .i64 0, .int .u32 0, .int .u32 0]] w fun e w' => (e = .returned (.tuple #[]) ∧ Gr g w w' ∧ Ck W0 s (some ⟨sb, so, none⟩) cp D Wd O g nx m w') := by
 have HLEN := Lib.hid hE.len
 have hlen := hE.len
 obtain rfl : d = 0 := by omega
 obtain rfl : p = 0 := by omega
 subst h1
 have GK := Lib.hid (Gr.refl g w)
 have CK := Lib.hid hK
 have HE := Lib.hid hE
 clear hE hK
 go_enter Tryd.func33, Tryd.ntmps33
 go_wp2_with fail
 have lg : g < w.heap.size := blk_lt CK.out.blk
 refine calls_at (fun wa hW => ?_)
 have hb : Below w.heap.size w wa := by rw [hW]; exact (Below.refl _ _).alloc (Nat.le_refl _) _
 have nB : wa.heap[w.heap.size]? = some (.cells #[.int .i64 0, .int .i64 (-1), .int .i64 0, .int .i64 0, .int .i64 0, .int .i64 0, .bool false, .int .i64 0, .int .u32 0, .int .u32 0] 67 (0, 0)) := by rw [hW]; exact heap_alloc_new _ _
 have neB : w.heap.size ≠ g := by omega
 clear hW lg
 replace GK := Lib.hid (GK.out.then hb)
 replace CK := Lib.hid (CK.out.then hb)
 clear hb
 have B := Lib.hid nB
 clear nB
 refine (must_yes wa).mono ?_
 rintro e wy ⟨rfl, rfl⟩
 go_wp2
 refine bodyPost_ret (results_none rfl _ _ _) rfl ?_
 exact ⟨rfl, GK.out, CK.out⟩
set_option maxHeartbeats 4000000 in
theorem struct_0b {W0 w : World} {s : List Int} {cp g nx m : Nat} {D Wd O : Int} {sb so at_ d p : Nat} {off depth : Int} (hE : Env W0 s (some ⟨sb, so, none⟩)) (hK : Ck W0 s (some ⟨sb, so, none⟩) cp D Wd O g nx m w) (ha : at_ ≤ 17592186040320) (ho0 : -536870912 ≤ off) (ho1 : off ≤ 536870911) (hd : d ≤ 65535) (hp : p ≤ 65535) (hx : nx ≤ s.length) (hm : m ≤ 4611686018427387904) (hcp : s.length ≤ cp) (hdp : d + p = 0) (h1 : ¬ off = -1) :
  Calls Tryd.prog 33 #[.pointer (some ⟨g, 0, none⟩), .int .i64 at_, .int .i64 depth, .agg #[.int .i64 0, .int .i64 off, .int .i64 d, .int .i64 p, .int .i64 0, .int .i64 0, .bool false, .int .i64 0, .int .u32 0, .int .u32 0]] w fun e w' => e = .panicked [{ v := .iface 47 (.agg #[]), recovered := false }] ∧ Gr g w w' := by
 have HLEN := Lib.hid hE.len
 have hlen := hE.len
 obtain rfl : d = 0 := by omega
 obtain rfl : p = 0 := by omega
 have h2 : (off == -1) = false := beq_eq_false_iff_ne.2 h1
 clear h1
 have GK := Lib.hid (Gr.refl g w)
 have CK := Lib.hid hK
 have HE := Lib.hid hE
 clear hE hK
 go_enter Tryd.func33, Tryd.ntmps33
 go_wp2_with fail
 have lg : g < w.heap.size := blk_lt CK.out.blk
 refine calls_at (fun wa hW => ?_)
 have hb : Below w.heap.size w wa := by rw [hW]; exact (Below.refl _ _).alloc (Nat.le_refl _) _
 have nB : wa.heap[w.heap.size]? = some (.cells #[.int .i64 0, .int .i64 off, .int .i64 0, .int .i64 0, .int .i64 0, .int .i64 0, .bool false, .int .i64 0, .int .u32 0, .int .u32 0] 67 (0, 0)) := by rw [hW]; exact heap_alloc_new _ _
 have neB : w.heap.size ≠ g := by omega
 clear hW lg
 replace GK := Lib.hid (GK.out.then hb)
 replace CK := Lib.hid (CK.out.then hb)
 clear hb
 have B := Lib.hid nB
 clear nB
 refine (must_no wa).mono ?_
 rintro e wy ⟨rfl, rfl⟩
 go_wp2
 exact ⟨rfl, rfl, GK.out⟩
set_option maxHeartbeats 4000000 in
theorem struct_1 {W0 w : World} {s : List Int} {cp g nx m : Nat} {D Wd O : Int} {sb so at_ d p : Nat} {off depth : Int} (hE : Env W0 s (some ⟨sb, so, none⟩)) (hK : Ck W0 s (some ⟨sb, so, none⟩) cp D Wd O g nx m w) (ha : at_ ≤ 17592186040320) (ho0 : -536870912 ≤ off) (ho1 : off ≤ 536870911) (hd : d ≤ 65535) (hp : p ≤ 65535) (hx : nx ≤ s.length) (hm : m ≤ 4611686018427387904) (hcp : s.length ≤ cp) (hdp : ¬ d + p = 0) (hob : ¬ objM s at_ off (d + p) nx = true) :
  Calls Tryd.prog 33 #[.pointer (some ⟨g, 0, none⟩), .int .i64 at_, .int .i64 depth, .agg #[.int .i64 0, .int .i64 off, .int .i64 d, .int .i64 p, .int .i64 0, .int .i64 0, .bool false, .int .i64 0, .int .u32 0, .int .u32 0]] w fun e w' => e = .panicked [{ v := .iface 47 (.agg #[]), recovered := false }] ∧ Gr g w w' := by
 have HLEN := Lib.hid hE.len
 have hlen := hE.len
 have t0 : ((d : Int) + (p : Int) == 0) = false := beq_eq_false_iff_ne.2 (by omega)
 have GK := Lib.hid (Gr.refl g w)
 have CK := Lib.hid hK
 have HE := Lib.hid hE
 clear hE hK
 go_enter Tryd.func33, Tryd.ntmps33
 go_wp2_with fail
 have lg : g < w.heap.size := blk_lt CK.out.blk
 refine calls_at (fun wa hW => ?_)
 have hb : Below w.heap.size w wa := by rw [hW]; exact (Below.refl _ _).alloc (Nat.le_refl _) _
 have nB : wa.heap[w.heap.size]? = some (.cells #[.int .i64 0, .int .i64 off, .int .i64 d, .int .i64 p, .int .i64 0, .int .i64 0, .bool false, .int .i64 0, .int .u32 0, .int .u32 0] 67 (0, 0)) := by rw [hW]; exact heap_alloc_new _ _
 have neB : w.heap.size ≠ g := by omega
 clear hW lg
 replace GK := Lib.hid (GK.out.then hb)
 replace CK := Lib.hid (CK.out.then hb)
 clear hb
 have B := Lib.hid nB
 clear nB
 have e0 : ((d : Int) + (p : Int)) = ((d + p : Nat) : Int) := by omega
 rw [e0]
 clear e0
 refine (object_no HE.out CK.out ha ⟨ho0, ho1⟩ (by omega) hx hcp hob).mono ?_
 rintro e w1 ⟨rfl, hg⟩
 have hg' := GK.out.trans hg
 clear hg
 go_wp2
 exact ⟨rfl, rfl, hg'⟩
set_option maxHeartbeats 4000000 in
theorem struct_2 {W0 w : World} {s : List Int} {cp g nx m : Nat} {D Wd O : Int} {sb so at_ d p : Nat} {off depth : Int} (hE : Env W0 s (some ⟨sb, so, none⟩)) (hK : Ck W0 s (some ⟨sb, so, none⟩) cp D Wd O g nx m w) (ha : at_ ≤ 17592186040320) (ho0 : -536870912 ≤ off) (ho1 : off ≤ 536870911) (hd : d ≤ 65535) (hp : p ≤ 65535) (hx : nx ≤ s.length) (hm : m ≤ 4611686018427387904) (hcp : s.length ≤ cp) (hdp : ¬ d + p = 0) (hob : objM s at_ off (d + p) nx = true) (hch : ¬ d + p ≤ m) :
  Calls Tryd.prog 33 #[.pointer (some ⟨g, 0, none⟩), .int .i64 at_, .int .i64 depth, .agg #[.int .i64 0, .int .i64 off, .int .i64 d, .int .i64 p, .int .i64 0, .int .i64 0, .bool false, .int .i64 0, .int .u32 0, .int .u32 0]] w fun e w' => e = .panicked [{ v := .iface 47 (.agg #[]), recovered := false }] ∧ Gr g w w' := by
 have HLEN := Lib.hid hE.len
 have hlen := hE.len
 have t0 : ((d : Int) + (p : Int) == 0) = false := beq_eq_false_iff_ne.2 (by omega)
 have GK := Lib.hid (Gr.refl g w)
 have CK := Lib.hid hK
 have HE := Lib.hid hE
 clear hE hK
 go_enter Tryd.func33, Tryd.ntmps33
 go_wp2_with fail
 have lg : g < w.heap.size := blk_lt CK.out.blk
 refine calls_at (fun wa hW => ?_)
 have hb : Below w.heap.size w wa := by rw [hW]; exact (Below.refl _ _).alloc (Nat.le_refl _) _
 have nB : wa.heap[w.heap.size]? = some (.cells #[.int .i64 0, .int .i64 off, .int .i64 d, .int .i64 p, .int .i64 0, .int .i64 0, .bool false, .int .i64 0, .int .u32 0, .int .u32 0] 67 (0, 0)) := by rw [hW]; exact heap_alloc_new _ _
 have neB : w.heap.size ≠ g := by omega
 clear hW lg
 replace GK := Lib.hid (GK.out.then hb)
 replace CK := Lib.hid (CK.out.then hb)
 clear hb
 have B := Lib.hid nB
 clear nB
 have e0 : ((d : Int) + (p : Int)) = ((d + p : Nat) : Int) := by omega
 rw [e0]
 clear e0
 refine (object_yes HE.out CK.out ha ⟨ho0, ho1⟩ (by omega) hx hcp hob).mono ?_
 rintro e w1 ⟨rfl, hg, hc⟩
 have gB : Hid (Gr g wa w1) := Lib.hid hg
 replace B := Lib.hid (gB.out.blk B.out neB)
 replace GK := Lib.hid (GK.out.trans gB.out)
 clear gB
 clear CK
 have CK := Lib.hid hc
 clear hg hc
 have l_B : w.heap.size < w1.heap.size := blk_lt B.out
 have q_B_0 := cq0 ⟨B.out⟩
 have q_B_1 := cq1 ⟨B.out⟩
 have q_B_2 := cq2 ⟨B.out⟩
 have q_B_3 := cq3 ⟨B.out⟩
 have q_B_4 := cq4 ⟨B.out⟩
 have q_B_5 := cq5 ⟨B.out⟩
 have q_B_6 := cq6 ⟨B.out⟩
 have q_B_7 := cq7 ⟨B.out⟩
 have q_B_8 := cq8 ⟨B.out⟩
 have q_B_9 := cq9 ⟨B.out⟩
 go_wp2_with fail
 clear l_B q_B_0 q_B_1 q_B_2 q_B_3 q_B_4 q_B_5 q_B_6 q_B_7 q_B_8 q_B_9
 have e0 : ((d : Int) + (p : Int)) = ((d + p : Nat) : Int) := by omega
 rw [e0]
 clear e0
 refine (charge_bad HE.out CK.out hch (by omega) (by omega)).mono ?_
 rintro e w2 (⟨q, hq, _⟩ | ⟨_, rfl, hg⟩)
 ·cases hq
 have hg' := GK.out.trans hg
 clear hg
 go_wp2
 exact ⟨rfl, rfl, hg'⟩
set_option maxHeartbeats 4000000 in
theorem struct_3 {W0 w : World} {s : List Int} {cp g nx m : Nat} {D Wd O : Int} {sb so at_ d p : Nat} {off depth : Int} (hE : Env W0 s (some ⟨sb, so, none⟩)) (hK : Ck W0 s (some ⟨sb, so, none⟩) cp D Wd O g nx m w) (ha : at_ ≤ 17592186040320) (ho0 : -536870912 ≤ off) (ho1 : off ≤ 536870911) (hd : d ≤ 65535) (hp : p ≤ 65535) (hx : nx ≤ s.length) (hm : m ≤ 4611686018427387904) (hcp : s.length ≤ cp) (hdp : ¬ d + p = 0) (hob : objM s at_ off (d + p) nx = true) (hch : d + p ≤ m) (hdz : ¬ d = 0) (hw1 : wd s (nx + d - 1) = 0) :
  Calls Tryd.prog 33 #[.pointer (some ⟨g, 0, none⟩), .int .i64 at_, .int .i64 depth, .agg #[.int .i64 0, .int .i64 off, .int .i64 d, .int .i64 p, .int .i64 0, .int .i64 0, .bool false, .int .i64 0, .int .u32 0, .int .u32 0]] w fun e w' => e = .panicked [{ v := .iface 47 (.agg #[]), recovered := false }] ∧ Gr g w w' := by
 have HLEN := Lib.hid hE.len
 have hlen := hE.len
 have t0 : ((d : Int) + (p : Int) == 0) = false := beq_eq_false_iff_ne.2 (by omega)
 have GK := Lib.hid (Gr.refl g w)
 have CK := Lib.hid hK
 have HE := Lib.hid hE
 clear hE hK
 go_enter Tryd.func33, Tryd.ntmps33
 go_wp2_with fail
 have lg : g < w.heap.size := blk_lt CK.out.blk
 refine calls_at (fun wa hW => ?_)
 have hb : Below w.heap.size w wa := by rw [hW]; exact (Below.refl _ _).alloc (Nat.le_refl _) _
 have nB : wa.heap[w.heap.size]? = some (.cells #[.int .i64 0, .int .i64 off, .int .i64 d, .int .i64 p, .int .i64 0, .int .i64 0, .bool false, .int .i64 0, .int .u32 0, .int .u32 0] 67 (0, 0)) := by rw [hW]; exact heap_alloc_new _ _
 have neB : w.heap.size ≠ g := by omega
 clear hW lg
 replace GK := Lib.hid (GK.out.then hb)
 replace CK := Lib.hid (CK.out.then hb)
 clear hb
 have B := Lib.hid nB
 clear nB
 have e0 : ((d : Int) + (p : Int)) = ((d + p : Nat) : Int) := by omega
 rw [e0]
 clear e0
 refine (object_yes HE.out CK.out ha ⟨ho0, ho1⟩ (by omega) hx hcp hob).mono ?_
 rintro e w1 ⟨rfl, hg, hc⟩
 have gB : Hid (Gr g wa w1) := Lib.hid hg
 replace B := Lib.hid (gB.out.blk B.out neB)
 replace GK := Lib.hid (GK.out.trans gB.out)
 clear gB
 clear CK
 have CK := Lib.hid hc
 clear hg hc
 have l_B : w.heap.size < w1.heap.size := blk_lt B.out
 have q_B_0 := cq0 ⟨B.out⟩
 have q_B_1 := cq1 ⟨B.out⟩
 have q_B_2 := cq2 ⟨B.out⟩
 have q_B_3 := cq3 ⟨B.out⟩
 have q_B_4 := cq4 ⟨B.out⟩
 have q_B_5 := cq5 ⟨B.out⟩
 have q_B_6 := cq6 ⟨B.out⟩
 have q_B_7 := cq7 ⟨B.out⟩
 have q_B_8 := cq8 ⟨B.out⟩
 have q_B_9 := cq9 ⟨B.out⟩
 go_wp2_with fail
 clear l_B q_B_0 q_B_1 q_B_2 q_B_3 q_B_4 q_B_5 q_B_6 q_B_7 q_B_8 q_B_9
 have e0 : ((d : Int) + (p : Int)) = ((d + p : Nat) : Int) := by omega
 rw [e0]
 clear e0
 refine (charge_ok HE.out CK.out hch (by omega) (by omega)).mono ?_
 rintro e w2 (⟨q, hq, rfl, hg, hc⟩ | ⟨hq, _⟩)
 rotate_left
 ·cases hq
 cases hq
 have gB : Hid (Gr g w1 w2) := Lib.hid hg
 replace B := Lib.hid (gB.out.blk B.out neB)
 replace GK := Lib.hid (GK.out.trans gB.out)
 clear gB
 clear CK
 have CK := Lib.hid hc
 clear hg hc
 have l_B : w.heap.size < w2.heap.size := blk_lt B.out
 have q_B_0 := cq0 ⟨B.out⟩
 have q_B_1 := cq1 ⟨B.out⟩
 have q_B_2 := cq2 ⟨B.out⟩
 have q_B_3 := cq3 ⟨B.out⟩
 have q_B_4 := cq4 ⟨B.out⟩
 have q_B_5 := cq5 ⟨B.out⟩
 have q_B_6 := cq6 ⟨B.out⟩
 have q_B_7 := cq7 ⟨B.out⟩
 have q_B_8 := cq8 ⟨B.out⟩
 have q_B_9 := cq9 ⟨B.out⟩
 go_wp2_with fail
 clear l_B q_B_0 q_B_1 q_B_2 q_B_3 q_B_4 q_B_5 q_B_6 q_B_7 q_B_8 q_B_9
 obtain ⟨j, hj⟩ : ∃ j, nx + d = j + 1 := ⟨nx + d - 1, by omega⟩
 have hjl : j < s.length := by have := (objM_in hob).2; omega
 have ej : nx + d - 1 = j := by omega
 rw [ej] at hw1
 clear ej
 have hwc := wd_cell HE.out CK.out.below hjl
 generalize wd s j = x at hwc hw1
 have hj0 : (0 : Int) ≤ (j : Int) := Int.natCast_nonneg _
 have hj1 : (j : Int) < (s.length : Int) := by omega
 have t1 : ((d : Int) == 0) = false := beq_eq_false_iff_ne.2 (by omega)
 have t2 : (x != 0) = false := bne_eq_false_iff_eq.2 hw1
 have HJ := Lib.hid hj
 clear hj
 obtain ⟨x1_, x2_, x3_, x4_, x5_, x6_⟩ := idx_wraps HJ.out (by have := HLEN.out; omega)
 have l_B : w.heap.size < w2.heap.size := blk_lt B.out
 have q_B_0 := cq0 ⟨B.out⟩
 have q_B_1 := cq1 ⟨B.out⟩
 have q_B_2 := cq2 ⟨B.out⟩
 have q_B_3 := cq3 ⟨B.out⟩
 have q_B_4 := cq4 ⟨B.out⟩
 have q_B_5 := cq5 ⟨B.out⟩
 have q_B_6 := cq6 ⟨B.out⟩
 have q_B_7 := cq7 ⟨B.out⟩
 have q_B_8 := cq8 ⟨B.out⟩
 have q_B_9 := cq9 ⟨B.out⟩
 have l_K : g < w2.heap.size := blk_lt CK.out.blk
 have q_K_0 := cq0 ⟨CK.out.blk⟩
 refine start_ (n := 18) (S := fun w' => w'.cell? ⟨w.heap.size, 2, none⟩ = some (.int .i64 (d : Int)) ∧ w'.cell? ⟨g, 0, none⟩ = some (.slice (some ⟨sb, so, none⟩) s.length cp) ∧ w'.cell? ⟨sb, so + j, none⟩ = some (.int .u64 x)) (ds := []) #[false, false, false, false, false, false, false, false, false, false, false, false, false, false, false, false, false, false] (by kernel_rfl) rfl rfl ⟨q_B_2, q_K_0, hwc⟩ (fun hHeld => ?_)
 obtain ⟨w3, hwd⟩ : ∃ W, W = w2.drew := ⟨_, rfl⟩
 rw [← hwd] at hHeld ⊢
 have hb : Below w2.heap.size w2 w3 := by rw [hwd]; exact (Below.refl _ _).drew
 clear hwd
 replace GK := Lib.hid (GK.out.then hb)
 replace CK := Lib.hid (CK.out.then hb)
 replace B := Lib.hid (blk_below B.out hb)
 clear hb
 refine pu 0 35 ?_
 refine tk3 1 36 hHeld ?_
 refine pu 2 37 ?_
 refine pu 3 38 ?_
 refine pu 4 39 ?_
 refine pu 5 40 ?_
 refine pu 6 41 ?_
 refine pu 8 43 ?_
 refine pu 9 44 ?_
 refine tk3 7 42 hHeld ?_
 refine tk3 10 45 hHeld ?_
 refine pu 11 46 ?_
 refine pu 12 47 ?_
 refine pu 13 48 ?_
 refine tk3 14 49 hHeld ?_
 refine pu 15 50 ?_
 refine pu 16 51 ?_
 refine one_ (i := 17) (N := some 52) #[true, true, true, true, true, true, true, true, true, true, true, true, true, true, true, true, true, true] rfl rfl (by kernel_rfl) (by decide) (fun K hK => ?_)
 refine goes_bad Tryd.func19 (by kernel_rfl) rfl #[.bool false] (by rfl) rfl (by simp only [List.map_toArray, List.map_cons, List.map_nil]; rfl) ?_
 with_reducible refine (must_no _).mono ?_
 rintro e w3 ⟨rfl, rfl⟩
 refine ⟨_, rfl, ?_⟩
 clear hwc hj0 hj1 t1 t2 x1_ x2_ x3_ x4_ x5_ x6_ l_B q_B_0 q_B_1 q_B_2 q_B_3 q_B_4 q_B_5 q_B_6 q_B_7 q_B_8 q_B_9 l_K q_K_0
 clear hHeld
 exact ⟨rfl, rfl, GK.out⟩
set_option maxHeartbeats 4000000 in
theorem struct_4z {W0 w : World} {s : List Int} {cp g nx m : Nat} {D Wd O : Int} {sb so at_ d p : Nat} {off depth : Int} (hE : Env W0 s (some ⟨sb, so, none⟩)) (hK : Ck W0 s (some ⟨sb, so, none⟩) cp D Wd O g nx m w) (ha : at_ ≤ 17592186040320) (ho0 : -536870912 ≤ off) (ho1 : off ≤ 536870911) (hd : d ≤ 65535) (hp : p ≤ 65535) (hx : nx ≤ s.length) (hm : m ≤ 4611686018427387904) (hcp : s.length ≤ cp) (hdp : ¬ d + p = 0) (hob : objM s at_ off (d + p) nx = true) (hch : d + p ≤ m) (hdz : d = 0) (hpz : ¬ p = 0) (hw2 : wd s (nx + d + p - 1) = 0) :
  Calls Tryd.prog 33 #[.pointer (some ⟨g, 0, none⟩), .int .i64 at_, .int .i64 depth, .agg #[.int .i64 0, .int .i64 off, .int .i64 d, .int .i64 p, .int .i64 0, .int .i64 0, .bool false, .int .i64 0, .int .u32 0, .int .u32 0]] w fun e w' => e = .panicked [{ v := .iface 47 (.agg #[]), recovered := false }] ∧ Gr g w w' := by
 have HLEN := Lib.hid hE.len
 have hlen := hE.len
 have t0 : ((d : Int) + (p : Int) == 0) = false := beq_eq_false_iff_ne.2 (by omega)
 have H_hdz := Lib.hid hdz
 clear hdz
 have GK := Lib.hid (Gr.refl g w)
 have CK := Lib.hid hK
 have HE := Lib.hid hE
 clear hE hK
 go_enter Tryd.func33, Tryd.ntmps33
 go_wp2_with fail
 have lg : g < w.heap.size := blk_lt CK.out.blk
 refine calls_at (fun wa hW => ?_)
 have hb : Below w.heap.size w wa := by rw [hW]; exact (Below.refl _ _).alloc (Nat.le_refl _) _
 have nB : wa.heap[w.heap.size]? = some (.cells #[.int .i64 0, .int .i64 off, .int .i64 d, .int .i64 p, .int .i64 0, .int .i64 0, .bool false, .int .i64 0, .int .u32 0, .int .u32 0] 67 (0, 0)) := by rw [hW]; exact heap_alloc_new _ _
 have neB : w.heap.size ≠ g := by omega
 clear hW lg
 replace GK := Lib.hid (GK.out.then hb)
 replace CK := Lib.hid (CK.out.then hb)
 clear hb
 have B := Lib.hid nB
 clear nB
 have e0 : ((d : Int) + (p : Int)) = ((d + p : Nat) : Int) := by omega
 rw [e0]
 clear e0
 refine (object_yes HE.out CK.out ha ⟨ho0, ho1⟩ (by omega) hx hcp hob).mono ?_
 rintro e w1 ⟨rfl, hg, hc⟩
 have gB : Hid (Gr g wa w1) := Lib.hid hg
 replace B := Lib.hid (gB.out.blk B.out neB)
 replace GK := Lib.hid (GK.out.trans gB.out)
 clear gB
 clear CK
 have CK := Lib.hid hc
 clear hg hc
 have l_B : w.heap.size < w1.heap.size := blk_lt B.out
 have q_B_0 := cq0 ⟨B.out⟩
 have q_B_1 := cq1 ⟨B.out⟩
 have q_B_2 := cq2 ⟨B.out⟩
 have q_B_3 := cq3 ⟨B.out⟩
 have q_B_4 := cq4 ⟨B.out⟩
 have q_B_5 := cq5 ⟨B.out⟩
 have q_B_6 := cq6 ⟨B.out⟩
 have q_B_7 := cq7 ⟨B.out⟩
 have q_B_8 := cq8 ⟨B.out⟩
 have q_B_9 := cq9 ⟨B.out⟩
 go_wp2_with fail
 clear l_B q_B_0 q_B_1 q_B_2 q_B_3 q_B_4 q_B_5 q_B_6 q_B_7 q_B_8 q_B_9
 have e0 : ((d : Int) + (p : Int)) = ((d + p : Nat) : Int) := by omega
 rw [e0]
 clear e0
 refine (charge_ok HE.out CK.out hch (by omega) (by omega)).mono ?_
 rintro e w2 (⟨q, hq, rfl, hg, hc⟩ | ⟨hq, _⟩)
 rotate_left
 ·cases hq
 cases hq
 have gB : Hid (Gr g w1 w2) := Lib.hid hg
 replace B := Lib.hid (gB.out.blk B.out neB)
 replace GK := Lib.hid (GK.out.trans gB.out)
 clear gB
 clear CK
 have CK := Lib.hid hc
 clear hg hc
 have l_B : w.heap.size < w2.heap.size := blk_lt B.out
 have q_B_0 := cq0 ⟨B.out⟩
 have q_B_1 := cq1 ⟨B.out⟩
 have q_B_2 := cq2 ⟨B.out⟩
 have q_B_3 := cq3 ⟨B.out⟩
 have q_B_4 := cq4 ⟨B.out⟩
 have q_B_5 := cq5 ⟨B.out⟩
 have q_B_6 := cq6 ⟨B.out⟩
 have q_B_7 := cq7 ⟨B.out⟩
 have q_B_8 := cq8 ⟨B.out⟩
 have q_B_9 := cq9 ⟨B.out⟩
 go_wp2_with fail
 clear l_B q_B_0 q_B_1 q_B_2 q_B_3 q_B_4 q_B_5 q_B_6 q_B_7 q_B_8 q_B_9
 have t1 : ((d : Int) == 0) = true := beq_iff_eq.2 (by have := H_hdz.out; omega)
 have l_B : w.heap.size < w2.heap.size := blk_lt B.out
 have q_B_0 := cq0 ⟨B.out⟩
 have q_B_1 := cq1 ⟨B.out⟩
 have q_B_2 := cq2 ⟨B.out⟩
 have q_B_3 := cq3 ⟨B.out⟩
 have q_B_4 := cq4 ⟨B.out⟩
 have q_B_5 := cq5 ⟨B.out⟩
 have q_B_6 := cq6 ⟨B.out⟩
 have q_B_7 := cq7 ⟨B.out⟩
 have q_B_8 := cq8 ⟨B.out⟩
 have q_B_9 := cq9 ⟨B.out⟩
 refine start_ (n := 18) (S := fun w' => w'.cell? ⟨w.heap.size, 2, none⟩ = some (.int .i64 (d : Int))) (ds := []) #[false, false, false, false, false, false, false, false, false, false, false, false, false, false, false, false, false, false] (by kernel_rfl) rfl rfl (q_B_2) (fun hHeld => ?_)
 obtain ⟨w3, hwd⟩ : ∃ W, W = w2.drew := ⟨_, rfl⟩
 rw [← hwd] at hHeld ⊢
 have hb : Below w2.heap.size w2 w3 := by rw [hwd]; exact (Below.refl _ _).drew
 clear hwd
 replace GK := Lib.hid (GK.out.then hb)
 replace CK := Lib.hid (CK.out.then hb)
 replace B := Lib.hid (blk_below B.out hb)
 clear hb
 refine pu 0 35 ?_
 refine tk1 1 36 hHeld ?_
 refine pu 2 37 ?_
 refine pu 3 38 ?_
 refine pure_ (i := 4) (N := some 39) (v := undef) (a' := ?_) #[true, true, true, true, true, false, false, false, false, false, false, false, false, false, false, false, false, false] rfl rfl (by kernel_rfl) (fun _ _ _ h => h) (Or.inr ⟨by rfl, rfl⟩) ?_ ?_
 rotate_left
 ·simp only [Act.put, List.setIfInBounds_toArray, List.set_cons_zero, List.set_cons_succ, i64_w, i32_w]
  rfl
 refine pure_ (i := 5) (N := some 40) (v := undef) (a' := ?_) #[true, true, true, true, true, true, false, false, false, false, false, false, false, false, false, false, false, false] rfl rfl (by kernel_rfl) (fun _ _ _ h => h) (Or.inr ⟨by rfl, rfl⟩) ?_ ?_
 rotate_left
 ·simp only [Act.put, List.setIfInBounds_toArray, List.set_cons_zero, List.set_cons_succ, i64_w, i32_w]
  rfl
 refine pure_ (i := 6) (N := some 41) (v := undef) (a' := ?_) #[true, true, true, true, true, true, true, false, false, false, false, false, false, false, false, false, false, false] rfl rfl (by kernel_rfl) (fun _ _ _ h => h) (Or.inr ⟨by rfl, rfl⟩) ?_ ?_
 rotate_left
 ·simp only [Act.put, List.setIfInBounds_toArray, List.set_cons_zero, List.set_cons_succ, i64_w, i32_w]
  rfl
 refine pure_ (i := 7) (N := some 42) (v := undef) (a' := ?_) #[true, true, true, true, true, true, true, true, false, false, false, false, false, false, false, false, false, false] rfl rfl (by kernel_rfl) (fun _ _ _ h => h) (Or.inr ⟨by rfl, rfl⟩) ?_ ?_
 rotate_left
 ·simp only [Act.put, List.setIfInBounds_toArray, List.set_cons_zero, List.set_cons_succ, i64_w, i32_w]
  rfl
 refine pure_ (i := 8) (N := some 43) (v := undef) (a' := ?_) #[true, true, true, true, true, true, true, true, true, false, false, false, false, false, false, false, false, false] rfl rfl (by kernel_rfl) (fun _ _ _ h => h) (Or.inr ⟨by rfl, rfl⟩) ?_ ?_
 rotate_left
 ·simp only [Act.put, List.setIfInBounds_toArray, List.set_cons_zero, List.set_cons_succ, i64_w, i32_w]
  rfl
 refine pure_ (i := 9) (N := some 44) (v := undef) (a' := ?_) #[true, true, true, true, true, true, true, true, true, true, false, false, false, false, false, false, false, false] rfl rfl (by kernel_rfl) (fun _ _ _ h => h) (Or.inr ⟨by rfl, rfl⟩) ?_ ?_
 rotate_left
 ·simp only [Act.put, List.setIfInBounds_toArray, List.set_cons_zero, List.set_cons_succ, i64_w, i32_w]
  rfl
 refine pure_ (i := 10) (N := some 45) (v := undef) (a' := ?_) #[true, true, true, true, true, true, true, true, true, true, true, false, false, false, false, false, false, false] rfl rfl (by kernel_rfl) (fun _ _ _ h => h) (Or.inr ⟨by rfl, rfl⟩) ?_ ?_
 rotate_left
 ·simp only [Act.put, List.setIfInBounds_toArray, List.set_cons_zero, List.set_cons_succ, i64_w, i32_w]
  rfl
 refine pure_ (i := 11) (N := some 46) (v := undef) (a' := ?_) #[true, true, true, true, true, true, true, true, true, true, true, true, false, false, false, false, false, false] rfl rfl (by kernel_rfl) (fun _ _ _ h => h) (Or.inr ⟨by rfl, rfl⟩) ?_ ?_
 rotate_left
 ·simp only [Act.put, List.setIfInBounds_toArray, List.set_cons_zero, List.set_cons_succ, i64_w, i32_w]
  rfl
 refine pure_ (i := 12) (N := some 47) (v := undef) (a' := ?_) #[true, true, true, true, true, true, true, true, true, true, true, true, true, false, false, false, false, false] rfl rfl (by kernel_rfl) (fun _ _ _ h => h) (Or.inr ⟨by rfl, rfl⟩) ?_ ?_
 rotate_left
 ·simp only [Act.put, List.setIfInBounds_toArray, List.set_cons_zero, List.set_cons_succ, i64_w, i32_w]
  rfl
 refine pure_ (i := 13) (N := some 48) (v := undef) (a' := ?_) #[true, true, true, true, true, true, true, true, true, true, true, true, true, true, false, false, false, false] rfl rfl (by kernel_rfl) (fun _ _ _ h => h) (Or.inr ⟨by rfl, rfl⟩) ?_ ?_
 rotate_left
 ·simp only [Act.put, List.setIfInBounds_toArray, List.set_cons_zero, List.set_cons_succ, i64_w, i32_w]
  rfl
 refine pure_ (i := 14) (N := some 49) (v := undef) (a' := ?_) #[true, true, true, true, true, true, true, true, true, true, true, true, true, true, true, false, false, false] rfl rfl (by kernel_rfl) (fun _ _ _ h => h) (Or.inr ⟨by rfl, rfl⟩) ?_ ?_
 rotate_left
 ·simp only [Act.put, List.setIfInBounds_toArray, List.set_cons_zero, List.set_cons_succ, i64_w, i32_w]
  rfl
 refine pure_ (i := 15) (N := some 50) (v := undef) (a' := ?_) #[true, true, true, true, true, true, true, true, true, true, true, true, true, true, true, true, false, false] rfl rfl (by kernel_rfl) (fun _ _ _ h => h) (Or.inr ⟨by rfl, rfl⟩) ?_ ?_
 rotate_left
 ·simp only [Act.put, List.setIfInBounds_toArray, List.set_cons_zero, List.set_cons_succ, i64_w, i32_w]
  rfl
 refine pu 16 51 ?_
 refine one_ (i := 17) (N := some 52) #[true, true, true, true, true, true, true, true, true, true, true, true, true, true, true, true, true, true] rfl rfl (by kernel_rfl) (by decide) (fun K hK => ?_)
 refine goes_ Tryd.func19 (by kernel_rfl) rfl #[.bool true] (by rfl) rfl rfl (by simp only [List.map_toArray, List.map_cons, List.map_nil]; rfl) ?_
 with_reducible refine (must_yes _).mono ?_
 rintro e w3 ⟨rfl, rfl⟩
 refine ⟨_, rfl, ?_⟩
 refine hK.out _ _ (hHeld) (fun hHeld => ?_)
 clear hK K
 refine norm_ (a' := ?_) ?_ ?_
 rotate_left
 ·show Act.put _ (some 52) _ = _
  simp only [Act.put, List.setIfInBounds_toArray, List.set_cons_zero, List.set_cons_succ, i64_w, i32_w]
  rfl
 refine done_ (by kernel_rfl) ?_
 clear t1 l_B q_B_0 q_B_1 q_B_2 q_B_3 q_B_4 q_B_5 q_B_6 q_B_7 q_B_8 q_B_9
 clear hHeld
 go_wp2_with fail
 obtain ⟨k, hk⟩ : ∃ k, nx + d = k := ⟨_, rfl⟩
 obtain ⟨j, hj⟩ : ∃ j, k + p = j + 1 := ⟨k + p - 1, by omega⟩
 have hjl : j < s.length := by have := (objM_in hob).2; omega
 have ej : nx + d + p - 1 = j := by omega
 rw [ej] at hw2
 clear ej
 have hwc := wd_cell HE.out CK.out.below hjl
 generalize wd s j = x at hwc hw2
 have hj0 : (0 : Int) ≤ (j : Int) := Int.natCast_nonneg _
 have hj1 : (j : Int) < (s.length : Int) := by omega
 have t1 : ((p : Int) == 0) = false := beq_eq_false_iff_ne.2 (by omega)
 have t2 : (x != 0) = false := bne_eq_false_iff_eq.2 hw2
 have HJ := Lib.hid hj
 have HKK := Lib.hid hk
 clear hj hk
 obtain ⟨y1_, y2_⟩ := sum_wraps HKK.out (by have := HLEN.out; have := HJ.out; omega)
 obtain ⟨x1_, x2_, x3_, x4_, x5_, x6_⟩ := idx_wraps HJ.out (by have := HLEN.out; omega)
 have l_B : w.heap.size < w3.heap.size := blk_lt B.out
 have q_B_0 := cq0 ⟨B.out⟩
 have q_B_1 := cq1 ⟨B.out⟩
 have q_B_2 := cq2 ⟨B.out⟩
 have q_B_3 := cq3 ⟨B.out⟩
 have q_B_4 := cq4 ⟨B.out⟩
 have q_B_5 := cq5 ⟨B.out⟩
 have q_B_6 := cq6 ⟨B.out⟩
 have q_B_7 := cq7 ⟨B.out⟩
 have q_B_8 := cq8 ⟨B.out⟩
 have q_B_9 := cq9 ⟨B.out⟩
 have l_K : g < w3.heap.size := blk_lt CK.out.blk
 have q_K_0 := cq0 ⟨CK.out.blk⟩
 refine start_ (n := 21) (S := fun w' => w'.cell? ⟨w.heap.size, 2, none⟩ = some (.int .i64 (d : Int)) ∧ w'.cell? ⟨w.heap.size, 3, none⟩ = some (.int .i64 (p : Int)) ∧ w'.cell? ⟨g, 0, none⟩ = some (.slice (some ⟨sb, so, none⟩) s.length cp) ∧ w'.cell? ⟨sb, so + j, none⟩ = some (.int .u64 x)) (ds := []) #[false, false, false, false, false, false, false, false, false, false, false, false, false, false, false, false, false, false, false, false, false] (by kernel_rfl) rfl rfl ⟨q_B_2, q_B_3, q_K_0, hwc⟩ (fun hHeld => ?_)
 obtain ⟨w4, hwd⟩ : ∃ W, W = w3.drew := ⟨_, rfl⟩
 rw [← hwd] at hHeld ⊢
 have hb : Below w3.heap.size w3 w4 := by rw [hwd]; exact (Below.refl _ _).drew
 clear hwd
 replace GK := Lib.hid (GK.out.then hb)
 replace CK := Lib.hid (CK.out.then hb)
 replace B := Lib.hid (blk_below B.out hb)
 clear hb
 refine pu 0 53 ?_
 refine tk4 1 54 hHeld ?_
 refine pu 2 55 ?_
 refine pu 3 56 ?_
 refine pu 4 57 ?_
 refine pu 5 58 ?_
 refine pu 6 59 ?_
 refine pu 8 61 ?_
 refine pu 9 62 ?_
 refine pu 12 65 ?_
 refine tk4 7 60 hHeld ?_
 refine tk4 10 63 hHeld ?_
 refine pu 11 64 ?_
 refine tk4 13 66 hHeld ?_
 refine pu 14 67 ?_
 refine pu 15 68 ?_
 refine pu 16 69 ?_
 refine tk4 17 70 hHeld ?_
 refine pu 18 71 ?_
 refine pu 19 72 ?_
 refine one_ (i := 20) (N := some 73) #[true, true, true, true, true, true, true, true, true, true, true, true, true, true, true, true, true, true, true, true, true] rfl rfl (by kernel_rfl) (by decide) (fun K hK => ?_)
 refine goes_bad Tryd.func19 (by kernel_rfl) rfl #[.bool false] (by rfl) rfl (by simp only [List.map_toArray, List.map_cons, List.map_nil]; rfl) ?_
 with_reducible refine (must_no _).mono ?_
 rintro e w3 ⟨rfl, rfl⟩
 refine ⟨_, rfl, ?_⟩
 clear hwc hj0 hj1 t1 t2 y1_ y2_ x1_ x2_ x3_ x4_ x5_ x6_ l_B q_B_0 q_B_1 q_B_2 q_B_3 q_B_4 q_B_5 q_B_6 q_B_7 q_B_8 q_B_9 l_K q_K_0
 clear hHeld
 exact ⟨rfl, rfl, GK.out⟩
set_option maxHeartbeats 4000000 in
theorem struct_4n {W0 w : World} {s : List Int} {cp g nx m : Nat} {D Wd O : Int} {sb so at_ d p : Nat} {off depth : Int} (hE : Env W0 s (some ⟨sb, so, none⟩)) (hK : Ck W0 s (some ⟨sb, so, none⟩) cp D Wd O g nx m w) (ha : at_ ≤ 17592186040320) (ho0 : -536870912 ≤ off) (ho1 : off ≤ 536870911) (hd : d ≤ 65535) (hp : p ≤ 65535) (hx : nx ≤ s.length) (hm : m ≤ 4611686018427387904) (hcp : s.length ≤ cp) (hdp : ¬ d + p = 0) (hob : objM s at_ off (d + p) nx = true) (hch : d + p ≤ m) (hdz : ¬ d = 0) (hw1 : ¬ wd s (nx + d - 1) = 0) (hpz : ¬ p = 0) (hw2 : wd s (nx + d + p - 1) = 0) :
  Calls Tryd.prog 33 #[.pointer (some ⟨g, 0, none⟩), .int .i64 at_, .int .i64 depth, .agg #[.int .i64 0, .int .i64 off, .int .i64 d, .int .i64 p, .int .i64 0, .int .i64 0, .bool false, .int .i64 0, .int .u32 0, .int .u32 0]] w fun e w' => e = .panicked [{ v := .iface 47 (.agg #[]), recovered := false }] ∧ Gr g w w' := by
 have HLEN := Lib.hid hE.len
 have hlen := hE.len
 have t0 : ((d : Int) + (p : Int) == 0) = false := beq_eq_false_iff_ne.2 (by omega)
 have GK := Lib.hid (Gr.refl g w)
 have CK := Lib.hid hK
 have HE := Lib.hid hE
 clear hE hK
 go_enter Tryd.func33, Tryd.ntmps33
 go_wp2_with fail
 have lg : g < w.heap.size := blk_lt CK.out.blk
 refine calls_at (fun wa hW => ?_)
 have hb : Below w.heap.size w wa := by rw [hW]; exact (Below.refl _ _).alloc (Nat.le_refl _) _
 have nB : wa.heap[w.heap.size]? = some (.cells #[.int .i64 0, .int .i64 off, .int .i64 d, .int .i64 p, .int .i64 0, .int .i64 0, .bool false, .int .i64 0, .int .u32 0, .int .u32 0] 67 (0, 0)) := by rw [hW]; exact heap_alloc_new _ _
 have neB : w.heap.size ≠ g := by omega
 clear hW lg
 replace GK := Lib.hid (GK.out.then hb)
 replace CK := Lib.hid (CK.out.then hb)
 clear hb
 have B := Lib.hid nB
 clear nB
 have e0 : ((d : Int) + (p : Int)) = ((d + p : Nat) : Int) := by omega
 rw [e0]
 clear e0
 refine (object_yes HE.out CK.out ha ⟨ho0, ho1⟩ (by omega) hx hcp hob).mono ?_
 rintro e w1 ⟨rfl, hg, hc⟩
 have gB : Hid (Gr g wa w1) := Lib.hid hg
 replace B := Lib.hid (gB.out.blk B.out neB)
 replace GK := Lib.hid (GK.out.trans gB.out)
 clear gB
 clear CK
 have CK := Lib.hid hc
 clear hg hc
 have l_B : w.heap.size < w1.heap.size := blk_lt B.out
 have q_B_0 := cq0 ⟨B.out⟩
 have q_B_1 := cq1 ⟨B.out⟩
 have q_B_2 := cq2 ⟨B.out⟩
 have q_B_3 := cq3 ⟨B.out⟩
 have q_B_4 := cq4 ⟨B.out⟩
 have q_B_5 := cq5 ⟨B.out⟩
 have q_B_6 := cq6 ⟨B.out⟩
 have q_B_7 := cq7 ⟨B.out⟩
 have q_B_8 := cq8 ⟨B.out⟩
 have q_B_9 := cq9 ⟨B.out⟩
 go_wp2_with fail
 clear l_B q_B_0 q_B_1 q_B_2 q_B_3 q_B_4 q_B_5 q_B_6 q_B_7 q_B_8 q_B_9
 have e0 : ((d : Int) + (p : Int)) = ((d + p : Nat) : Int) := by omega
 rw [e0]
 clear e0
 refine (charge_ok HE.out CK.out hch (by omega) (by omega)).mono ?_
 rintro e w2 (⟨q, hq, rfl, hg, hc⟩ | ⟨hq, _⟩)
 rotate_left
 ·cases hq
 cases hq
 have gB : Hid (Gr g w1 w2) := Lib.hid hg
 replace B := Lib.hid (gB.out.blk B.out neB)
 replace GK := Lib.hid (GK.out.trans gB.out)
 clear gB
 clear CK
 have CK := Lib.hid hc
 clear hg hc
 have l_B : w.heap.size < w2.heap.size := blk_lt B.out
 have q_B_0 := cq0 ⟨B.out⟩
 have q_B_1 := cq1 ⟨B.out⟩
 have q_B_2 := cq2 ⟨B.out⟩
 have q_B_3 := cq3 ⟨B.out⟩
 have q_B_4 := cq4 ⟨B.out⟩
 have q_B_5 := cq5 ⟨B.out⟩
 have q_B_6 := cq6 ⟨B.out⟩
 have q_B_7 := cq7 ⟨B.out⟩
 have q_B_8 := cq8 ⟨B.out⟩
 have q_B_9 := cq9 ⟨B.out⟩
 go_wp2_with fail
 clear l_B q_B_0 q_B_1 q_B_2 q_B_3 q_B_4 q_B_5 q_B_6 q_B_7 q_B_8 q_B_9
 obtain ⟨j, hj⟩ : ∃ j, nx + d = j + 1 := ⟨nx + d - 1, by omega⟩
 have hjl : j < s.length := by have := (objM_in hob).2; omega
 have ej : nx + d - 1 = j := by omega
 rw [ej] at hw1
 clear ej
 have hwc := wd_cell HE.out CK.out.below hjl
 generalize wd s j = x at hwc hw1
 have hj0 : (0 : Int) ≤ (j : Int) := Int.natCast_nonneg _
 have hj1 : (j : Int) < (s.length : Int) := by omega
 have t1 : ((d : Int) == 0) = false := beq_eq_false_iff_ne.2 (by omega)
 have t2 : (x != 0) = true := bne_iff_ne.2 hw1
 have HJ := Lib.hid hj
 clear hj
 obtain ⟨x1_, x2_, x3_, x4_, x5_, x6_⟩ := idx_wraps HJ.out (by have := HLEN.out; omega)
 have l_B : w.heap.size < w2.heap.size := blk_lt B.out
 have q_B_0 := cq0 ⟨B.out⟩
 have q_B_1 := cq1 ⟨B.out⟩
 have q_B_2 := cq2 ⟨B.out⟩
 have q_B_3 := cq3 ⟨B.out⟩
 have q_B_4 := cq4 ⟨B.out⟩
 have q_B_5 := cq5 ⟨B.out⟩
 have q_B_6 := cq6 ⟨B.out⟩
 have q_B_7 := cq7 ⟨B.out⟩
 have q_B_8 := cq8 ⟨B.out⟩
 have q_B_9 := cq9 ⟨B.out⟩
 have l_K : g < w2.heap.size := blk_lt CK.out.blk
 have q_K_0 := cq0 ⟨CK.out.blk⟩
 refine start_ (n := 18) (S := fun w' => w'.cell? ⟨w.heap.size, 2, none⟩ = some (.int .i64 (d : Int)) ∧ w'.cell? ⟨g, 0, none⟩ = some (.slice (some ⟨sb, so, none⟩) s.length cp) ∧ w'.cell? ⟨sb, so + j, none⟩ = some (.int .u64 x)) (ds := []) #[false, false, false, false, false, false, false, false, false, false, false, false, false, false, false, false, false, false] (by kernel_rfl) rfl rfl ⟨q_B_2, q_K_0, hwc⟩ (fun hHeld => ?_)
 obtain ⟨w3, hwd⟩ : ∃ W, W = w2.drew := ⟨_, rfl⟩
 rw [← hwd] at hHeld ⊢
 have hb : Below w2.heap.size w2 w3 := by rw [hwd]; exact (Below.refl _ _).drew
 clear hwd
 replace GK := Lib.hid (GK.out.then hb)
 replace CK := Lib.hid (CK.out.then hb)
 replace B := Lib.hid (blk_below B.out hb)
 clear hb
 refine pu 0 35 ?_
 refine tk3 1 36 hHeld ?_
 refine pu 2 37 ?_
 refine pu 3 38 ?_
 refine pu 4 39 ?_
 refine pu 5 40 ?_
 refine pu 6 41 ?_
 refine pu 8 43 ?_
 refine pu 9 44 ?_
 refine tk3 7 42 hHeld ?_
 refine tk3 10 45 hHeld ?_
 refine pu 11 46 ?_
 refine pu 12 47 ?_
 refine pu 13 48 ?_
 refine tk3 14 49 hHeld ?_
 refine pu 15 50 ?_
 refine pu 16 51 ?_
 refine one_ (i := 17) (N := some 52) #[true, true, true, true, true, true, true, true, true, true, true, true, true, true, true, true, true, true] rfl rfl (by kernel_rfl) (by decide) (fun K hK => ?_)
 refine goes_ Tryd.func19 (by kernel_rfl) rfl #[.bool true] (by rfl) rfl rfl (by simp only [List.map_toArray, List.map_cons, List.map_nil]; rfl) ?_
 with_reducible refine (must_yes _).mono ?_
 rintro e w3 ⟨rfl, rfl⟩
 refine ⟨_, rfl, ?_⟩
 refine hK.out _ _ ⟨hHeld.1, hHeld.2.1, hHeld.2.2⟩ (fun hHeld => ?_)
 clear hK K
 refine norm_ (a' := ?_) ?_ ?_
 rotate_left
 ·show Act.put _ (some 52) _ = _
  simp only [Act.put, List.setIfInBounds_toArray, List.set_cons_zero, List.set_cons_succ, i64_w, i32_w]
  rfl
 refine done_ (by kernel_rfl) ?_
 clear hwc hj0 hj1 t1 t2 x1_ x2_ x3_ x4_ x5_ x6_ l_B q_B_0 q_B_1 q_B_2 q_B_3 q_B_4 q_B_5 q_B_6 q_B_7 q_B_8 q_B_9 l_K q_K_0
 clear hHeld
 go_wp2_with fail
 obtain ⟨k, hk⟩ : ∃ k, nx + d = k := ⟨_, rfl⟩
 obtain ⟨j, hj⟩ : ∃ j, k + p = j + 1 := ⟨k + p - 1, by omega⟩
 have hjl : j < s.length := by have := (objM_in hob).2; omega
 have ej : nx + d + p - 1 = j := by omega
 rw [ej] at hw2
 clear ej
 have hwc := wd_cell HE.out CK.out.below hjl
 generalize wd s j = x at hwc hw2
 have hj0 : (0 : Int) ≤ (j : Int) := Int.natCast_nonneg _
 have hj1 : (j : Int) < (s.length : Int) := by omega
 have t1 : ((p : Int) == 0) = false := beq_eq_false_iff_ne.2 (by omega)
 have t2 : (x != 0) = false := bne_eq_false_iff_eq.2 hw2
 have HJ := Lib.hid hj
 have HKK := Lib.hid hk
 clear hj hk
 obtain ⟨y1_, y2_⟩ := sum_wraps HKK.out (by have := HLEN.out; have := HJ.out; omega)
 obtain ⟨x1_, x2_, x3_, x4_, x5_, x6_⟩ := idx_wraps HJ.out (by have := HLEN.out; omega)
 have l_B : w.heap.size < w3.heap.size := blk_lt B.out
 have q_B_0 := cq0 ⟨B.out⟩
 have q_B_1 := cq1 ⟨B.out⟩
 have q_B_2 := cq2 ⟨B.out⟩
 have q_B_3 := cq3 ⟨B.out⟩
 have q_B_4 := cq4 ⟨B.out⟩
 have q_B_5 := cq5 ⟨B.out⟩
 have q_B_6 := cq6 ⟨B.out⟩
 have q_B_7 := cq7 ⟨B.out⟩
 have q_B_8 := cq8 ⟨B.out⟩
 have q_B_9 := cq9 ⟨B.out⟩
 have l_K : g < w3.heap.size := blk_lt CK.out.blk
 have q_K_0 := cq0 ⟨CK.out.blk⟩
 refine start_ (n := 21) (S := fun w' => w'.cell? ⟨w.heap.size, 2, none⟩ = some (.int .i64 (d : Int)) ∧ w'.cell? ⟨w.heap.size, 3, none⟩ = some (.int .i64 (p : Int)) ∧ w'.cell? ⟨g, 0, none⟩ = some (.slice (some ⟨sb, so, none⟩) s.length cp) ∧ w'.cell? ⟨sb, so + j, none⟩ = some (.int .u64 x)) (ds := []) #[false, false, false, false, false, false, false, false, false, false, false, false, false, false, false, false, false, false, false, false, false] (by kernel_rfl) rfl rfl ⟨q_B_2, q_B_3, q_K_0, hwc⟩ (fun hHeld => ?_)
 obtain ⟨w4, hwd⟩ : ∃ W, W = w3.drew := ⟨_, rfl⟩
 rw [← hwd] at hHeld ⊢
 have hb : Below w3.heap.size w3 w4 := by rw [hwd]; exact (Below.refl _ _).drew
 clear hwd
 replace GK := Lib.hid (GK.out.then hb)
 replace CK := Lib.hid (CK.out.then hb)
 replace B := Lib.hid (blk_below B.out hb)
 clear hb
 refine pu 0 53 ?_
 refine tk4 1 54 hHeld ?_
 refine pu 2 55 ?_
 refine pu 3 56 ?_
 refine pu 4 57 ?_
 refine pu 5 58 ?_
 refine pu 6 59 ?_
 refine pu 8 61 ?_
 refine pu 9 62 ?_
 refine pu 12 65 ?_
 refine tk4 7 60 hHeld ?_
 refine tk4 10 63 hHeld ?_
 refine pu 11 64 ?_
 refine tk4 13 66 hHeld ?_
 refine pu 14 67 ?_
 refine pu 15 68 ?_
 refine pu 16 69 ?_
 refine tk4 17 70 hHeld ?_
 refine pu 18 71 ?_
 refine pu 19 72 ?_
 refine one_ (i := 20) (N := some 73) #[true, true, true, true, true, true, true, true, true, true, true, true, true, true, true, true, true, true, true, true, true] rfl rfl (by kernel_rfl) (by decide) (fun K hK => ?_)
 refine goes_bad Tryd.func19 (by kernel_rfl) rfl #[.bool false] (by rfl) rfl (by simp only [List.map_toArray, List.map_cons, List.map_nil]; rfl) ?_
 with_reducible refine (must_no _).mono ?_
 rintro e w3 ⟨rfl, rfl⟩
 refine ⟨_, rfl, ?_⟩
 clear hwc hj0 hj1 t1 t2 y1_ y2_ x1_ x2_ x3_ x4_ x5_ x6_ l_B q_B_0 q_B_1 q_B_2 q_B_3 q_B_4 q_B_5 q_B_6 q_B_7 q_B_8 q_B_9 l_K q_K_0
 clear hHeld
 exact ⟨rfl, rfl, GK.out⟩
set_option maxHeartbeats 4000000 in
theorem struct_5zn {W0 w : World} {s : List Int} {cp g nx m : Nat} {D Wd O : Int} {sb so at_ d p : Nat} {off depth : Int} (hE : Env W0 s (some ⟨sb, so, none⟩)) (hK : Ck W0 s (some ⟨sb, so, none⟩) cp D Wd O g nx m w) (ha : at_ ≤ 17592186040320) (ho0 : -536870912 ≤ off) (ho1 : off ≤ 536870911) (hd : d ≤ 65535) (hp : p ≤ 65535) (hx : nx ≤ s.length) (hm : m ≤ 4611686018427387904) (hcp : s.length ≤ cp) {v : Nat → Nat → Nat → Option (Nat × Nat)} (hv : InM s v) (hd0_ : 0 ≤ depth) (hd1_ : depth ≤ 1000000) (hV : VisC W0 s (some ⟨sb, so, none⟩) cp D Wd O g v (depth + 1)) (hdp : ¬ d + p = 0) (hob : objM s at_ off (d + p) nx = true) (hch : d + p ≤ m) (hdz : d = 0) (hpz : ¬ p = 0) (hw2 : ¬ wd s (nx + d + p - 1) = 0)  :
  Calls Tryd.prog 33 #[.pointer (some ⟨g, 0, none⟩), .int .i64 at_, .int .i64 depth, .agg #[.int .i64 0, .int .i64 off, .int .i64 d, .int .i64 p, .int .i64 0, .int .i64 0, .bool false, .int .i64 0, .int .u32 0, .int .u32 0]] w fun e w' => EndM W0 s (some ⟨sb, so, none⟩) cp D Wd O g w (ptrsM v p (nx + d) (nx + (d + p)) (m - (d + p))) e w' := by
 have HLEN := Lib.hid hE.len
 have hlen := hE.len
 have t0 : ((d : Int) + (p : Int) == 0) = false := beq_eq_false_iff_ne.2 (by omega)
 have HI := Lib.hid hv
 have HV := Lib.hid hV
 clear hv hV
 have H_hdz := Lib.hid hdz
 clear hdz
 have GK := Lib.hid (Gr.refl g w)
 have CK := Lib.hid hK
 have HE := Lib.hid hE
 clear hE hK
 go_enter Tryd.func33, Tryd.ntmps33
 go_wp2_with fail
 have lg : g < w.heap.size := blk_lt CK.out.blk
 refine calls_at (fun wa hW => ?_)
 have hb : Below w.heap.size w wa := by rw [hW]; exact (Below.refl _ _).alloc (Nat.le_refl _) _
 have nB : wa.heap[w.heap.size]? = some (.cells #[.int .i64 0, .int .i64 off, .int .i64 d, .int .i64 p, .int .i64 0, .int .i64 0, .bool false, .int .i64 0, .int .u32 0, .int .u32 0] 67 (0, 0)) := by rw [hW]; exact heap_alloc_new _ _
 have neB : w.heap.size ≠ g := by omega
 clear hW lg
 replace GK := Lib.hid (GK.out.then hb)
 replace CK := Lib.hid (CK.out.then hb)
 clear hb
 have B := Lib.hid nB
 clear nB
 have e0 : ((d : Int) + (p : Int)) = ((d + p : Nat) : Int) := by omega
 rw [e0]
 clear e0
 refine (object_yes HE.out CK.out ha ⟨ho0, ho1⟩ (by omega) hx hcp hob).mono ?_
 rintro e w1 ⟨rfl, hg, hc⟩
 have gB : Hid (Gr g wa w1) := Lib.hid hg
 replace B := Lib.hid (gB.out.blk B.out neB)
 replace GK := Lib.hid (GK.out.trans gB.out)
 clear gB
 clear CK
 have CK := Lib.hid hc
 clear hg hc
 have l_B : w.heap.size < w1.heap.size := blk_lt B.out
 have q_B_0 := cq0 ⟨B.out⟩
 have q_B_1 := cq1 ⟨B.out⟩
 have q_B_2 := cq2 ⟨B.out⟩
 have q_B_3 := cq3 ⟨B.out⟩
 have q_B_4 := cq4 ⟨B.out⟩
 have q_B_5 := cq5 ⟨B.out⟩
 have q_B_6 := cq6 ⟨B.out⟩
 have q_B_7 := cq7 ⟨B.out⟩
 have q_B_8 := cq8 ⟨B.out⟩
 have q_B_9 := cq9 ⟨B.out⟩
 go_wp2_with fail
 clear l_B q_B_0 q_B_1 q_B_2 q_B_3 q_B_4 q_B_5 q_B_6 q_B_7 q_B_8 q_B_9
 have e0 : ((d : Int) + (p : Int)) = ((d + p : Nat) : Int) := by omega
 rw [e0]
 clear e0
 refine (charge_ok HE.out CK.out hch (by omega) (by omega)).mono ?_
 rintro e w2 (⟨q, hq, rfl, hg, hc⟩ | ⟨hq, _⟩)
 rotate_left
 ·cases hq
 cases hq
 have gB : Hid (Gr g w1 w2) := Lib.hid hg
 replace B := Lib.hid (gB.out.blk B.out neB)
 replace GK := Lib.hid (GK.out.trans gB.out)
 clear gB
 clear CK
 have CK := Lib.hid hc
 clear hg hc
 have l_B : w.heap.size < w2.heap.size := blk_lt B.out
 have q_B_0 := cq0 ⟨B.out⟩
 have q_B_1 := cq1 ⟨B.out⟩
 have q_B_2 := cq2 ⟨B.out⟩
 have q_B_3 := cq3 ⟨B.out⟩
 have q_B_4 := cq4 ⟨B.out⟩
 have q_B_5 := cq5 ⟨B.out⟩
 have q_B_6 := cq6 ⟨B.out⟩
 have q_B_7 := cq7 ⟨B.out⟩
 have q_B_8 := cq8 ⟨B.out⟩
 have q_B_9 := cq9 ⟨B.out⟩
 go_wp2_with fail
 clear l_B q_B_0 q_B_1 q_B_2 q_B_3 q_B_4 q_B_5 q_B_6 q_B_7 q_B_8 q_B_9
 have t1 : ((d : Int) == 0) = true := beq_iff_eq.2 (by have := H_hdz.out; omega)
 have l_B : w.heap.size < w2.heap.size := blk_lt B.out
 have q_B_0 := cq0 ⟨B.out⟩
 have q_B_1 := cq1 ⟨B.out⟩
 have q_B_2 := cq2 ⟨B.out⟩
 have q_B_3 := cq3 ⟨B.out⟩
 have q_B_4 := cq4 ⟨B.out⟩
 have q_B_5 := cq5 ⟨B.out⟩
 have q_B_6 := cq6 ⟨B.out⟩
 have q_B_7 := cq7 ⟨B.out⟩
 have q_B_8 := cq8 ⟨B.out⟩
 have q_B_9 := cq9 ⟨B.out⟩
 refine start_ (n := 18) (S := fun w' => w'.cell? ⟨w.heap.size, 2, none⟩ = some (.int .i64 (d : Int))) (ds := []) #[false, false, false, false, false, false, false, false, false, false, false, false, false, false, false, false, false, false] (by kernel_rfl) rfl rfl (q_B_2) (fun hHeld => ?_)
 obtain ⟨w3, hwd⟩ : ∃ W, W = w2.drew := ⟨_, rfl⟩
 rw [← hwd] at hHeld ⊢
 have hb : Below w2.heap.size w2 w3 := by rw [hwd]; exact (Below.refl _ _).drew
 clear hwd
 replace GK := Lib.hid (GK.out.then hb)
 replace CK := Lib.hid (CK.out.then hb)
 replace B := Lib.hid (blk_below B.out hb)
 clear hb
 refine pu 0 35 ?_
 refine tk1 1 36 hHeld ?_
 refine pu 2 37 ?_
 refine pu 3 38 ?_
 refine pure_ (i := 4) (N := some 39) (v := undef) (a' := ?_) #[true, true, true, true, true, false, false, false, false, false, false, false, false, false, false, false, false, false] rfl rfl (by kernel_rfl) (fun _ _ _ h => h) (Or.inr ⟨by rfl, rfl⟩) ?_ ?_
 rotate_left
 ·simp only [Act.put, List.setIfInBounds_toArray, List.set_cons_zero, List.set_cons_succ, i64_w, i32_w]
  rfl
 refine pure_ (i := 5) (N := some 40) (v := undef) (a' := ?_) #[true, true, true, true, true, true, false, false, false, false, false, false, false, false, false, false, false, false] rfl rfl (by kernel_rfl) (fun _ _ _ h => h) (Or.inr ⟨by rfl, rfl⟩) ?_ ?_
 rotate_left
 ·simp only [Act.put, List.setIfInBounds_toArray, List.set_cons_zero, List.set_cons_succ, i64_w, i32_w]
  rfl
 refine pure_ (i := 6) (N := some 41) (v := undef) (a' := ?_) #[true, true, true, true, true, true, true, false, false, false, false, false, false, false, false, false, false, false] rfl rfl (by kernel_rfl) (fun _ _ _ h => h) (Or.inr ⟨by rfl, rfl⟩) ?_ ?_
 rotate_left
 ·simp only [Act.put, List.setIfInBounds_toArray, List.set_cons_zero, List.set_cons_succ, i64_w, i32_w]
  rfl
 refine pure_ (i := 7) (N := some 42) (v := undef) (a' := ?_) #[true, true, true, true, true, true, true, true, false, false, false, false, false, false, false, false, false, false] rfl rfl (by kernel_rfl) (fun _ _ _ h => h) (Or.inr ⟨by rfl, rfl⟩) ?_ ?_
 rotate_left
 ·simp only [Act.put, List.setIfInBounds_toArray, List.set_cons_zero, List.set_cons_succ, i64_w, i32_w]
  rfl
 refine pure_ (i := 8) (N := some 43) (v := undef) (a' := ?_) #[true, true, true, true, true, true, true, true, true, false, false, false, false, false, false, false, false, false] rfl rfl (by kernel_rfl) (fun _ _ _ h => h) (Or.inr ⟨by rfl, rfl⟩) ?_ ?_
 rotate_left
 ·simp only [Act.put, List.setIfInBounds_toArray, List.set_cons_zero, List.set_cons_succ, i64_w, i32_w]
  rfl
 refine pure_ (i := 9) (N := some 44) (v := undef) (a' := ?_) #[true, true, true, true, true, true, true, true, true, true, false, false, false, false, false, false, false, false] rfl rfl (by kernel_rfl) (fun _ _ _ h => h) (Or.inr ⟨by rfl, rfl⟩) ?_ ?_
 rotate_left
 ·simp only [Act.put, List.setIfInBounds_toArray, List.set_cons_zero, List.set_cons_succ, i64_w, i32_w]
  rfl
 refine pure_ (i := 10) (N := some 45) (v := undef) (a' := ?_) #[true, true, true, true, true, true, true, true, true, true, true, false, false, false, false, false, false, false] rfl rfl (by kernel_rfl) (fun _ _ _ h => h) (Or.inr ⟨by rfl, rfl⟩) ?_ ?_
 rotate_left
 ·simp only [Act.put, List.setIfInBounds_toArray, List.set_cons_zero, List.set_cons_succ, i64_w, i32_w]
  rfl
 refine pure_ (i := 11) (N := some 46) (v := undef) (a' := ?_) #[true, true, true, true, true, true, true, true, true, true, true, true, false, false, false, false, false, false] rfl rfl (by kernel_rfl) (fun _ _ _ h => h) (Or.inr ⟨by rfl, rfl⟩) ?_ ?_
 rotate_left
 ·simp only [Act.put, List.setIfInBounds_toArray, List.set_cons_zero, List.set_cons_succ, i64_w, i32_w]
  rfl
 refine pure_ (i := 12) (N := some 47) (v := undef) (a' := ?_) #[true, true, true, true, true, true, true, true, true, true, true, true, true, false, false, false, false, false] rfl rfl (by kernel_rfl) (fun _ _ _ h => h) (Or.inr ⟨by rfl, rfl⟩) ?_ ?_
 rotate_left
 ·simp only [Act.put, List.setIfInBounds_toArray, List.set_cons_zero, List.set_cons_succ, i64_w, i32_w]
  rfl
 refine pure_ (i := 13) (N := some 48) (v := undef) (a' := ?_) #[true, true, true, true, true, true, true, true, true, true, true, true, true, true, false, false, false, false] rfl rfl (by kernel_rfl) (fun _ _ _ h => h) (Or.inr ⟨by rfl, rfl⟩) ?_ ?_
 rotate_left
 ·simp only [Act.put, List.setIfInBounds_toArray, List.set_cons_zero, List.set_cons_succ, i64_w, i32_w]
  rfl
 refine pure_ (i := 14) (N := some 49) (v := undef) (a' := ?_) #[true, true, true, true, true, true, true, true, true, true, true, true, true, true, true, false, false, false] rfl rfl (by kernel_rfl) (fun _ _ _ h => h) (Or.inr ⟨by rfl, rfl⟩) ?_ ?_
 rotate_left
 ·simp only [Act.put, List.setIfInBounds_toArray, List.set_cons_zero, List.set_cons_succ, i64_w, i32_w]
  rfl
 refine pure_ (i := 15) (N := some 50) (v := undef) (a' := ?_) #[true, true, true, true, true, true, true, true, true, true, true, true, true, true, true, true, false, false] rfl rfl (by kernel_rfl) (fun _ _ _ h => h) (Or.inr ⟨by rfl, rfl⟩) ?_ ?_
 rotate_left
 ·simp only [Act.put, List.setIfInBounds_toArray, List.set_cons_zero, List.set_cons_succ, i64_w, i32_w]
  rfl
 refine pu 16 51 ?_
 refine one_ (i := 17) (N := some 52) #[true, true, true, true, true, true, true, true, true, true, true, true, true, true, true, true, true, true] rfl rfl (by kernel_rfl) (by decide) (fun K hK => ?_)
 refine goes_ Tryd.func19 (by kernel_rfl) rfl #[.bool true] (by rfl) rfl rfl (by simp only [List.map_toArray, List.map_cons, List.map_nil]; rfl) ?_
 with_reducible refine (must_yes _).mono ?_
 rintro e w3 ⟨rfl, rfl⟩
 refine ⟨_, rfl, ?_⟩
 refine hK.out _ _ (hHeld) (fun hHeld => ?_)
 clear hK K
 refine norm_ (a' := ?_) ?_ ?_
 rotate_left
 ·show Act.put _ (some 52) _ = _
  simp only [Act.put, List.setIfInBounds_toArray, List.set_cons_zero, List.set_cons_succ, i64_w, i32_w]
  rfl
 refine done_ (by kernel_rfl) ?_
 clear t1 l_B q_B_0 q_B_1 q_B_2 q_B_3 q_B_4 q_B_5 q_B_6 q_B_7 q_B_8 q_B_9
 clear hHeld
 go_wp2_with fail
 obtain ⟨k, hk⟩ : ∃ k, nx + d = k := ⟨_, rfl⟩
 obtain ⟨j, hj⟩ : ∃ j, k + p = j + 1 := ⟨k + p - 1, by omega⟩
 have hjl : j < s.length := by have := (objM_in hob).2; omega
 have ej : nx + d + p - 1 = j := by omega
 rw [ej] at hw2
 clear ej
 have hwc := wd_cell HE.out CK.out.below hjl
 generalize wd s j = x at hwc hw2
 have hj0 : (0 : Int) ≤ (j : Int) := Int.natCast_nonneg _
 have hj1 : (j : Int) < (s.length : Int) := by omega
 have t1 : ((p : Int) == 0) = false := beq_eq_false_iff_ne.2 (by omega)
 have t2 : (x != 0) = true := bne_iff_ne.2 hw2
 have HJ := Lib.hid hj
 have HKK := Lib.hid hk
 clear hj hk
 obtain ⟨y1_, y2_⟩ := sum_wraps HKK.out (by have := HLEN.out; have := HJ.out; omega)
 obtain ⟨x1_, x2_, x3_, x4_, x5_, x6_⟩ := idx_wraps HJ.out (by have := HLEN.out; omega)
 have l_B : w.heap.size < w3.heap.size := blk_lt B.out
 have q_B_0 := cq0 ⟨B.out⟩
 have q_B_1 := cq1 ⟨B.out⟩
 have q_B_2 := cq2 ⟨B.out⟩
 have q_B_3 := cq3 ⟨B.out⟩
 have q_B_4 := cq4 ⟨B.out⟩
 have q_B_5 := cq5 ⟨B.out⟩
 have q_B_6 := cq6 ⟨B.out⟩
 have q_B_7 := cq7 ⟨B.out⟩
 have q_B_8 := cq8 ⟨B.out⟩
 have q_B_9 := cq9 ⟨B.out⟩
 have l_K : g < w3.heap.size := blk_lt CK.out.blk
 have q_K_0 := cq0 ⟨CK.out.blk⟩
 refine start_ (n := 21) (S := fun w' => w'.cell? ⟨w.heap.size, 2, none⟩ = some (.int .i64 (d : Int)) ∧ w'.cell? ⟨w.heap.size, 3, none⟩ = some (.int .i64 (p : Int)) ∧ w'.cell? ⟨g, 0, none⟩ = some (.slice (some ⟨sb, so, none⟩) s.length cp) ∧ w'.cell? ⟨sb, so + j, none⟩ = some (.int .u64 x)) (ds := []) #[false, false, false, false, false, false, false, false, false, false, false, false, false, false, false, false, false, false, false, false, false] (by kernel_rfl) rfl rfl ⟨q_B_2, q_B_3, q_K_0, hwc⟩ (fun hHeld => ?_)
 obtain ⟨w4, hwd⟩ : ∃ W, W = w3.drew := ⟨_, rfl⟩
 rw [← hwd] at hHeld ⊢
 have hb : Below w3.heap.size w3 w4 := by rw [hwd]; exact (Below.refl _ _).drew
 clear hwd
 replace GK := Lib.hid (GK.out.then hb)
 replace CK := Lib.hid (CK.out.then hb)
 replace B := Lib.hid (blk_below B.out hb)
 clear hb
 refine pu 0 53 ?_
 refine tk4 1 54 hHeld ?_
 refine pu 2 55 ?_
 refine pu 3 56 ?_
 refine pu 4 57 ?_
 refine pu 5 58 ?_
 refine pu 6 59 ?_
 refine pu 8 61 ?_
 refine pu 9 62 ?_
 refine pu 12 65 ?_
 refine tk4 7 60 hHeld ?_
 refine tk4 10 63 hHeld ?_
 refine pu 11 64 ?_
 refine tk4 13 66 hHeld ?_
 refine pu 14 67 ?_
 refine pu 15 68 ?_
 refine pu 16 69 ?_
 refine tk4 17 70 hHeld ?_
 refine pu 18 71 ?_
 refine pu 19 72 ?_
 refine one_ (i := 20) (N := some 73) #[true, true, true, true, true, true, true, true, true, true, true, true, true, true, true, true, true, true, true, true, true] rfl rfl (by kernel_rfl) (by decide) (fun K hK => ?_)
 refine goes_ Tryd.func19 (by kernel_rfl) rfl #[.bool true] (by rfl) rfl rfl (by simp only [List.map_toArray, List.map_cons, List.map_nil]; rfl) ?_
 with_reducible refine (must_yes _).mono ?_
 rintro e w3 ⟨rfl, rfl⟩
 refine ⟨_, rfl, ?_⟩
 refine hK.out _ _ ⟨hHeld.1, hHeld.2.1, hHeld.2.2.1, hHeld.2.2.2⟩ (fun hHeld => ?_)
 clear hK K
 refine norm_ (a' := ?_) ?_ ?_
 rotate_left
 ·show Act.put _ (some 73) _ = _
  simp only [Act.put, List.setIfInBounds_toArray, List.set_cons_zero, List.set_cons_succ, i64_w, i32_w]
  rfl
 refine done_ (by kernel_rfl) ?_
 clear hwc hj0 hj1 t1 t2 y1_ y2_ x1_ x2_ x3_ x4_ x5_ x6_ l_B q_B_0 q_B_1 q_B_2 q_B_3 q_B_4 q_B_5 q_B_6 q_B_7 q_B_8 q_B_9 l_K q_K_0
 clear hHeld
 have l_B : w.heap.size < w4.heap.size := blk_lt B.out
 have q_B_0 := cq0 ⟨B.out⟩
 have q_B_1 := cq1 ⟨B.out⟩
 have q_B_2 := cq2 ⟨B.out⟩
 have q_B_3 := cq3 ⟨B.out⟩
 have q_B_4 := cq4 ⟨B.out⟩
 have q_B_5 := cq5 ⟨B.out⟩
 have q_B_6 := cq6 ⟨B.out⟩
 have q_B_7 := cq7 ⟨B.out⟩
 have q_B_8 := cq8 ⟨B.out⟩
 have q_B_9 := cq9 ⟨B.out⟩
 go_wp2_with fail
 clear l_B q_B_0 q_B_1 q_B_2 q_B_3 q_B_4 q_B_5 q_B_6 q_B_7 q_B_8 q_B_9
 have e0 : ((nx : Int) + (d : Int)) = ((nx + d : Nat) : Int) := by omega
 rw [e0]
 clear e0
 refine (pointers_any HE.out CK.out HI.out hd0_ hd1_ HV.out (by have := (objM_in hob).2; omega) (objM_in hob).2 (by omega)).mono ?_
 rintro e w5 (⟨q, hq, rfl, hg, hc⟩ | ⟨hq, rfl, hg⟩)
 ·have hg' := GK.out.trans hg
  have HQ := Lib.hid hq
  clear hq hg
  go_wp2
  go_end0
  exact .inl ⟨q, HQ.out, rfl, hg', hc⟩
 ·have hg' := GK.out.trans hg
  have HQ := Lib.hid hq
  clear hq hg
  go_wp2
  exact ⟨rfl, .inr ⟨HQ.out, rfl, hg'⟩⟩
set_option maxHeartbeats 4000000 in
theorem struct_5nz {W0 w : World} {s : List Int} {cp g nx m : Nat} {D Wd O : Int} {sb so at_ d p : Nat} {off depth : Int} (hE : Env W0 s (some ⟨sb, so, none⟩)) (hK : Ck W0 s (some ⟨sb, so, none⟩) cp D Wd O g nx m w) (ha : at_ ≤ 17592186040320) (ho0 : -536870912 ≤ off) (ho1 : off ≤ 536870911) (hd : d ≤ 65535) (hp : p ≤ 65535) (hx : nx ≤ s.length) (hm : m ≤ 4611686018427387904) (hcp : s.length ≤ cp) {v : Nat → Nat → Nat → Option (Nat × Nat)} (hv : InM s v) (hd0_ : 0 ≤ depth) (hd1_ : depth ≤ 1000000) (hV : VisC W0 s (some ⟨sb, so, none⟩) cp D Wd O g v (depth + 1)) (hdp : ¬ d + p = 0) (hob : objM s at_ off (d + p) nx = true) (hch : d + p ≤ m) (hdz : ¬ d = 0) (hw1 : ¬ wd s (nx + d - 1) = 0) (hpz : p = 0)  :
  Calls Tryd.prog 33 #[.pointer (some ⟨g, 0, none⟩), .int .i64 at_, .int .i64 depth, .agg #[.int .i64 0, .int .i64 off, .int .i64 d, .int .i64 p, .int .i64 0, .int .i64 0, .bool false, .int .i64 0, .int .u32 0, .int .u32 0]] w fun e w' => EndM W0 s (some ⟨sb, so, none⟩) cp D Wd O g w (ptrsM v p (nx + d) (nx + (d + p)) (m - (d + p))) e w' := by
 have HLEN := Lib.hid hE.len
 have hlen := hE.len
 have t0 : ((d : Int) + (p : Int) == 0) = false := beq_eq_false_iff_ne.2 (by omega)
 have HI := Lib.hid hv
 have HV := Lib.hid hV
 clear hv hV
 have H_hpz := Lib.hid hpz
 clear hpz
 have GK := Lib.hid (Gr.refl g w)
 have CK := Lib.hid hK
 have HE := Lib.hid hE
 clear hE hK
 go_enter Tryd.func33, Tryd.ntmps33
 go_wp2_with fail
 have lg : g < w.heap.size := blk_lt CK.out.blk
 refine calls_at (fun wa hW => ?_)
 have hb : Below w.heap.size w wa := by rw [hW]; exact (Below.refl _ _).alloc (Nat.le_refl _) _
 have nB : wa.heap[w.heap.size]? = some (.cells #[.int .i64 0, .int .i64 off, .int .i64 d, .int .i64 p, .int .i64 0, .int .i64 0, .bool false, .int .i64 0, .int .u32 0, .int .u32 0] 67 (0, 0)) := by rw [hW]; exact heap_alloc_new _ _
 have neB : w.heap.size ≠ g := by omega
 clear hW lg
 replace GK := Lib.hid (GK.out.then hb)
 replace CK := Lib.hid (CK.out.then hb)
 clear hb
 have B := Lib.hid nB
 clear nB
 have e0 : ((d : Int) + (p : Int)) = ((d + p : Nat) : Int) := by omega
 rw [e0]
 clear e0
 refine (object_yes HE.out CK.out ha ⟨ho0, ho1⟩ (by omega) hx hcp hob).mono ?_
 rintro e w1 ⟨rfl, hg, hc⟩
 have gB : Hid (Gr g wa w1) := Lib.hid hg
 replace B := Lib.hid (gB.out.blk B.out neB)
 replace GK := Lib.hid (GK.out.trans gB.out)
 clear gB
 clear CK
 have CK := Lib.hid hc
 clear hg hc
 have l_B : w.heap.size < w1.heap.size := blk_lt B.out
 have q_B_0 := cq0 ⟨B.out⟩
 have q_B_1 := cq1 ⟨B.out⟩
 have q_B_2 := cq2 ⟨B.out⟩
 have q_B_3 := cq3 ⟨B.out⟩
 have q_B_4 := cq4 ⟨B.out⟩
 have q_B_5 := cq5 ⟨B.out⟩
 have q_B_6 := cq6 ⟨B.out⟩
 have q_B_7 := cq7 ⟨B.out⟩
 have q_B_8 := cq8 ⟨B.out⟩
 have q_B_9 := cq9 ⟨B.out⟩
 go_wp2_with fail
 clear l_B q_B_0 q_B_1 q_B_2 q_B_3 q_B_4 q_B_5 q_B_6 q_B_7 q_B_8 q_B_9
 have e0 : ((d : Int) + (p : Int)) = ((d + p : Nat) : Int) := by omega
 rw [e0]
 clear e0
 refine (charge_ok HE.out CK.out hch (by omega) (by omega)).mono ?_
 rintro e w2 (⟨q, hq, rfl, hg, hc⟩ | ⟨hq, _⟩)
 rotate_left
 ·cases hq
 cases hq
 have gB : Hid (Gr g w1 w2) := Lib.hid hg
 replace B := Lib.hid (gB.out.blk B.out neB)
 replace GK := Lib.hid (GK.out.trans gB.out)
 clear gB
 clear CK
 have CK := Lib.hid hc
 clear hg hc
 have l_B : w.heap.size < w2.heap.size := blk_lt B.out
 have q_B_0 := cq0 ⟨B.out⟩
 have q_B_1 := cq1 ⟨B.out⟩
 have q_B_2 := cq2 ⟨B.out⟩
 have q_B_3 := cq3 ⟨B.out⟩
 have q_B_4 := cq4 ⟨B.out⟩
 have q_B_5 := cq5 ⟨B.out⟩
 have q_B_6 := cq6 ⟨B.out⟩
 have q_B_7 := cq7 ⟨B.out⟩
 have q_B_8 := cq8 ⟨B.out⟩
 have q_B_9 := cq9 ⟨B.out⟩
 go_wp2_with fail
 clear l_B q_B_0 q_B_1 q_B_2 q_B_3 q_B_4 q_B_5 q_B_6 q_B_7 q_B_8 q_B_9
 obtain ⟨j, hj⟩ : ∃ j, nx + d = j + 1 := ⟨nx + d - 1, by omega⟩
 have hjl : j < s.length := by have := (objM_in hob).2; omega
 have ej : nx + d - 1 = j := by omega
 rw [ej] at hw1
 clear ej
 have hwc := wd_cell HE.out CK.out.below hjl
 generalize wd s j = x at hwc hw1
 have hj0 : (0 : Int) ≤ (j : Int) := Int.natCast_nonneg _
 have hj1 : (j : Int) < (s.length : Int) := by omega
 have t1 : ((d : Int) == 0) = false := beq_eq_false_iff_ne.2 (by omega)
 have t2 : (x != 0) = true := bne_iff_ne.2 hw1
 have HJ := Lib.hid hj
 clear hj
 obtain ⟨x1_, x2_, x3_, x4_, x5_, x6_⟩ := idx_wraps HJ.out (by have := HLEN.out; omega)
 have l_B : w.heap.size < w2.heap.size := blk_lt B.out
 have q_B_0 := cq0 ⟨B.out⟩
 have q_B_1 := cq1 ⟨B.out⟩
 have q_B_2 := cq2 ⟨B.out⟩
 have q_B_3 := cq3 ⟨B.out⟩
 have q_B_4 := cq4 ⟨B.out⟩
 have q_B_5 := cq5 ⟨B.out⟩
 have q_B_6 := cq6 ⟨B.out⟩
 have q_B_7 := cq7 ⟨B.out⟩
 have q_B_8 := cq8 ⟨B.out⟩
 have q_B_9 := cq9 ⟨B.out⟩
 have l_K : g < w2.heap.size := blk_lt CK.out.blk
 have q_K_0 := cq0 ⟨CK.out.blk⟩
 refine start_ (n := 18) (S := fun w' => w'.cell? ⟨w.heap.size, 2, none⟩ = some (.int .i64 (d : Int)) ∧ w'.cell? ⟨g, 0, none⟩ = some (.slice (some ⟨sb, so, none⟩) s.length cp) ∧ w'.cell? ⟨sb, so + j, none⟩ = some (.int .u64 x)) (ds := []) #[false, false, false, false, false, false, false, false, false, false, false, false, false, false, false, false, false, false] (by kernel_rfl) rfl rfl ⟨q_B_2, q_K_0, hwc⟩ (fun hHeld => ?_)
 obtain ⟨w3, hwd⟩ : ∃ W, W = w2.drew := ⟨_, rfl⟩
 rw [← hwd] at hHeld ⊢
 have hb : Below w2.heap.size w2 w3 := by rw [hwd]; exact (Below.refl _ _).drew
 clear hwd
 replace GK := Lib.hid (GK.out.then hb)
 replace CK := Lib.hid (CK.out.then hb)
 replace B := Lib.hid (blk_below B.out hb)
 clear hb
 refine pu 0 35 ?_
 refine tk3 1 36 hHeld ?_
 refine pu 2 37 ?_
 refine pu 3 38 ?_
 refine pu 4 39 ?_
 refine pu 5 40 ?_
 refine pu 6 41 ?_
 refine pu 8 43 ?_
 refine pu 9 44 ?_
 refine tk3 7 42 hHeld ?_
 refine tk3 10 45 hHeld ?_
 refine pu 11 46 ?_
 refine pu 12 47 ?_
 refine pu 13 48 ?_
 refine tk3 14 49 hHeld ?_
 refine pu 15 50 ?_
 refine pu 16 51 ?_
 refine one_ (i := 17) (N := some 52) #[true, true, true, true, true, true, true, true, true, true, true, true, true, true, true, true, true, true] rfl rfl (by kernel_rfl) (by decide) (fun K hK => ?_)
 refine goes_ Tryd.func19 (by kernel_rfl) rfl #[.bool true] (by rfl) rfl rfl (by simp only [List.map_toArray, List.map_cons, List.map_nil]; rfl) ?_
 with_reducible refine (must_yes _).mono ?_
 rintro e w3 ⟨rfl, rfl⟩
 refine ⟨_, rfl, ?_⟩
 refine hK.out _ _ ⟨hHeld.1, hHeld.2.1, hHeld.2.2⟩ (fun hHeld => ?_)
 clear hK K
 refine norm_ (a' := ?_) ?_ ?_
 rotate_left
 ·show Act.put _ (some 52) _ = _
  simp only [Act.put, List.setIfInBounds_toArray, List.set_cons_zero, List.set_cons_succ, i64_w, i32_w]
  rfl
 refine done_ (by kernel_rfl) ?_
 clear hwc hj0 hj1 t1 t2 x1_ x2_ x3_ x4_ x5_ x6_ l_B q_B_0 q_B_1 q_B_2 q_B_3 q_B_4 q_B_5 q_B_6 q_B_7 q_B_8 q_B_9 l_K q_K_0
 clear hHeld
 go_wp2_with fail
 have t1 : ((p : Int) == 0) = true := beq_iff_eq.2 (by have := H_hpz.out; omega)
 have l_B : w.heap.size < w3.heap.size := blk_lt B.out
 have q_B_0 := cq0 ⟨B.out⟩
 have q_B_1 := cq1 ⟨B.out⟩
 have q_B_2 := cq2 ⟨B.out⟩
 have q_B_3 := cq3 ⟨B.out⟩
 have q_B_4 := cq4 ⟨B.out⟩
 have q_B_5 := cq5 ⟨B.out⟩
 have q_B_6 := cq6 ⟨B.out⟩
 have q_B_7 := cq7 ⟨B.out⟩
 have q_B_8 := cq8 ⟨B.out⟩
 have q_B_9 := cq9 ⟨B.out⟩
 refine start_ (n := 21) (S := fun w' => w'.cell? ⟨w.heap.size, 3, none⟩ = some (.int .i64 (p : Int))) (ds := []) #[false, false, false, false, false, false, false, false, false, false, false, false, false, false, false, false, false, false, false, false, false] (by kernel_rfl) rfl rfl (q_B_3) (fun hHeld => ?_)
 obtain ⟨w4, hwd⟩ : ∃ W, W = w3.drew := ⟨_, rfl⟩
 rw [← hwd] at hHeld ⊢
 have hb : Below w3.heap.size w3 w4 := by rw [hwd]; exact (Below.refl _ _).drew
 clear hwd
 replace GK := Lib.hid (GK.out.then hb)
 replace CK := Lib.hid (CK.out.then hb)
 replace B := Lib.hid (blk_below B.out hb)
 clear hb
 refine pu 0 53 ?_
 refine tk1 1 54 hHeld ?_
 refine pu 2 55 ?_
 refine pu 3 56 ?_
 refine pure_ (i := 4) (N := some 57) (v := undef) (a' := ?_) #[true, true, true, true, true, false, false, false, false, false, false, false, false, false, false, false, false, false, false, false, false] rfl rfl (by kernel_rfl) (fun _ _ _ h => h) (Or.inr ⟨by rfl, rfl⟩) ?_ ?_
 rotate_left
 ·simp only [Act.put, List.setIfInBounds_toArray, List.set_cons_zero, List.set_cons_succ, i64_w, i32_w]
  rfl
 refine pure_ (i := 5) (N := some 58) (v := undef) (a' := ?_) #[true, true, true, true, true, true, false, false, false, false, false, false, false, false, false, false, false, false, false, false, false] rfl rfl (by kernel_rfl) (fun _ _ _ h => h) (Or.inr ⟨by rfl, rfl⟩) ?_ ?_
 rotate_left
 ·simp only [Act.put, List.setIfInBounds_toArray, List.set_cons_zero, List.set_cons_succ, i64_w, i32_w]
  rfl
 refine pure_ (i := 6) (N := some 59) (v := undef) (a' := ?_) #[true, true, true, true, true, true, true, false, false, false, false, false, false, false, false, false, false, false, false, false, false] rfl rfl (by kernel_rfl) (fun _ _ _ h => h) (Or.inr ⟨by rfl, rfl⟩) ?_ ?_
 rotate_left
 ·simp only [Act.put, List.setIfInBounds_toArray, List.set_cons_zero, List.set_cons_succ, i64_w, i32_w]
  rfl
 refine pure_ (i := 7) (N := some 60) (v := undef) (a' := ?_) #[true, true, true, true, true, true, true, true, false, false, false, false, false, false, false, false, false, false, false, false, false] rfl rfl (by kernel_rfl) (fun _ _ _ h => h) (Or.inr ⟨by rfl, rfl⟩) ?_ ?_
 rotate_left
 ·simp only [Act.put, List.setIfInBounds_toArray, List.set_cons_zero, List.set_cons_succ, i64_w, i32_w]
  rfl
 refine pure_ (i := 8) (N := some 61) (v := undef) (a' := ?_) #[true, true, true, true, true, true, true, true, true, false, false, false, false, false, false, false, false, false, false, false, false] rfl rfl (by kernel_rfl) (fun _ _ _ h => h) (Or.inr ⟨by rfl, rfl⟩) ?_ ?_
 rotate_left
 ·simp only [Act.put, List.setIfInBounds_toArray, List.set_cons_zero, List.set_cons_succ, i64_w, i32_w]
  rfl
 refine pure_ (i := 9) (N := some 62) (v := undef) (a' := ?_) #[true, true, true, true, true, true, true, true, true, true, false, false, false, false, false, false, false, false, false, false, false] rfl rfl (by kernel_rfl) (fun _ _ _ h => h) (Or.inr ⟨by rfl, rfl⟩) ?_ ?_
 rotate_left
 ·simp only [Act.put, List.setIfInBounds_toArray, List.set_cons_zero, List.set_cons_succ, i64_w, i32_w]
  rfl
 refine pure_ (i := 10) (N := some 63) (v := undef) (a' := ?_) #[true, true, true, true, true, true, true, true, true, true, true, false, false, false, false, false, false, false, false, false, false] rfl rfl (by kernel_rfl) (fun _ _ _ h => h) (Or.inr ⟨by rfl, rfl⟩) ?_ ?_
 rotate_left
 ·simp only [Act.put, List.setIfInBounds_toArray, List.set_cons_zero, List.set_cons_succ, i64_w, i32_w]
  rfl
 refine pure_ (i := 11) (N := some 64) (v := undef) (a' := ?_) #[true, true, true, true, true, true, true, true, true, true, true, true, false, false, false, false, false, false, false, false, false] rfl rfl (by kernel_rfl) (fun _ _ _ h => h) (Or.inr ⟨by rfl, rfl⟩) ?_ ?_
 rotate_left
 ·simp only [Act.put, List.setIfInBounds_toArray, List.set_cons_zero, List.set_cons_succ, i64_w, i32_w]
  rfl
 refine pure_ (i := 12) (N := some 65) (v := undef) (a' := ?_) #[true, true, true, true, true, true, true, true, true, true, true, true, true, false, false, false, false, false, false, false, false] rfl rfl (by kernel_rfl) (fun _ _ _ h => h) (Or.inr ⟨by rfl, rfl⟩) ?_ ?_
 rotate_left
 ·simp only [Act.put, List.setIfInBounds_toArray, List.set_cons_zero, List.set_cons_succ, i64_w, i32_w]
  rfl
 refine pure_ (i := 13) (N := some 66) (v := undef) (a' := ?_) #[true, true, true, true, true, true, true, true, true, true, true, true, true, true, false, false, false, false, false, false, false] rfl rfl (by kernel_rfl) (fun _ _ _ h => h) (Or.inr ⟨by rfl, rfl⟩) ?_ ?_
 rotate_left
 ·simp only [Act.put, List.setIfInBounds_toArray, List.set_cons_zero, List.set_cons_succ, i64_w, i32_w]
  rfl
 refine pure_ (i := 14) (N := some 67) (v := undef) (a' := ?_) #[true, true, true, true, true, true, true, true, true, true, true, true, true, true, true, false, false, false, false, false, false] rfl rfl (by kernel_rfl) (fun _ _ _ h => h) (Or.inr ⟨by rfl, rfl⟩) ?_ ?_
 rotate_left
 ·simp only [Act.put, List.setIfInBounds_toArray, List.set_cons_zero, List.set_cons_succ, i64_w, i32_w]
  rfl
 refine pure_ (i := 15) (N := some 68) (v := undef) (a' := ?_) #[true, true, true, true, true, true, true, true, true, true, true, true, true, true, true, true, false, false, false, false, false] rfl rfl (by kernel_rfl) (fun _ _ _ h => h) (Or.inr ⟨by rfl, rfl⟩) ?_ ?_
 rotate_left
 ·simp only [Act.put, List.setIfInBounds_toArray, List.set_cons_zero, List.set_cons_succ, i64_w, i32_w]
  rfl
 refine pure_ (i := 16) (N := some 69) (v := undef) (a' := ?_) #[true, true, true, true, true, true, true, true, true, true, true, true, true, true, true, true, true, false, false, false, false] rfl rfl (by kernel_rfl) (fun _ _ _ h => h) (Or.inr ⟨by rfl, rfl⟩) ?_ ?_
 rotate_left
 ·simp only [Act.put, List.setIfInBounds_toArray, List.set_cons_zero, List.set_cons_succ, i64_w, i32_w]
  rfl
 refine pure_ (i := 17) (N := some 70) (v := undef) (a' := ?_) #[true, true, true, true, true, true, true, true, true, true, true, true, true, true, true, true, true, true, false, false, false] rfl rfl (by kernel_rfl) (fun _ _ _ h => h) (Or.inr ⟨by rfl, rfl⟩) ?_ ?_
 rotate_left
 ·simp only [Act.put, List.setIfInBounds_toArray, List.set_cons_zero, List.set_cons_succ, i64_w, i32_w]
  rfl
 refine pure_ (i := 18) (N := some 71) (v := undef) (a' := ?_) #[true, true, true, true, true, true, true, true, true, true, true, true, true, true, true, true, true, true, true, false, false] rfl rfl (by kernel_rfl) (fun _ _ _ h => h) (Or.inr ⟨by rfl, rfl⟩) ?_ ?_
 rotate_left
 ·simp only [Act.put, List.setIfInBounds_toArray, List.set_cons_zero, List.set_cons_succ, i64_w, i32_w]
  rfl
 refine pu 19 72 ?_
 refine one_ (i := 20) (N := some 73) #[true, true, true, true, true, true, true, true, true, true, true, true, true, true, true, true, true, true, true, true, true] rfl rfl (by kernel_rfl) (by decide) (fun K hK => ?_)
 refine goes_ Tryd.func19 (by kernel_rfl) rfl #[.bool true] (by rfl) rfl rfl (by simp only [List.map_toArray, List.map_cons, List.map_nil]; rfl) ?_
 with_reducible refine (must_yes _).mono ?_
 rintro e w3 ⟨rfl, rfl⟩
 refine ⟨_, rfl, ?_⟩
 refine hK.out _ _ (hHeld) (fun hHeld => ?_)
 clear hK K
 refine norm_ (a' := ?_) ?_ ?_
 rotate_left
 ·show Act.put _ (some 73) _ = _
  simp only [Act.put, List.setIfInBounds_toArray, List.set_cons_zero, List.set_cons_succ, i64_w, i32_w]
  rfl
 refine done_ (by kernel_rfl) ?_
 clear t1 l_B q_B_0 q_B_1 q_B_2 q_B_3 q_B_4 q_B_5 q_B_6 q_B_7 q_B_8 q_B_9
 clear hHeld
 have l_B : w.heap.size < w4.heap.size := blk_lt B.out
 have q_B_0 := cq0 ⟨B.out⟩
 have q_B_1 := cq1 ⟨B.out⟩
 have q_B_2 := cq2 ⟨B.out⟩
 have q_B_3 := cq3 ⟨B.out⟩
 have q_B_4 := cq4 ⟨B.out⟩
 have q_B_5 := cq5 ⟨B.out⟩
 have q_B_6 := cq6 ⟨B.out⟩
 have q_B_7 := cq7 ⟨B.out⟩
 have q_B_8 := cq8 ⟨B.out⟩
 have q_B_9 := cq9 ⟨B.out⟩
 go_wp2_with fail
 clear l_B q_B_0 q_B_1 q_B_2 q_B_3 q_B_4 q_B_5 q_B_6 q_B_7 q_B_8 q_B_9
 have e0 : ((nx : Int) + (d : Int)) = ((nx + d : Nat) : Int) := by omega
 rw [e0]
 clear e0
 refine (pointers_any HE.out CK.out HI.out hd0_ hd1_ HV.out (by have := (objM_in hob).2; omega) (objM_in hob).2 (by omega)).mono ?_
 rintro e w5 (⟨q, hq, rfl, hg, hc⟩ | ⟨hq, rfl, hg⟩)
 ·have hg' := GK.out.trans hg
  have HQ := Lib.hid hq
  clear hq hg
  go_wp2
  go_end0
  exact .inl ⟨q, HQ.out, rfl, hg', hc⟩
 ·have hg' := GK.out.trans hg
  have HQ := Lib.hid hq
  clear hq hg
  go_wp2
  exact ⟨rfl, .inr ⟨HQ.out, rfl, hg'⟩⟩
set_option maxHeartbeats 4000000 in
theorem struct_5nn {W0 w : World} {s : List Int} {cp g nx m : Nat} {D Wd O : Int} {sb so at_ d p : Nat} {off depth : Int} (hE : Env W0 s (some ⟨sb, so, none⟩)) (hK : Ck W0 s (some ⟨sb, so, none⟩) cp D Wd O g nx m w) (ha : at_ ≤ 17592186040320) (ho0 : -536870912 ≤ off) (ho1 : off ≤ 536870911) (hd : d ≤ 65535) (hp : p ≤ 65535) (hx : nx ≤ s.length) (hm : m ≤ 4611686018427387904) (hcp : s.length ≤ cp) {v : Nat → Nat → Nat → Option (Nat × Nat)} (hv : InM s v) (hd0_ : 0 ≤ depth) (hd1_ : depth ≤ 1000000) (hV : VisC W0 s (some ⟨sb, so, none⟩) cp D Wd O g v (depth + 1)) (hdp : ¬ d + p = 0) (hob : objM s at_ off (d + p) nx = true) (hch : d + p ≤ m) (hdz : ¬ d = 0) (hw1 : ¬ wd s (nx + d - 1) = 0) (hpz : ¬ p = 0) (hw2 : ¬ wd s (nx + d + p - 1) = 0)  :
  Calls Tryd.prog 33 #[.pointer (some ⟨g, 0, none⟩), .int .i64 at_, .int .i64 depth, .agg #[.int .i64 0, .int .i64 off, .int .i64 d, .int .i64 p, .int .i64 0, .int .i64 0, .bool false, .int .i64 0, .int .u32 0, .int .u32 0]] w fun e w' => EndM W0 s (some ⟨sb, so, none⟩) cp D Wd O g w (ptrsM v p (nx + d) (nx + (d + p)) (m - (d + p))) e w' := by
 have HLEN := Lib.hid hE.len
 have hlen := hE.len
 have t0 : ((d : Int) + (p : Int) == 0) = false := beq_eq_false_iff_ne.2 (by omega)
 have HI := Lib.hid hv
 have HV := Lib.hid hV
 clear hv hV
 have GK := Lib.hid (Gr.refl g w)
 have CK := Lib.hid hK
 have HE := Lib.hid hE
 clear hE hK
 go_enter Tryd.func33, Tryd.ntmps33
 go_wp2_with fail
 have lg : g < w.heap.size := blk_lt CK.out.blk
 refine calls_at (fun wa hW => ?_)
 have hb : Below w.heap.size w wa := by rw [hW]; exact (Below.refl _ _).alloc (Nat.le_refl _) _
 have nB : wa.heap[w.heap.size]? = some (.cells #[.int .i64 0, .int .i64 off, .int .i64 d, .int .i64 p, .int .i64 0, .int .i64 0, .bool false, .int .i64 0, .int .u32 0, .int .u32 0] 67 (0, 0)) := by rw [hW]; exact heap_alloc_new _ _
 have neB : w.heap.size ≠ g := by omega
 clear hW lg
 replace GK := Lib.hid (GK.out.then hb)
 replace CK := Lib.hid (CK.out.then hb)
 clear hb
 have B := Lib.hid nB
 clear nB
 have e0 : ((d : Int) + (p : Int)) = ((d + p : Nat) : Int) := by omega
 rw [e0]
 clear e0
 refine (object_yes HE.out CK.out ha ⟨ho0, ho1⟩ (by omega) hx hcp hob).mono ?_
 rintro e w1 ⟨rfl, hg, hc⟩
 have gB : Hid (Gr g wa w1) := Lib.hid hg
 replace B := Lib.hid (gB.out.blk B.out neB)
 replace GK := Lib.hid (GK.out.trans gB.out)
 clear gB
 clear CK
 have CK := Lib.hid hc
 clear hg hc
 have l_B : w.heap.size < w1.heap.size := blk_lt B.out
 have q_B_0 := cq0 ⟨B.out⟩
 have q_B_1 := cq1 ⟨B.out⟩
 have q_B_2 := cq2 ⟨B.out⟩
 have q_B_3 := cq3 ⟨B.out⟩
 have q_B_4 := cq4 ⟨B.out⟩
 have q_B_5 := cq5 ⟨B.out⟩
 have q_B_6 := cq6 ⟨B.out⟩
 have q_B_7 := cq7 ⟨B.out⟩
 have q_B_8 := cq8 ⟨B.out⟩
 have q_B_9 := cq9 ⟨B.out⟩
 go_wp2_with fail
 clear l_B q_B_0 q_B_1 q_B_2 q_B_3 q_B_4 q_B_5 q_B_6 q_B_7 q_B_8 q_B_9
 have e0 : ((d : Int) + (p : Int)) = ((d + p : Nat) : Int) := by omega
 rw [e0]
 clear e0
 refine (charge_ok HE.out CK.out hch (by omega) (by omega)).mono ?_
 rintro e w2 (⟨q, hq, rfl, hg, hc⟩ | ⟨hq, _⟩)
 rotate_left
 ·cases hq
 cases hq
 have gB : Hid (Gr g w1 w2) := Lib.hid hg
 replace B := Lib.hid (gB.out.blk B.out neB)
 replace GK := Lib.hid (GK.out.trans gB.out)
 clear gB
 clear CK
 have CK := Lib.hid hc
 clear hg hc
 have l_B : w.heap.size < w2.heap.size := blk_lt B.out
 have q_B_0 := cq0 ⟨B.out⟩
 have q_B_1 := cq1 ⟨B.out⟩
 have q_B_2 := cq2 ⟨B.out⟩
 have q_B_3 := cq3 ⟨B.out⟩
 have q_B_4 := cq4 ⟨B.out⟩
 have q_B_5 := cq5 ⟨B.out⟩
 have q_B_6 := cq6 ⟨B.out⟩
 have q_B_7 := cq7 ⟨B.out⟩
 have q_B_8 := cq8 ⟨B.out⟩
 have q_B_9 := cq9 ⟨B.out⟩
 go_wp2_with fail
 clear l_B q_B_0 q_B_1 q_B_2 q_B_3 q_B_4 q_B_5 q_B_6 q_B_7 q_B_8 q_B_9
 obtain ⟨j, hj⟩ : ∃ j, nx + d = j + 1 := ⟨nx + d - 1, by omega⟩
 have hjl : j < s.length := by have := (objM_in hob).2; omega
 have ej : nx + d - 1 = j := by omega
 rw [ej] at hw1
 clear ej
 have hwc := wd_cell HE.out CK.out.below hjl
 generalize wd s j = x at hwc hw1
 have hj0 : (0 : Int) ≤ (j : Int) := Int.natCast_nonneg _
 have hj1 : (j : Int) < (s.length : Int) := by omega
 have t1 : ((d : Int) == 0) = false := beq_eq_false_iff_ne.2 (by omega)
 have t2 : (x != 0) = true := bne_iff_ne.2 hw1
 have HJ := Lib.hid hj
 clear hj
 obtain ⟨x1_, x2_, x3_, x4_, x5_, x6_⟩ := idx_wraps HJ.out (by have := HLEN.out; omega)
 have l_B : w.heap.size < w2.heap.size := blk_lt B.out
 have q_B_0 := cq0 ⟨B.out⟩
 have q_B_1 := cq1 ⟨B.out⟩
 have q_B_2 := cq2 ⟨B.out⟩
 have q_B_3 := cq3 ⟨B.out⟩
 have q_B_4 := cq4 ⟨B.out⟩
 have q_B_5 := cq5 ⟨B.out⟩
 have q_B_6 := cq6 ⟨B.out⟩
 have q_B_7 := cq7 ⟨B.out⟩
 have q_B_8 := cq8 ⟨B.out⟩
 have q_B_9 := cq9 ⟨B.out⟩
 have l_K : g < w2.heap.size := blk_lt CK.out.blk
 have q_K_0 := cq0 ⟨CK.out.blk⟩
 refine start_ (n := 18) (S := fun w' => w'.cell? ⟨w.heap.size, 2, none⟩ = some (.int .i64 (d : Int)) ∧ w'.cell? ⟨g, 0, none⟩ = some (.slice (some ⟨sb, so, none⟩) s.length cp) ∧ w'.cell? ⟨sb, so + j, none⟩ = some (.int .u64 x)) (ds := []) #[false, false, false, false, false, false, false, false, false, false, false, false, false, false, false, false, false, false] (by kernel_rfl) rfl rfl ⟨q_B_2, q_K_0, hwc⟩ (fun hHeld => ?_)
 obtain ⟨w3, hwd⟩ : ∃ W, W = w2.drew := ⟨_, rfl⟩
 rw [← hwd] at hHeld ⊢
 have hb : Below w2.heap.size w2 w3 := by rw [hwd]; exact (Below.refl _ _).drew
 clear hwd
 replace GK := Lib.hid (GK.out.then hb)
 replace CK := Lib.hid (CK.out.then hb)
 replace B := Lib.hid (blk_below B.out hb)
 clear hb
 refine pu 0 35 ?_
 refine tk3 1 36 hHeld ?_
 refine pu 2 37 ?_
 refine pu 3 38 ?_
 refine pu 4 39 ?_
 refine pu 5 40 ?_
 refine pu 6 41 ?_
 refine pu 8 43 ?_
 refine pu 9 44 ?_
 refine tk3 7 42 hHeld ?_
 refine tk3 10 45 hHeld ?_
 refine pu 11 46 ?_
 refine pu 12 47 ?_
 refine pu 13 48 ?_
 refine tk3 14 49 hHeld ?_
 refine pu 15 50 ?_
 refine pu 16 51 ?_
 refine one_ (i := 17) (N := some 52) #[true, true, true, true, true, true, true, true, true, true, true, true, true, true, true, true, true, true] rfl rfl (by kernel_rfl) (by decide) (fun K hK => ?_)
 refine goes_ Tryd.func19 (by kernel_rfl) rfl #[.bool true] (by rfl) rfl rfl (by simp only [List.map_toArray, List.map_cons, List.map_nil]; rfl) ?_
 with_reducible refine (must_yes _).mono ?_
 rintro e w3 ⟨rfl, rfl⟩
 refine ⟨_, rfl, ?_⟩
 refine hK.out _ _ ⟨hHeld.1, hHeld.2.1, hHeld.2.2⟩ (fun hHeld => ?_)
 clear hK K
 refine norm_ (a' := ?_) ?_ ?_
 rotate_left
 ·show Act.put _ (some 52) _ = _
  simp only [Act.put, List.setIfInBounds_toArray, List.set_cons_zero, List.set_cons_succ, i64_w, i32_w]
  rfl
 refine done_ (by kernel_rfl) ?_
 clear hwc hj0 hj1 t1 t2 x1_ x2_ x3_ x4_ x5_ x6_ l_B q_B_0 q_B_1 q_B_2 q_B_3 q_B_4 q_B_5 q_B_6 q_B_7 q_B_8 q_B_9 l_K q_K_0
 clear hHeld
 go_wp2_with fail
 obtain ⟨k, hk⟩ : ∃ k, nx + d = k := ⟨_, rfl⟩
 obtain ⟨j, hj⟩ : ∃ j, k + p = j + 1 := ⟨k + p - 1, by omega⟩
 have hjl : j < s.length := by have := (objM_in hob).2; omega
 have ej : nx + d + p - 1 = j := by omega
 rw [ej] at hw2
 clear ej
 have hwc := wd_cell HE.out CK.out.below hjl
 generalize wd s j = x at hwc hw2
 have hj0 : (0 : Int) ≤ (j : Int) := Int.natCast_nonneg _
 have hj1 : (j : Int) < (s.length : Int) := by omega
 have t1 : ((p : Int) == 0) = false := beq_eq_false_iff_ne.2 (by omega)
 have t2 : (x != 0) = true := bne_iff_ne.2 hw2
 have HJ := Lib.hid hj
 have HKK := Lib.hid hk
 clear hj hk
 obtain ⟨y1_, y2_⟩ := sum_wraps HKK.out (by have := HLEN.out; have := HJ.out; omega)
 obtain ⟨x1_, x2_, x3_, x4_, x5_, x6_⟩ := idx_wraps HJ.out (by have := HLEN.out; omega)
 have l_B : w.heap.size < w3.heap.size := blk_lt B.out
 have q_B_0 := cq0 ⟨B.out⟩
 have q_B_1 := cq1 ⟨B.out⟩
 have q_B_2 := cq2 ⟨B.out⟩
 have q_B_3 := cq3 ⟨B.out⟩
 have q_B_4 := cq4 ⟨B.out⟩
 have q_B_5 := cq5 ⟨B.out⟩
 have q_B_6 := cq6 ⟨B.out⟩
 have q_B_7 := cq7 ⟨B.out⟩
 have q_B_8 := cq8 ⟨B.out⟩
 have q_B_9 := cq9 ⟨B.out⟩
 have l_K : g < w3.heap.size := blk_lt CK.out.blk
 have q_K_0 := cq0 ⟨CK.out.blk⟩
 refine start_ (n := 21) (S := fun w' => w'.cell? ⟨w.heap.size, 2, none⟩ = some (.int .i64 (d : Int)) ∧ w'.cell? ⟨w.heap.size, 3, none⟩ = some (.int .i64 (p : Int)) ∧ w'.cell? ⟨g, 0, none⟩ = some (.slice (some ⟨sb, so, none⟩) s.length cp) ∧ w'.cell? ⟨sb, so + j, none⟩ = some (.int .u64 x)) (ds := []) #[false, false, false, false, false, false, false, false, false, false, false, false, false, false, false, false, false, false, false, false, false] (by kernel_rfl) rfl rfl ⟨q_B_2, q_B_3, q_K_0, hwc⟩ (fun hHeld => ?_)
 obtain ⟨w4, hwd⟩ : ∃ W, W = w3.drew := ⟨_, rfl⟩
 rw [← hwd] at hHeld ⊢
 have hb : Below w3.heap.size w3 w4 := by rw [hwd]; exact (Below.refl _ _).drew
 clear hwd
 replace GK := Lib.hid (GK.out.then hb)
 replace CK := Lib.hid (CK.out.then hb)
 replace B := Lib.hid (blk_below B.out hb)
 clear hb
 refine pu 0 53 ?_
 refine tk4 1 54 hHeld ?_
 refine pu 2 55 ?_
 refine pu 3 56 ?_
 refine pu 4 57 ?_
 refine pu 5 58 ?_
 refine pu 6 59 ?_
 refine pu 8 61 ?_
 refine pu 9 62 ?_
 refine pu 12 65 ?_
 refine tk4 7 60 hHeld ?_
 refine tk4 10 63 hHeld ?_
 refine pu 11 64 ?_
 refine tk4 13 66 hHeld ?_
 refine pu 14 67 ?_
 refine pu 15 68 ?_
 refine pu 16 69 ?_
 refine tk4 17 70 hHeld ?_
 refine pu 18 71 ?_
 refine pu 19 72 ?_
 refine one_ (i := 20) (N := some 73) #[true, true, true, true, true, true, true, true, true, true, true, true, true, true, true, true, true, true, true, true, true] rfl rfl (by kernel_rfl) (by decide) (fun K hK => ?_)
 refine goes_ Tryd.func19 (by kernel_rfl) rfl #[.bool true] (by rfl) rfl rfl (by simp only [List.map_toArray, List.map_cons, List.map_nil]; rfl) ?_
 with_reducible refine (must_yes _).mono ?_
 rintro e w3 ⟨rfl, rfl⟩
 refine ⟨_, rfl, ?_⟩
 refine hK.out _ _ ⟨hHeld.1, hHeld.2.1, hHeld.2.2.1, hHeld.2.2.2⟩ (fun hHeld => ?_)
 clear hK K
 refine norm_ (a' := ?_) ?_ ?_
 rotate_left
 ·show Act.put _ (some 73) _ = _
  simp only [Act.put, List.setIfInBounds_toArray, List.set_cons_zero, List.set_cons_succ, i64_w, i32_w]
  rfl
 refine done_ (by kernel_rfl) ?_
 clear hwc hj0 hj1 t1 t2 y1_ y2_ x1_ x2_ x3_ x4_ x5_ x6_ l_B q_B_0 q_B_1 q_B_2 q_B_3 q_B_4 q_B_5 q_B_6 q_B_7 q_B_8 q_B_9 l_K q_K_0
 clear hHeld
 have l_B : w.heap.size < w4.heap.size := blk_lt B.out
 have q_B_0 := cq0 ⟨B.out⟩
 have q_B_1 := cq1 ⟨B.out⟩
 have q_B_2 := cq2 ⟨B.out⟩
 have q_B_3 := cq3 ⟨B.out⟩
 have q_B_4 := cq4 ⟨B.out⟩
 have q_B_5 := cq5 ⟨B.out⟩
 have q_B_6 := cq6 ⟨B.out⟩
 have q_B_7 := cq7 ⟨B.out⟩
 have q_B_8 := cq8 ⟨B.out⟩
 have q_B_9 := cq9 ⟨B.out⟩
 go_wp2_with fail
 clear l_B q_B_0 q_B_1 q_B_2 q_B_3 q_B_4 q_B_5 q_B_6 q_B_7 q_B_8 q_B_9
 have e0 : ((nx : Int) + (d : Int)) = ((nx + d : Nat) : Int) := by omega
 rw [e0]
 clear e0
 refine (pointers_any HE.out CK.out HI.out hd0_ hd1_ HV.out (by have := (objM_in hob).2; omega) (objM_in hob).2 (by omega)).mono ?_
 rintro e w5 (⟨q, hq, rfl, hg, hc⟩ | ⟨hq, rfl, hg⟩)
 ·have hg' := GK.out.trans hg
  have HQ := Lib.hid hq
  clear hq hg
  go_wp2
  go_end0
  exact .inl ⟨q, HQ.out, rfl, hg', hc⟩
 ·have hg' := GK.out.trans hg
  have HQ := Lib.hid hq
  clear hq hg
  go_wp2
  exact ⟨rfl, .inr ⟨HQ.out, rfl, hg'⟩⟩
end Go.Proofs.YtidglmocekghmaaDoor.Pr
end
section
namespace Go.Proofs.YtidglmocekghmaaDoor.Pr
open Go.RowKit Go.Proofs.YtidglmocekghmaaDoorW.PrintWords Go.Proofs.YtidglmocekghmaaDoorW.PrintLast Go.Proofs.YtidglmocekghmaaDoorW.PrintMore
set_option linter.unusedVariables false
set_option linter.unusedSimpArgs false
theorem structure_any {W0 w : World} {s : List Int} {cp g nx m : Nat} {D Wd O : Int} {sb so at_ : Nat} {depth : Int} (hE : Env W0 s (some ⟨sb, so, none⟩)) (hK : Ck W0 s (some ⟨sb, so, none⟩) cp D Wd O g nx m w) (w0 : Int)
  (ha : at_ ≤ 17592186040320) (hx : nx ≤ s.length) (hm : m ≤ 4611686018427387904) (hcp : s.length ≤ cp) {v : Nat → Nat → Nat → Option (Nat × Nat)} (hv : InM s v) (hd0_ : 0 ≤ depth) (hd1_ : depth ≤ 1000000) (hV : VisC W0 s (some ⟨sb, so, none⟩) cp D Wd O g v (depth + 1)) :
  Calls Tryd.prog 33 #[.pointer (some ⟨g, 0, none⟩), .int .i64 at_, .int .i64 depth, aggP 0 (offW w0) (dataW w0) (ptrsW w0) 0 0 false 0 0 0] w fun e w' => EndM W0 s (some ⟨sb, so, none⟩) cp D Wd O g w (structM s v at_ w0 nx m) e w' := by
 have ho := offW_bd w0
 have hdb := dataW_bd w0
 have hpb := ptrsW_bd w0
 obtain ⟨d, hd'⟩ : ∃ d : Nat, dataW w0 = (d : Int) := ⟨(dataW w0).toNat, by omega⟩
 obtain ⟨p, hp'⟩ : ∃ p : Nat, ptrsW w0 = (p : Int) := ⟨(ptrsW w0).toNat, by omega⟩
 unfold structM aggP
 rw [hd'] at hdb ⊢
 rw [hp'] at hpb ⊢
 dsimp only
 simp only [Int.toNat_natCast]
 generalize offW w0 = off at ho ⊢
 have hd : d ≤ 65535 := by omega
 have hp : p ≤ 65535 := by omega
 have bad : ∀ {r : Option (Nat × Nat)}, r = none → (Calls Tryd.prog 33 #[.pointer (some ⟨g, 0, none⟩), .int .i64 at_, .int .i64 depth, .agg #[.int .i64 0, .int .i64 off, .int .i64 d, .int .i64 p, .int .i64 0, .int .i64 0, .bool false, .int .i64 0, .int .u32 0, .int .u32 0]] w fun e w' => e = .panicked [{ v := .iface 47 (.agg #[]), recovered := false }] ∧ Gr g w w') →
   Calls Tryd.prog 33 #[.pointer (some ⟨g, 0, none⟩), .int .i64 at_, .int .i64 depth, .agg #[.int .i64 0, .int .i64 off, .int .i64 d, .int .i64 p, .int .i64 0, .int .i64 0, .bool false, .int .i64 0, .int .u32 0, .int .u32 0]] w fun e w' => EndM W0 s (some ⟨sb, so, none⟩) cp D Wd O g w r e w' :=
  fun hr h => h.mono fun e w' ⟨a, b⟩ => .inr ⟨hr, a, b⟩
 by_cases hdp : d + p = 0
 ·rw [if_pos hdp]
  by_cases h1 : off = -1
  ·rw [if_pos h1]
   exact (struct_0a hE hK ha ho.1 ho.2 hd hp hx hm hcp hdp h1).mono fun e w' ⟨a, b, c⟩ => .inl ⟨_, rfl, a, b, c⟩
  ·rw [if_neg h1]
   exact bad rfl (struct_0b hE hK ha ho.1 ho.2 hd hp hx hm hcp hdp h1)
 ·rw [if_neg hdp]
  by_cases hob : objM s at_ off (d + p) nx = true
  ·rw [if_pos hob]
   by_cases hch : d + p ≤ m
   ·rw [if_pos hch]
    unfold lastM
    by_cases hdz : d = 0
    ·have e1 : (decide (d = 0) || decide (wd s (nx + d - 1) ≠ 0)) = true := by simp [hdz]
     rw [if_pos e1]
     by_cases hpz : p = 0
     ·omega
     ·by_cases hw2 : wd s (nx + d + p - 1) = 0
      ·have e2 : ¬ (decide (p = 0) || decide (wd s (nx + d + p - 1) ≠ 0)) = true := by simp [hpz, hw2]
       rw [if_neg e2]
       exact bad rfl (struct_4z hE hK ha ho.1 ho.2 hd hp hx hm hcp hdp hob hch hdz hpz hw2)
      ·have e2 : (decide (p = 0) || decide (wd s (nx + d + p - 1) ≠ 0)) = true := by simp [hw2]
       rw [if_pos e2]
       exact struct_5zn hE hK ha ho.1 ho.2 hd hp hx hm hcp hv hd0_ hd1_ hV hdp hob hch hdz hpz hw2
    ·by_cases hw1 : wd s (nx + d - 1) = 0
     ·have e1 : ¬ (decide (d = 0) || decide (wd s (nx + d - 1) ≠ 0)) = true := by simp [hdz, hw1]
      rw [if_neg e1]
      exact bad rfl (struct_3 hE hK ha ho.1 ho.2 hd hp hx hm hcp hdp hob hch hdz hw1)
     ·have e1 : (decide (d = 0) || decide (wd s (nx + d - 1) ≠ 0)) = true := by simp [hw1]
      rw [if_pos e1]
      by_cases hpz : p = 0
      ·have e2 : (decide (p = 0) || decide (wd s (nx + d + p - 1) ≠ 0)) = true := by simp [hpz]
       rw [if_pos e2]
       exact struct_5nz hE hK ha ho.1 ho.2 hd hp hx hm hcp hv hd0_ hd1_ hV hdp hob hch hdz hw1 hpz
      ·by_cases hw2 : wd s (nx + d + p - 1) = 0
       ·have e2 : ¬ (decide (p = 0) || decide (wd s (nx + d + p - 1) ≠ 0)) = true := by simp [hpz, hw2]
        rw [if_neg e2]
        exact bad rfl (struct_4n hE hK ha ho.1 ho.2 hd hp hx hm hcp hdp hob hch hdz hw1 hpz hw2)
       ·have e2 : (decide (p = 0) || decide (wd s (nx + d + p - 1) ≠ 0)) = true := by simp [hw2]
        rw [if_pos e2]
        exact struct_5nn hE hK ha ho.1 ho.2 hd hp hx hm hcp hv hd0_ hd1_ hV hdp hob hch hdz hw1 hpz hw2
   ·rw [if_neg hch]
    exact bad rfl (struct_2 hE hK ha ho.1 ho.2 hd hp hx hm hcp hdp hob hch)
  ·rw [if_neg hob]
   exact bad rfl (struct_1 hE hK ha ho.1 ho.2 hd hp hx hm hcp hdp hob)
end Go.Proofs.YtidglmocekghmaaDoor.Pr
end
section
namespace Go.Proofs.YtidglmocekghmaaDoor.Pr
open Go.RowKit Go.Proofs.YtidglmocekghmaaDoorW.PrintWords Go.Proofs.YtidglmocekghmaaDoorW.PrintLast Go.Proofs.YtidglmocekghmaaDoorW.PrintMore
set_option linter.unusedVariables false
set_option linter.unusedSimpArgs false
theorem anyM_succ (s : List Int) (size : Nat) : ∀ k a, anyM s size (k + 1) a = (anyM s size k a || decide (wd s (a + k * size) ≠ 0))
 | 0, a => by simp [anyM]
 | k + 1, a => by
  rw [anyM, anyM_succ s size k (a + size), anyM, Bool.or_assoc, show a + (k + 1) * size = a + size + k * size by rw [Nat.add_mul]; omega]
theorem elemsM_succ (v : Nat → Nat → Nat → Option (Nat × Nat)) (p size k a nx m : Nat) : elemsM v p size (k + 1) a nx m = match ptrsM v p a nx m with | none => none | some r => elemsM v p size k (a + size) r.1 r.2 := rfl
theorem decV_agg (t : Int) : ∃ (o d p e c : Int) (b : Bool) (pa sg lo : Int), decV t = .agg #[.int .i64 (kindW t), .int .i64 o, .int .i64 d, .int .i64 p, .int .i64 e, .int .i64 c, .bool b, .int .i64 pa, .int .u32 sg, .int .u32 lo] ∧ -536870912 ≤ o ∧ o ≤ 536870911 ∧ 0 ≤ d ∧ d ≤ 65535 ∧ 0 ≤ p ∧ p ≤ 65535 ∧ (kindW t = 0 → o = offW t ∧ d = dataW t ∧ p = ptrsW t) := by
 have hb := kindW_bd t
 have h1 := offW_bd t
 have h2 := dataW_bd t
 have h3 := ptrsW_bd t
 unfold decV aggP
 split
 ·rename_i h; rw [h]; exact ⟨_, _, _, _, _, _, _, _, _, rfl, h1.1, h1.2, h2.1, h2.2, h3.1, h3.2, fun _ => ⟨rfl, rfl, rfl⟩⟩
 split
 ·rename_i h; rw [h]; exact ⟨_, _, _, _, _, _, _, _, _, rfl, h1.1, h1.2, by omega, by omega, by omega, by omega, fun h => by omega⟩
 split
 ·rename_i h; rw [h]; exact ⟨_, _, _, _, _, _, _, _, _, rfl, by omega, by omega, by omega, by omega, by omega, by omega, fun h => by omega⟩
 ·rw [show kindW t = 3 by omega]; exact ⟨_, _, _, _, _, _, _, _, _, rfl, by omega, by omega, by omega, by omega, by omega, by omega, fun h => by omega⟩
set_option maxHeartbeats 4000000 in
theorem comp_1 {W0 w : World} {s : List Int} {cp g nx m : Nat} {D Wd O : Int} {sb so at_ c : Nat} {off depth : Int} (hE : Env W0 s (some ⟨sb, so, none⟩)) (hK : Ck W0 s (some ⟨sb, so, none⟩) cp D Wd O g nx m w) (ha : at_ ≤ 17592186040320) (ho0 : -536870912 ≤ off) (ho1 : off ≤ 536870911) (hc0 : c ≤ 536870911) (hx : nx ≤ s.length) (hm : m ≤ 4611686018427387904) (hcp : s.length ≤ cp) (hob : ¬ objM s at_ off (c + 1) nx = true) :
  Calls Tryd.prog 59 #[.pointer (some ⟨g, 0, none⟩), .int .i64 at_, .int .i64 depth, .agg #[.int .i64 1, .int .i64 off, .int .i64 0, .int .i64 0, .int .i64 7, .int .i64 c, .bool false, .int .i64 0, .int .u32 0, .int .u32 0]] w fun e w' => e = .panicked [{ v := .iface 47 (.agg #[]), recovered := false }] ∧ Gr g w w' := by
 have HLEN := Lib.hid hE.len
 have hlen := hE.len
 have GK := Lib.hid (Gr.refl g w)
 have CK := Lib.hid hK
 have HE := Lib.hid hE
 clear hE hK
 go_enter Tryd.func59, Tryd.ntmps59
 go_wp2_with fail
 have lg : g < w.heap.size := blk_lt CK.out.blk
 refine calls_at (fun wa hW => ?_)
 have hb : Below w.heap.size w wa := by rw [hW]; exact (Below.refl _ _).alloc (Nat.le_refl _) _
 have nB : wa.heap[w.heap.size]? = some (.cells #[.int .i64 1, .int .i64 off, .int .i64 0, .int .i64 0, .int .i64 7, .int .i64 c, .bool false, .int .i64 0, .int .u32 0, .int .u32 0] 67 (0, 0)) := by rw [hW]; exact heap_alloc_new _ _
 have neB : w.heap.size ≠ g := by omega
 clear hW lg
 replace GK := Lib.hid (GK.out.then hb)
 replace CK := Lib.hid (CK.out.then hb)
 clear hb
 have B := Lib.hid nB
 clear nB
 have e0 : ((c : Int) + 1) = ((c + 1 : Nat) : Int) := by omega
 rw [e0]
 clear e0
 refine (object_no HE.out CK.out ha ⟨ho0, ho1⟩ (by omega) hx hcp hob).mono ?_
 rintro e w1 ⟨rfl, hg⟩
 have hg' := GK.out.trans hg
 clear hg
 go_wp2
 exact ⟨rfl, rfl, hg'⟩
set_option maxHeartbeats 4000000 in
theorem comp_2k {W0 w : World} {s : List Int} {cp g nx m : Nat} {D Wd O : Int} {sb so at_ c : Nat} {off depth : Int} {tk tO td tp te tc ta ts tl : Int} {tb : Bool} (hE : Env W0 s (some ⟨sb, so, none⟩)) (hK : Ck W0 s (some ⟨sb, so, none⟩) cp D Wd O g nx m w) (ha : at_ ≤ 17592186040320) (ho0 : -536870912 ≤ off) (ho1 : off ≤ 536870911) (hc0 : c ≤ 536870911) (hx : nx ≤ s.length) (hm : m ≤ 4611686018427387904) (hcp : s.length ≤ cp) (hob : objM s at_ off (c + 1) nx = true) (hDec : decV (wd s nx) = .agg #[.int .i64 tk, .int .i64 tO, .int .i64 td, .int .i64 tp, .int .i64 te, .int .i64 tc, .bool tb, .int .i64 ta, .int .u32 ts, .int .u32 tl]) (td0 : 0 ≤ td) (td1 : td ≤ 65535) (tp0 : 0 ≤ tp) (tp1 : tp ≤ 65535) (hk : ¬ tk = 0)  :
  Calls Tryd.prog 59 #[.pointer (some ⟨g, 0, none⟩), .int .i64 at_, .int .i64 depth, .agg #[.int .i64 1, .int .i64 off, .int .i64 0, .int .i64 0, .int .i64 7, .int .i64 c, .bool false, .int .i64 0, .int .u32 0, .int .u32 0]] w fun e w' => e = .panicked [{ v := .iface 47 (.agg #[]), recovered := false }] ∧ Gr g w w' := by
 have HLEN := Lib.hid hE.len
 have hlen := hE.len
 have HDEC := Lib.hid hDec
 clear hDec
 have t1 : (tk == 0) = false := beq_eq_false_iff_ne.2 hk
 have GK := Lib.hid (Gr.refl g w)
 have CK := Lib.hid hK
 have HE := Lib.hid hE
 clear hE hK
 go_enter Tryd.func59, Tryd.ntmps59
 go_wp2_with fail
 have lg : g < w.heap.size := blk_lt CK.out.blk
 refine calls_at (fun wa hW => ?_)
 have hb : Below w.heap.size w wa := by rw [hW]; exact (Below.refl _ _).alloc (Nat.le_refl _) _
 have nB : wa.heap[w.heap.size]? = some (.cells #[.int .i64 1, .int .i64 off, .int .i64 0, .int .i64 0, .int .i64 7, .int .i64 c, .bool false, .int .i64 0, .int .u32 0, .int .u32 0] 67 (0, 0)) := by rw [hW]; exact heap_alloc_new _ _
 have neB : w.heap.size ≠ g := by omega
 clear hW lg
 replace GK := Lib.hid (GK.out.then hb)
 replace CK := Lib.hid (CK.out.then hb)
 clear hb
 have B := Lib.hid nB
 clear nB
 have e0 : ((c : Int) + 1) = ((c + 1 : Nat) : Int) := by omega
 rw [e0]
 clear e0
 refine (object_yes HE.out CK.out ha ⟨ho0, ho1⟩ (by omega) hx hcp hob).mono ?_
 rintro e w1 ⟨rfl, hg, hc⟩
 have gB : Hid (Gr g wa w1) := Lib.hid hg
 replace B := Lib.hid (gB.out.blk B.out neB)
 replace GK := Lib.hid (GK.out.trans gB.out)
 clear gB
 clear CK
 have CK := Lib.hid hc
 clear hg hc
 have hnl : nx < s.length := by have := (objM_in hob).2; omega
 have hwc := wd_cell HE.out CK.out.below hnl
 have hwr := HE.out.word nx
 have hn0 : (0 : Int) ≤ (nx : Int) := Int.natCast_nonneg _
 have hn1 : (nx : Int) < (s.length : Int) := by omega
 clear hnl
 have l_K : g < w1.heap.size := blk_lt CK.out.blk
 have q_K_0 : w1.cell? ⟨g, 0, none⟩ = some (.slice (some ⟨sb, so, none⟩) s.length cp) := (blk_cell CK.out.blk 0).trans rfl
 go_wp2_with fail
 clear hwc hn0 hn1 l_K q_K_0
 refine (decode_any (wd s nx) w1 hwr.1 hwr.2 (HE.out.dec.below CK.out.below)).mono ?_
 rw [HDEC.out]
 rintro e w2 ⟨rfl, hb⟩
 replace GK := Lib.hid (GK.out.then hb)
 replace CK := Lib.hid (CK.out.then hb)
 replace B := Lib.hid (blk_below B.out hb)
 clear hb hwr
 have l_B : w.heap.size < w2.heap.size := blk_lt B.out
 have q_B_0 : w2.cell? ⟨w.heap.size, 0, none⟩ = some (.int .i64 1) := (blk_cell B.out 0).trans rfl
 have q_B_1 : w2.cell? ⟨w.heap.size, 1, none⟩ = some (.int .i64 off) := (blk_cell B.out 1).trans rfl
 have q_B_2 : w2.cell? ⟨w.heap.size, 2, none⟩ = some (.int .i64 0) := (blk_cell B.out 2).trans rfl
 have q_B_3 : w2.cell? ⟨w.heap.size, 3, none⟩ = some (.int .i64 0) := (blk_cell B.out 3).trans rfl
 have q_B_4 : w2.cell? ⟨w.heap.size, 4, none⟩ = some (.int .i64 7) := (blk_cell B.out 4).trans rfl
 have q_B_5 : w2.cell? ⟨w.heap.size, 5, none⟩ = some (.int .i64 c) := (blk_cell B.out 5).trans rfl
 have q_B_6 : w2.cell? ⟨w.heap.size, 6, none⟩ = some (.bool false) := (blk_cell B.out 6).trans rfl
 have q_B_7 : w2.cell? ⟨w.heap.size, 7, none⟩ = some (.int .i64 0) := (blk_cell B.out 7).trans rfl
 have q_B_8 : w2.cell? ⟨w.heap.size, 8, none⟩ = some (.int .u32 0) := (blk_cell B.out 8).trans rfl
 have q_B_9 : w2.cell? ⟨w.heap.size, 9, none⟩ = some (.int .u32 0) := (blk_cell B.out 9).trans rfl
 go_wp2_with fail
 clear l_B q_B_0 q_B_1 q_B_2 q_B_3 q_B_4 q_B_5 q_B_6 q_B_7 q_B_8 q_B_9
 refine calls_at (fun wt hW => ?_)
 have hb : Below w2.heap.size w2 wt := by rw [hW]; exact (Below.refl _ _).alloc (Nat.le_refl _) _
 have hlc : w.heap.size < w2.heap.size := blk_lt B.out
 have hlg : g < w2.heap.size := blk_lt CK.out.blk
 obtain ⟨gt, hgt⟩ : ∃ n, w2.heap.size = n := ⟨_, rfl⟩
 have neT : gt ≠ g := by omega
 have nT : wt.heap[gt]? = some (.cells #[.int .i64 tk, .int .i64 tO, .int .i64 td, .int .i64 tp, .int .i64 te, .int .i64 tc, .bool tb, .int .i64 ta, .int .u32 ts, .int .u32 tl] 67 (0, 0)) := by rw [hW, ← hgt]; exact heap_alloc_new _ _
 rw [hgt]
 clear hW hlc hlg hgt
 replace GK := Lib.hid (GK.out.then hb)
 replace CK := Lib.hid (CK.out.then hb)
 replace B := Lib.hid (blk_below B.out hb)
 clear hb
 have T := Lib.hid nT
 clear nT
 refine (must_no _).mono ?_
 rintro e wy ⟨rfl, rfl⟩
 go_wp2
 exact ⟨rfl, rfl, GK.out⟩
set_option maxHeartbeats 4000000 in
theorem comp_2o {W0 w : World} {s : List Int} {cp g nx m : Nat} {D Wd O : Int} {sb so at_ c : Nat} {off depth : Int} {tO td tp te tc ta ts tl : Int} {tb : Bool} (hE : Env W0 s (some ⟨sb, so, none⟩)) (hK : Ck W0 s (some ⟨sb, so, none⟩) cp D Wd O g nx m w) (ha : at_ ≤ 17592186040320) (ho0 : -536870912 ≤ off) (ho1 : off ≤ 536870911) (hc0 : c ≤ 536870911) (hx : nx ≤ s.length) (hm : m ≤ 4611686018427387904) (hcp : s.length ≤ cp) (hob : objM s at_ off (c + 1) nx = true) (hDec : decV (wd s nx) = .agg #[.int .i64 0, .int .i64 tO, .int .i64 td, .int .i64 tp, .int .i64 te, .int .i64 tc, .bool tb, .int .i64 ta, .int .u32 ts, .int .u32 tl]) (td0 : 0 ≤ td) (td1 : td ≤ 65535) (tp0 : 0 ≤ tp) (tp1 : tp ≤ 65535) (ho : ¬ 0 ≤ tO)  :
  Calls Tryd.prog 59 #[.pointer (some ⟨g, 0, none⟩), .int .i64 at_, .int .i64 depth, .agg #[.int .i64 1, .int .i64 off, .int .i64 0, .int .i64 0, .int .i64 7, .int .i64 c, .bool false, .int .i64 0, .int .u32 0, .int .u32 0]] w fun e w' => e = .panicked [{ v := .iface 47 (.agg #[]), recovered := false }] ∧ Gr g w w' := by
 have HLEN := Lib.hid hE.len
 have hlen := hE.len
 have HDEC := Lib.hid hDec
 clear hDec
 have t2 : decide (0 ≤ tO) = false := decide_eq_false ho
 have GK := Lib.hid (Gr.refl g w)
 have CK := Lib.hid hK
 have HE := Lib.hid hE
 clear hE hK
 go_enter Tryd.func59, Tryd.ntmps59
 go_wp2_with fail
 have lg : g < w.heap.size := blk_lt CK.out.blk
 refine calls_at (fun wa hW => ?_)
 have hb : Below w.heap.size w wa := by rw [hW]; exact (Below.refl _ _).alloc (Nat.le_refl _) _
 have nB : wa.heap[w.heap.size]? = some (.cells #[.int .i64 1, .int .i64 off, .int .i64 0, .int .i64 0, .int .i64 7, .int .i64 c, .bool false, .int .i64 0, .int .u32 0, .int .u32 0] 67 (0, 0)) := by rw [hW]; exact heap_alloc_new _ _
 have neB : w.heap.size ≠ g := by omega
 clear hW lg
 replace GK := Lib.hid (GK.out.then hb)
 replace CK := Lib.hid (CK.out.then hb)
 clear hb
 have B := Lib.hid nB
 clear nB
 have e0 : ((c : Int) + 1) = ((c + 1 : Nat) : Int) := by omega
 rw [e0]
 clear e0
 refine (object_yes HE.out CK.out ha ⟨ho0, ho1⟩ (by omega) hx hcp hob).mono ?_
 rintro e w1 ⟨rfl, hg, hc⟩
 have gB : Hid (Gr g wa w1) := Lib.hid hg
 replace B := Lib.hid (gB.out.blk B.out neB)
 replace GK := Lib.hid (GK.out.trans gB.out)
 clear gB
 clear CK
 have CK := Lib.hid hc
 clear hg hc
 have hnl : nx < s.length := by have := (objM_in hob).2; omega
 have hwc := wd_cell HE.out CK.out.below hnl
 have hwr := HE.out.word nx
 have hn0 : (0 : Int) ≤ (nx : Int) := Int.natCast_nonneg _
 have hn1 : (nx : Int) < (s.length : Int) := by omega
 clear hnl
 have l_K : g < w1.heap.size := blk_lt CK.out.blk
 have q_K_0 : w1.cell? ⟨g, 0, none⟩ = some (.slice (some ⟨sb, so, none⟩) s.length cp) := (blk_cell CK.out.blk 0).trans rfl
 go_wp2_with fail
 clear hwc hn0 hn1 l_K q_K_0
 refine (decode_any (wd s nx) w1 hwr.1 hwr.2 (HE.out.dec.below CK.out.below)).mono ?_
 rw [HDEC.out]
 rintro e w2 ⟨rfl, hb⟩
 replace GK := Lib.hid (GK.out.then hb)
 replace CK := Lib.hid (CK.out.then hb)
 replace B := Lib.hid (blk_below B.out hb)
 clear hb hwr
 have l_B : w.heap.size < w2.heap.size := blk_lt B.out
 have q_B_0 : w2.cell? ⟨w.heap.size, 0, none⟩ = some (.int .i64 1) := (blk_cell B.out 0).trans rfl
 have q_B_1 : w2.cell? ⟨w.heap.size, 1, none⟩ = some (.int .i64 off) := (blk_cell B.out 1).trans rfl
 have q_B_2 : w2.cell? ⟨w.heap.size, 2, none⟩ = some (.int .i64 0) := (blk_cell B.out 2).trans rfl
 have q_B_3 : w2.cell? ⟨w.heap.size, 3, none⟩ = some (.int .i64 0) := (blk_cell B.out 3).trans rfl
 have q_B_4 : w2.cell? ⟨w.heap.size, 4, none⟩ = some (.int .i64 7) := (blk_cell B.out 4).trans rfl
 have q_B_5 : w2.cell? ⟨w.heap.size, 5, none⟩ = some (.int .i64 c) := (blk_cell B.out 5).trans rfl
 have q_B_6 : w2.cell? ⟨w.heap.size, 6, none⟩ = some (.bool false) := (blk_cell B.out 6).trans rfl
 have q_B_7 : w2.cell? ⟨w.heap.size, 7, none⟩ = some (.int .i64 0) := (blk_cell B.out 7).trans rfl
 have q_B_8 : w2.cell? ⟨w.heap.size, 8, none⟩ = some (.int .u32 0) := (blk_cell B.out 8).trans rfl
 have q_B_9 : w2.cell? ⟨w.heap.size, 9, none⟩ = some (.int .u32 0) := (blk_cell B.out 9).trans rfl
 go_wp2_with fail
 clear l_B q_B_0 q_B_1 q_B_2 q_B_3 q_B_4 q_B_5 q_B_6 q_B_7 q_B_8 q_B_9
 refine calls_at (fun wt hW => ?_)
 have hb : Below w2.heap.size w2 wt := by rw [hW]; exact (Below.refl _ _).alloc (Nat.le_refl _) _
 have hlc : w.heap.size < w2.heap.size := blk_lt B.out
 have hlg : g < w2.heap.size := blk_lt CK.out.blk
 obtain ⟨gt, hgt⟩ : ∃ n, w2.heap.size = n := ⟨_, rfl⟩
 have neT : gt ≠ g := by omega
 have nT : wt.heap[gt]? = some (.cells #[.int .i64 0, .int .i64 tO, .int .i64 td, .int .i64 tp, .int .i64 te, .int .i64 tc, .bool tb, .int .i64 ta, .int .u32 ts, .int .u32 tl] 67 (0, 0)) := by rw [hW, ← hgt]; exact heap_alloc_new _ _
 rw [hgt]
 clear hW hlc hlg hgt
 replace GK := Lib.hid (GK.out.then hb)
 replace CK := Lib.hid (CK.out.then hb)
 replace B := Lib.hid (blk_below B.out hb)
 clear hb
 have T := Lib.hid nT
 clear nT
 refine (must_no _).mono ?_
 rintro e wy ⟨rfl, rfl⟩
 go_wp2
 exact ⟨rfl, rfl, GK.out⟩
set_option maxHeartbeats 4000000 in
theorem comp_2m {W0 w : World} {s : List Int} {cp g nx m : Nat} {D Wd O : Int} {sb so at_ c : Nat} {off depth : Int} {K d p sz qq : Nat} {te tc ta ts tl : Int} {tb : Bool} (hE : Env W0 s (some ⟨sb, so, none⟩)) (hK : Ck W0 s (some ⟨sb, so, none⟩) cp D Wd O g nx m w) (ha : at_ ≤ 17592186040320) (ho0 : -536870912 ≤ off) (ho1 : off ≤ 536870911) (hc0 : c ≤ 536870911) (hx : nx ≤ s.length) (hm : m ≤ 4611686018427387904) (hcp : s.length ≤ cp) (hob : objM s at_ off (c + 1) nx = true) (hDec : decV (wd s nx) = .agg #[.int .i64 0, .int .i64 (K : Int), .int .i64 (d : Int), .int .i64 (p : Int), .int .i64 te, .int .i64 tc, .bool tb, .int .i64 ta, .int .u32 ts, .int .u32 tl]) (hK1 : K ≤ 536870911) (hd : d ≤ 65535) (hp : p ≤ 65535) (hsz : d + p = sz) (hqq : K * sz = qq) (hq1 : qq ≤ 1152921504606846976) (hqc : ¬ qq = c)  :
  Calls Tryd.prog 59 #[.pointer (some ⟨g, 0, none⟩), .int .i64 at_, .int .i64 depth, .agg #[.int .i64 1, .int .i64 off, .int .i64 0, .int .i64 0, .int .i64 7, .int .i64 c, .bool false, .int .i64 0, .int .u32 0, .int .u32 0]] w fun e w' => e = .panicked [{ v := .iface 47 (.agg #[]), recovered := false }] ∧ Gr g w w' := by
 have HLEN := Lib.hid hE.len
 have hlen := hE.len
 have HDEC := Lib.hid hDec
 clear hDec
 have HSZ := Lib.hid hsz
 have HQC := Lib.hid hqc
 have z0 : (sz : Int) ≤ 131072 := by omega
 have z1 : (0 : Int) ≤ (sz : Int) := Int.natCast_nonneg _
 have z2 : (0 : Int) ≤ (K : Int) := Int.natCast_nonneg _
 clear hqc
 have HQQ := Lib.hid hqq
 clear hqq
 have t3 : ((qq : Int) == (c : Int)) = false := beq_eq_false_iff_ne.2 (fun e => HQC.out (by omega))
 have z3 : (qq : Int) ≤ 1152921504606846976 := by omega
 have z4 : (0 : Int) ≤ (qq : Int) := Int.natCast_nonneg _
 have e_sz : (d : Int) + (p : Int) = (sz : Int) := by omega
 clear hsz
 have e_q : (K : Int) * (sz : Int) = (qq : Int) := by have := HQQ.out; rw [← this]; simp
 have GK := Lib.hid (Gr.refl g w)
 have CK := Lib.hid hK
 have HE := Lib.hid hE
 clear hE hK
 go_enter Tryd.func59, Tryd.ntmps59
 go_wp2_with fail
 have lg : g < w.heap.size := blk_lt CK.out.blk
 refine calls_at (fun wa hW => ?_)
 have hb : Below w.heap.size w wa := by rw [hW]; exact (Below.refl _ _).alloc (Nat.le_refl _) _
 have nB : wa.heap[w.heap.size]? = some (.cells #[.int .i64 1, .int .i64 off, .int .i64 0, .int .i64 0, .int .i64 7, .int .i64 c, .bool false, .int .i64 0, .int .u32 0, .int .u32 0] 67 (0, 0)) := by rw [hW]; exact heap_alloc_new _ _
 have neB : w.heap.size ≠ g := by omega
 clear hW lg
 replace GK := Lib.hid (GK.out.then hb)
 replace CK := Lib.hid (CK.out.then hb)
 clear hb
 have B := Lib.hid nB
 clear nB
 have e0 : ((c : Int) + 1) = ((c + 1 : Nat) : Int) := by omega
 rw [e0]
 clear e0
 refine (object_yes HE.out CK.out ha ⟨ho0, ho1⟩ (by omega) hx hcp hob).mono ?_
 rintro e w1 ⟨rfl, hg, hc⟩
 have gB : Hid (Gr g wa w1) := Lib.hid hg
 replace B := Lib.hid (gB.out.blk B.out neB)
 replace GK := Lib.hid (GK.out.trans gB.out)
 clear gB
 clear CK
 have CK := Lib.hid hc
 clear hg hc
 have hnl : nx < s.length := by have := (objM_in hob).2; omega
 have hwc := wd_cell HE.out CK.out.below hnl
 have hwr := HE.out.word nx
 have hn0 : (0 : Int) ≤ (nx : Int) := Int.natCast_nonneg _
 have hn1 : (nx : Int) < (s.length : Int) := by omega
 clear hnl
 have l_K : g < w1.heap.size := blk_lt CK.out.blk
 have q_K_0 : w1.cell? ⟨g, 0, none⟩ = some (.slice (some ⟨sb, so, none⟩) s.length cp) := (blk_cell CK.out.blk 0).trans rfl
 go_wp2_with fail
 clear hwc hn0 hn1 l_K q_K_0
 refine (decode_any (wd s nx) w1 hwr.1 hwr.2 (HE.out.dec.below CK.out.below)).mono ?_
 rw [HDEC.out]
 rintro e w2 ⟨rfl, hb⟩
 replace GK := Lib.hid (GK.out.then hb)
 replace CK := Lib.hid (CK.out.then hb)
 replace B := Lib.hid (blk_below B.out hb)
 clear hb hwr
 have l_B : w.heap.size < w2.heap.size := blk_lt B.out
 have q_B_0 : w2.cell? ⟨w.heap.size, 0, none⟩ = some (.int .i64 1) := (blk_cell B.out 0).trans rfl
 have q_B_1 : w2.cell? ⟨w.heap.size, 1, none⟩ = some (.int .i64 off) := (blk_cell B.out 1).trans rfl
 have q_B_2 : w2.cell? ⟨w.heap.size, 2, none⟩ = some (.int .i64 0) := (blk_cell B.out 2).trans rfl
 have q_B_3 : w2.cell? ⟨w.heap.size, 3, none⟩ = some (.int .i64 0) := (blk_cell B.out 3).trans rfl
 have q_B_4 : w2.cell? ⟨w.heap.size, 4, none⟩ = some (.int .i64 7) := (blk_cell B.out 4).trans rfl
 have q_B_5 : w2.cell? ⟨w.heap.size, 5, none⟩ = some (.int .i64 c) := (blk_cell B.out 5).trans rfl
 have q_B_6 : w2.cell? ⟨w.heap.size, 6, none⟩ = some (.bool false) := (blk_cell B.out 6).trans rfl
 have q_B_7 : w2.cell? ⟨w.heap.size, 7, none⟩ = some (.int .i64 0) := (blk_cell B.out 7).trans rfl
 have q_B_8 : w2.cell? ⟨w.heap.size, 8, none⟩ = some (.int .u32 0) := (blk_cell B.out 8).trans rfl
 have q_B_9 : w2.cell? ⟨w.heap.size, 9, none⟩ = some (.int .u32 0) := (blk_cell B.out 9).trans rfl
 go_wp2_with fail
 clear l_B q_B_0 q_B_1 q_B_2 q_B_3 q_B_4 q_B_5 q_B_6 q_B_7 q_B_8 q_B_9
 refine calls_at (fun wt hW => ?_)
 have hb : Below w2.heap.size w2 wt := by rw [hW]; exact (Below.refl _ _).alloc (Nat.le_refl _) _
 have hlc : w.heap.size < w2.heap.size := blk_lt B.out
 have hlg : g < w2.heap.size := blk_lt CK.out.blk
 obtain ⟨gt, hgt⟩ : ∃ n, w2.heap.size = n := ⟨_, rfl⟩
 have neT : gt ≠ g := by omega
 have nT : wt.heap[gt]? = some (.cells #[.int .i64 0, .int .i64 (K : Int), .int .i64 (d : Int), .int .i64 (p : Int), .int .i64 te, .int .i64 tc, .bool tb, .int .i64 ta, .int .u32 ts, .int .u32 tl] 67 (0, 0)) := by rw [hW, ← hgt]; exact heap_alloc_new _ _
 rw [hgt]
 clear hW hlc hlg hgt
 replace GK := Lib.hid (GK.out.then hb)
 replace CK := Lib.hid (CK.out.then hb)
 replace B := Lib.hid (blk_below B.out hb)
 clear hb
 have T := Lib.hid nT
 clear nT
 refine (must_no _).mono ?_
 rintro e wy ⟨rfl, rfl⟩
 go_wp2
 exact ⟨rfl, rfl, GK.out⟩
set_option maxHeartbeats 4000000 in
theorem comp_3 {W0 w : World} {s : List Int} {cp g nx m : Nat} {D Wd O : Int} {sb so at_ c : Nat} {off depth : Int} {K d p sz : Nat} {te tc ta ts tl : Int} {tb : Bool} (hE : Env W0 s (some ⟨sb, so, none⟩)) (hK : Ck W0 s (some ⟨sb, so, none⟩) cp D Wd O g nx m w) (ha : at_ ≤ 17592186040320) (ho0 : -536870912 ≤ off) (ho1 : off ≤ 536870911) (hc0 : c ≤ 536870911) (hx : nx ≤ s.length) (hm : m ≤ 4611686018427387904) (hcp : s.length ≤ cp) (hob : objM s at_ off (c + 1) nx = true) (hDec : decV (wd s nx) = .agg #[.int .i64 0, .int .i64 (K : Int), .int .i64 (d : Int), .int .i64 (p : Int), .int .i64 te, .int .i64 tc, .bool tb, .int .i64 ta, .int .u32 ts, .int .u32 tl]) (hK1 : K ≤ 536870911) (hd : d ≤ 65535) (hp : p ≤ 65535) (hsz : d + p = sz) (hqc : K * sz = c) (hch : ¬ c + 1 ≤ m) :
  Calls Tryd.prog 59 #[.pointer (some ⟨g, 0, none⟩), .int .i64 at_, .int .i64 depth, .agg #[.int .i64 1, .int .i64 off, .int .i64 0, .int .i64 0, .int .i64 7, .int .i64 c, .bool false, .int .i64 0, .int .u32 0, .int .u32 0]] w fun e w' => e = .panicked [{ v := .iface 47 (.agg #[]), recovered := false }] ∧ Gr g w w' := by
 have HLEN := Lib.hid hE.len
 have hlen := hE.len
 have HDEC := Lib.hid hDec
 clear hDec
 have HSZ := Lib.hid hsz
 have HQC := Lib.hid hqc
 have z0 : (sz : Int) ≤ 131072 := by omega
 have z1 : (0 : Int) ≤ (sz : Int) := Int.natCast_nonneg _
 have z2 : (0 : Int) ≤ (K : Int) := Int.natCast_nonneg _
 clear hqc
 have e_sz : (d : Int) + (p : Int) = (sz : Int) := by omega
 clear hsz
 have e_q : (K : Int) * (sz : Int) = (c : Int) := by have := HQC.out; rw [← this]; simp
 have GK := Lib.hid (Gr.refl g w)
 have CK := Lib.hid hK
 have HE := Lib.hid hE
 clear hE hK
 go_enter Tryd.func59, Tryd.ntmps59
 go_wp2_with fail
 have lg : g < w.heap.size := blk_lt CK.out.blk
 refine calls_at (fun wa hW => ?_)
 have hb : Below w.heap.size w wa := by rw [hW]; exact (Below.refl _ _).alloc (Nat.le_refl _) _
 have nB : wa.heap[w.heap.size]? = some (.cells #[.int .i64 1, .int .i64 off, .int .i64 0, .int .i64 0, .int .i64 7, .int .i64 c, .bool false, .int .i64 0, .int .u32 0, .int .u32 0] 67 (0, 0)) := by rw [hW]; exact heap_alloc_new _ _
 have neB : w.heap.size ≠ g := by omega
 clear hW lg
 replace GK := Lib.hid (GK.out.then hb)
 replace CK := Lib.hid (CK.out.then hb)
 clear hb
 have B := Lib.hid nB
 clear nB
 have e0 : ((c : Int) + 1) = ((c + 1 : Nat) : Int) := by omega
 rw [e0]
 clear e0
 refine (object_yes HE.out CK.out ha ⟨ho0, ho1⟩ (by omega) hx hcp hob).mono ?_
 rintro e w1 ⟨rfl, hg, hc⟩
 have gB : Hid (Gr g wa w1) := Lib.hid hg
 replace B := Lib.hid (gB.out.blk B.out neB)
 replace GK := Lib.hid (GK.out.trans gB.out)
 clear gB
 clear CK
 have CK := Lib.hid hc
 clear hg hc
 have hnl : nx < s.length := by have := (objM_in hob).2; omega
 have hwc := wd_cell HE.out CK.out.below hnl
 have hwr := HE.out.word nx
 have hn0 : (0 : Int) ≤ (nx : Int) := Int.natCast_nonneg _
 have hn1 : (nx : Int) < (s.length : Int) := by omega
 clear hnl
 have l_K : g < w1.heap.size := blk_lt CK.out.blk
 have q_K_0 : w1.cell? ⟨g, 0, none⟩ = some (.slice (some ⟨sb, so, none⟩) s.length cp) := (blk_cell CK.out.blk 0).trans rfl
 go_wp2_with fail
 clear hwc hn0 hn1 l_K q_K_0
 refine (decode_any (wd s nx) w1 hwr.1 hwr.2 (HE.out.dec.below CK.out.below)).mono ?_
 rw [HDEC.out]
 rintro e w2 ⟨rfl, hb⟩
 replace GK := Lib.hid (GK.out.then hb)
 replace CK := Lib.hid (CK.out.then hb)
 replace B := Lib.hid (blk_below B.out hb)
 clear hb hwr
 have l_B : w.heap.size < w2.heap.size := blk_lt B.out
 have q_B_0 : w2.cell? ⟨w.heap.size, 0, none⟩ = some (.int .i64 1) := (blk_cell B.out 0).trans rfl
 have q_B_1 : w2.cell? ⟨w.heap.size, 1, none⟩ = some (.int .i64 off) := (blk_cell B.out 1).trans rfl
 have q_B_2 : w2.cell? ⟨w.heap.size, 2, none⟩ = some (.int .i64 0) := (blk_cell B.out 2).trans rfl
 have q_B_3 : w2.cell? ⟨w.heap.size, 3, none⟩ = some (.int .i64 0) := (blk_cell B.out 3).trans rfl
 have q_B_4 : w2.cell? ⟨w.heap.size, 4, none⟩ = some (.int .i64 7) := (blk_cell B.out 4).trans rfl
 have q_B_5 : w2.cell? ⟨w.heap.size, 5, none⟩ = some (.int .i64 c) := (blk_cell B.out 5).trans rfl
 have q_B_6 : w2.cell? ⟨w.heap.size, 6, none⟩ = some (.bool false) := (blk_cell B.out 6).trans rfl
 have q_B_7 : w2.cell? ⟨w.heap.size, 7, none⟩ = some (.int .i64 0) := (blk_cell B.out 7).trans rfl
 have q_B_8 : w2.cell? ⟨w.heap.size, 8, none⟩ = some (.int .u32 0) := (blk_cell B.out 8).trans rfl
 have q_B_9 : w2.cell? ⟨w.heap.size, 9, none⟩ = some (.int .u32 0) := (blk_cell B.out 9).trans rfl
 go_wp2_with fail
 clear l_B q_B_0 q_B_1 q_B_2 q_B_3 q_B_4 q_B_5 q_B_6 q_B_7 q_B_8 q_B_9
 refine calls_at (fun wt hW => ?_)
 have hb : Below w2.heap.size w2 wt := by rw [hW]; exact (Below.refl _ _).alloc (Nat.le_refl _) _
 have hlc : w.heap.size < w2.heap.size := blk_lt B.out
 have hlg : g < w2.heap.size := blk_lt CK.out.blk
 obtain ⟨gt, hgt⟩ : ∃ n, w2.heap.size = n := ⟨_, rfl⟩
 have neT : gt ≠ g := by omega
 have nT : wt.heap[gt]? = some (.cells #[.int .i64 0, .int .i64 (K : Int), .int .i64 (d : Int), .int .i64 (p : Int), .int .i64 te, .int .i64 tc, .bool tb, .int .i64 ta, .int .u32 ts, .int .u32 tl] 67 (0, 0)) := by rw [hW, ← hgt]; exact heap_alloc_new _ _
 rw [hgt]
 clear hW hlc hlg hgt
 replace GK := Lib.hid (GK.out.then hb)
 replace CK := Lib.hid (CK.out.then hb)
 replace B := Lib.hid (blk_below B.out hb)
 clear hb
 have T := Lib.hid nT
 clear nT
 refine (must_yes _).mono ?_
 rintro e wy ⟨rfl, rfl⟩
 clear e_sz e_q
 have l_B : w.heap.size < wt.heap.size := blk_lt B.out
 have q_B_0 : wt.cell? ⟨w.heap.size, 0, none⟩ = some (.int .i64 1) := (blk_cell B.out 0).trans rfl
 have q_B_1 : wt.cell? ⟨w.heap.size, 1, none⟩ = some (.int .i64 off) := (blk_cell B.out 1).trans rfl
 have q_B_2 : wt.cell? ⟨w.heap.size, 2, none⟩ = some (.int .i64 0) := (blk_cell B.out 2).trans rfl
 have q_B_3 : wt.cell? ⟨w.heap.size, 3, none⟩ = some (.int .i64 0) := (blk_cell B.out 3).trans rfl
 have q_B_4 : wt.cell? ⟨w.heap.size, 4, none⟩ = some (.int .i64 7) := (blk_cell B.out 4).trans rfl
 have q_B_5 : wt.cell? ⟨w.heap.size, 5, none⟩ = some (.int .i64 c) := (blk_cell B.out 5).trans rfl
 have q_B_6 : wt.cell? ⟨w.heap.size, 6, none⟩ = some (.bool false) := (blk_cell B.out 6).trans rfl
 have q_B_7 : wt.cell? ⟨w.heap.size, 7, none⟩ = some (.int .i64 0) := (blk_cell B.out 7).trans rfl
 have q_B_8 : wt.cell? ⟨w.heap.size, 8, none⟩ = some (.int .u32 0) := (blk_cell B.out 8).trans rfl
 have q_B_9 : wt.cell? ⟨w.heap.size, 9, none⟩ = some (.int .u32 0) := (blk_cell B.out 9).trans rfl
 go_wp2_with fail
 clear l_B q_B_0 q_B_1 q_B_2 q_B_3 q_B_4 q_B_5 q_B_6 q_B_7 q_B_8 q_B_9
 have e0 : ((c : Int) + 1) = ((c + 1 : Nat) : Int) := by omega
 rw [e0]
 clear e0
 refine (charge_bad HE.out CK.out hch (by omega) (by omega)).mono ?_
 rintro e w3 (⟨q, hq, _⟩ | ⟨_, rfl, hg⟩)
 ·cases hq
 have hg' := GK.out.trans hg
 clear hg
 go_wp2
 exact ⟨rfl, rfl, hg'⟩
set_option maxHeartbeats 4000000 in
theorem comp_4a {W0 w : World} {s : List Int} {cp g nx m : Nat} {D Wd O : Int} {sb so at_ c : Nat} {off depth : Int} {K d p sz : Nat} {te tc ta ts tl : Int} {tb : Bool} (hE : Env W0 s (some ⟨sb, so, none⟩)) (hK : Ck W0 s (some ⟨sb, so, none⟩) cp D Wd O g nx m w) (ha : at_ ≤ 17592186040320) (ho0 : -536870912 ≤ off) (ho1 : off ≤ 536870911) (hc0 : c ≤ 536870911) (hx : nx ≤ s.length) (hm : m ≤ 4611686018427387904) (hcp : s.length ≤ cp) (hob : objM s at_ off (c + 1) nx = true) (hDec : decV (wd s nx) = .agg #[.int .i64 0, .int .i64 (K : Int), .int .i64 (d : Int), .int .i64 (p : Int), .int .i64 te, .int .i64 tc, .bool tb, .int .i64 ta, .int .u32 ts, .int .u32 tl]) (hK1 : K ≤ 536870911) (hd : d ≤ 65535) (hp : p ≤ 65535) (hsz : d + p = sz) (hqc : K * sz = c) (hch : c + 1 ≤ m) (hz : sz = 0) (hch2 : K ≤ m - (c + 1)) :
  Calls Tryd.prog 59 #[.pointer (some ⟨g, 0, none⟩), .int .i64 at_, .int .i64 depth, .agg #[.int .i64 1, .int .i64 off, .int .i64 0, .int .i64 0, .int .i64 7, .int .i64 c, .bool false, .int .i64 0, .int .u32 0, .int .u32 0]] w fun e w' => (e = .returned (.tuple #[]) ∧ Gr g w w' ∧ Ck W0 s (some ⟨sb, so, none⟩) cp D Wd O g (nx + (c + 1)) (m - (c + 1) - K) w') := by
 have HLEN := Lib.hid hE.len
 have hlen := hE.len
 have HDEC := Lib.hid hDec
 clear hDec
 have HSZ := Lib.hid hsz
 have HQC := Lib.hid hqc
 have z0 : (sz : Int) ≤ 131072 := by omega
 have z1 : (0 : Int) ≤ (sz : Int) := Int.natCast_nonneg _
 have z2 : (0 : Int) ≤ (K : Int) := Int.natCast_nonneg _
 clear hqc
 have e_sz : (d : Int) + (p : Int) = (sz : Int) := by omega
 clear hsz
 have e_q : (K : Int) * (sz : Int) = (c : Int) := by have := HQC.out; rw [← this]; simp
 have H_z := Lib.hid hz
 clear hz
 have GK := Lib.hid (Gr.refl g w)
 have CK := Lib.hid hK
 have HE := Lib.hid hE
 clear hE hK
 go_enter Tryd.func59, Tryd.ntmps59
 go_wp2_with fail
 have lg : g < w.heap.size := blk_lt CK.out.blk
 refine calls_at (fun wa hW => ?_)
 have hb : Below w.heap.size w wa := by rw [hW]; exact (Below.refl _ _).alloc (Nat.le_refl _) _
 have nB : wa.heap[w.heap.size]? = some (.cells #[.int .i64 1, .int .i64 off, .int .i64 0, .int .i64 0, .int .i64 7, .int .i64 c, .bool false, .int .i64 0, .int .u32 0, .int .u32 0] 67 (0, 0)) := by rw [hW]; exact heap_alloc_new _ _
 have neB : w.heap.size ≠ g := by omega
 clear hW lg
 replace GK := Lib.hid (GK.out.then hb)
 replace CK := Lib.hid (CK.out.then hb)
 clear hb
 have B := Lib.hid nB
 clear nB
 have e0 : ((c : Int) + 1) = ((c + 1 : Nat) : Int) := by omega
 rw [e0]
 clear e0
 refine (object_yes HE.out CK.out ha ⟨ho0, ho1⟩ (by omega) hx hcp hob).mono ?_
 rintro e w1 ⟨rfl, hg, hc⟩
 have gB : Hid (Gr g wa w1) := Lib.hid hg
 replace B := Lib.hid (gB.out.blk B.out neB)
 replace GK := Lib.hid (GK.out.trans gB.out)
 clear gB
 clear CK
 have CK := Lib.hid hc
 clear hg hc
 have hnl : nx < s.length := by have := (objM_in hob).2; omega
 have hwc := wd_cell HE.out CK.out.below hnl
 have hwr := HE.out.word nx
 have hn0 : (0 : Int) ≤ (nx : Int) := Int.natCast_nonneg _
 have hn1 : (nx : Int) < (s.length : Int) := by omega
 clear hnl
 have l_K : g < w1.heap.size := blk_lt CK.out.blk
 have q_K_0 : w1.cell? ⟨g, 0, none⟩ = some (.slice (some ⟨sb, so, none⟩) s.length cp) := (blk_cell CK.out.blk 0).trans rfl
 go_wp2_with fail
 clear hwc hn0 hn1 l_K q_K_0
 refine (decode_any (wd s nx) w1 hwr.1 hwr.2 (HE.out.dec.below CK.out.below)).mono ?_
 rw [HDEC.out]
 rintro e w2 ⟨rfl, hb⟩
 replace GK := Lib.hid (GK.out.then hb)
 replace CK := Lib.hid (CK.out.then hb)
 replace B := Lib.hid (blk_below B.out hb)
 clear hb hwr
 have l_B : w.heap.size < w2.heap.size := blk_lt B.out
 have q_B_0 : w2.cell? ⟨w.heap.size, 0, none⟩ = some (.int .i64 1) := (blk_cell B.out 0).trans rfl
 have q_B_1 : w2.cell? ⟨w.heap.size, 1, none⟩ = some (.int .i64 off) := (blk_cell B.out 1).trans rfl
 have q_B_2 : w2.cell? ⟨w.heap.size, 2, none⟩ = some (.int .i64 0) := (blk_cell B.out 2).trans rfl
 have q_B_3 : w2.cell? ⟨w.heap.size, 3, none⟩ = some (.int .i64 0) := (blk_cell B.out 3).trans rfl
 have q_B_4 : w2.cell? ⟨w.heap.size, 4, none⟩ = some (.int .i64 7) := (blk_cell B.out 4).trans rfl
 have q_B_5 : w2.cell? ⟨w.heap.size, 5, none⟩ = some (.int .i64 c) := (blk_cell B.out 5).trans rfl
 have q_B_6 : w2.cell? ⟨w.heap.size, 6, none⟩ = some (.bool false) := (blk_cell B.out 6).trans rfl
 have q_B_7 : w2.cell? ⟨w.heap.size, 7, none⟩ = some (.int .i64 0) := (blk_cell B.out 7).trans rfl
 have q_B_8 : w2.cell? ⟨w.heap.size, 8, none⟩ = some (.int .u32 0) := (blk_cell B.out 8).trans rfl
 have q_B_9 : w2.cell? ⟨w.heap.size, 9, none⟩ = some (.int .u32 0) := (blk_cell B.out 9).trans rfl
 go_wp2_with fail
 clear l_B q_B_0 q_B_1 q_B_2 q_B_3 q_B_4 q_B_5 q_B_6 q_B_7 q_B_8 q_B_9
 refine calls_at (fun wt hW => ?_)
 have hb : Below w2.heap.size w2 wt := by rw [hW]; exact (Below.refl _ _).alloc (Nat.le_refl _) _
 have hlc : w.heap.size < w2.heap.size := blk_lt B.out
 have hlg : g < w2.heap.size := blk_lt CK.out.blk
 obtain ⟨gt, hgt⟩ : ∃ n, w2.heap.size = n := ⟨_, rfl⟩
 have neT : gt ≠ g := by omega
 have nT : wt.heap[gt]? = some (.cells #[.int .i64 0, .int .i64 (K : Int), .int .i64 (d : Int), .int .i64 (p : Int), .int .i64 te, .int .i64 tc, .bool tb, .int .i64 ta, .int .u32 ts, .int .u32 tl] 67 (0, 0)) := by rw [hW, ← hgt]; exact heap_alloc_new _ _
 rw [hgt]
 clear hW hlc hlg hgt
 replace GK := Lib.hid (GK.out.then hb)
 replace CK := Lib.hid (CK.out.then hb)
 replace B := Lib.hid (blk_below B.out hb)
 clear hb
 have T := Lib.hid nT
 clear nT
 refine (must_yes _).mono ?_
 rintro e wy ⟨rfl, rfl⟩
 clear e_sz e_q
 have l_B : w.heap.size < wt.heap.size := blk_lt B.out
 have q_B_0 : wt.cell? ⟨w.heap.size, 0, none⟩ = some (.int .i64 1) := (blk_cell B.out 0).trans rfl
 have q_B_1 : wt.cell? ⟨w.heap.size, 1, none⟩ = some (.int .i64 off) := (blk_cell B.out 1).trans rfl
 have q_B_2 : wt.cell? ⟨w.heap.size, 2, none⟩ = some (.int .i64 0) := (blk_cell B.out 2).trans rfl
 have q_B_3 : wt.cell? ⟨w.heap.size, 3, none⟩ = some (.int .i64 0) := (blk_cell B.out 3).trans rfl
 have q_B_4 : wt.cell? ⟨w.heap.size, 4, none⟩ = some (.int .i64 7) := (blk_cell B.out 4).trans rfl
 have q_B_5 : wt.cell? ⟨w.heap.size, 5, none⟩ = some (.int .i64 c) := (blk_cell B.out 5).trans rfl
 have q_B_6 : wt.cell? ⟨w.heap.size, 6, none⟩ = some (.bool false) := (blk_cell B.out 6).trans rfl
 have q_B_7 : wt.cell? ⟨w.heap.size, 7, none⟩ = some (.int .i64 0) := (blk_cell B.out 7).trans rfl
 have q_B_8 : wt.cell? ⟨w.heap.size, 8, none⟩ = some (.int .u32 0) := (blk_cell B.out 8).trans rfl
 have q_B_9 : wt.cell? ⟨w.heap.size, 9, none⟩ = some (.int .u32 0) := (blk_cell B.out 9).trans rfl
 go_wp2_with fail
 clear l_B q_B_0 q_B_1 q_B_2 q_B_3 q_B_4 q_B_5 q_B_6 q_B_7 q_B_8 q_B_9
 have e0 : ((c : Int) + 1) = ((c + 1 : Nat) : Int) := by omega
 rw [e0]
 clear e0
 refine (charge_ok HE.out CK.out hch (by omega) (by omega)).mono ?_
 rintro e w3 (⟨q, hq, rfl, hg, hc⟩ | ⟨hq, _⟩)
 rotate_left
 ·cases hq
 cases hq
 have gB : Hid (Gr g wt w3) := Lib.hid hg
 replace B := Lib.hid (gB.out.blk B.out neB)
 replace T := Lib.hid (gB.out.blk T.out neT)
 replace GK := Lib.hid (GK.out.trans gB.out)
 clear gB
 clear CK
 have CK := Lib.hid hc
 clear hg hc
 have t4 : ((sz : Int) == 0) = true := beq_iff_eq.2 (by have := H_z.out; omega)
 have l_T : gt < w3.heap.size := blk_lt T.out
 have q_T_0 : w3.cell? ⟨gt, 0, none⟩ = some (.int .i64 0) := (blk_cell T.out 0).trans rfl
 have q_T_1 : w3.cell? ⟨gt, 1, none⟩ = some (.int .i64 (K : Int)) := (blk_cell T.out 1).trans rfl
 have q_T_2 : w3.cell? ⟨gt, 2, none⟩ = some (.int .i64 (d : Int)) := (blk_cell T.out 2).trans rfl
 have q_T_3 : w3.cell? ⟨gt, 3, none⟩ = some (.int .i64 (p : Int)) := (blk_cell T.out 3).trans rfl
 have q_T_4 : w3.cell? ⟨gt, 4, none⟩ = some (.int .i64 te) := (blk_cell T.out 4).trans rfl
 have q_T_5 : w3.cell? ⟨gt, 5, none⟩ = some (.int .i64 tc) := (blk_cell T.out 5).trans rfl
 have q_T_6 : w3.cell? ⟨gt, 6, none⟩ = some (.bool tb) := (blk_cell T.out 6).trans rfl
 have q_T_7 : w3.cell? ⟨gt, 7, none⟩ = some (.int .i64 ta) := (blk_cell T.out 7).trans rfl
 have q_T_8 : w3.cell? ⟨gt, 8, none⟩ = some (.int .u32 ts) := (blk_cell T.out 8).trans rfl
 have q_T_9 : w3.cell? ⟨gt, 9, none⟩ = some (.int .u32 tl) := (blk_cell T.out 9).trans rfl
 go_wp2_with fail
 clear t4 l_T q_T_0 q_T_1 q_T_2 q_T_3 q_T_4 q_T_5 q_T_6 q_T_7 q_T_8 q_T_9
 refine (charge_ok HE.out CK.out hch2 (by omega) (by omega)).mono ?_
 rintro e w4 (⟨q, hq, rfl, hg, hc⟩ | ⟨hq, _⟩)
 rotate_left
 ·cases hq
 cases hq
 have hg' := GK.out.trans hg
 go_wp2
 refine bodyPost_ret (results_none rfl _ _ _) rfl ?_
 exact ⟨rfl, hg', hc⟩
set_option maxHeartbeats 4000000 in
theorem comp_4b {W0 w : World} {s : List Int} {cp g nx m : Nat} {D Wd O : Int} {sb so at_ c : Nat} {off depth : Int} {K d p sz : Nat} {te tc ta ts tl : Int} {tb : Bool} (hE : Env W0 s (some ⟨sb, so, none⟩)) (hK : Ck W0 s (some ⟨sb, so, none⟩) cp D Wd O g nx m w) (ha : at_ ≤ 17592186040320) (ho0 : -536870912 ≤ off) (ho1 : off ≤ 536870911) (hc0 : c ≤ 536870911) (hx : nx ≤ s.length) (hm : m ≤ 4611686018427387904) (hcp : s.length ≤ cp) (hob : objM s at_ off (c + 1) nx = true) (hDec : decV (wd s nx) = .agg #[.int .i64 0, .int .i64 (K : Int), .int .i64 (d : Int), .int .i64 (p : Int), .int .i64 te, .int .i64 tc, .bool tb, .int .i64 ta, .int .u32 ts, .int .u32 tl]) (hK1 : K ≤ 536870911) (hd : d ≤ 65535) (hp : p ≤ 65535) (hsz : d + p = sz) (hqc : K * sz = c) (hch : c + 1 ≤ m) (hz : sz = 0) (hch2 : ¬ K ≤ m - (c + 1)) :
  Calls Tryd.prog 59 #[.pointer (some ⟨g, 0, none⟩), .int .i64 at_, .int .i64 depth, .agg #[.int .i64 1, .int .i64 off, .int .i64 0, .int .i64 0, .int .i64 7, .int .i64 c, .bool false, .int .i64 0, .int .u32 0, .int .u32 0]] w fun e w' => e = .panicked [{ v := .iface 47 (.agg #[]), recovered := false }] ∧ Gr g w w' := by
 have HLEN := Lib.hid hE.len
 have hlen := hE.len
 have HDEC := Lib.hid hDec
 clear hDec
 have HSZ := Lib.hid hsz
 have HQC := Lib.hid hqc
 have z0 : (sz : Int) ≤ 131072 := by omega
 have z1 : (0 : Int) ≤ (sz : Int) := Int.natCast_nonneg _
 have z2 : (0 : Int) ≤ (K : Int) := Int.natCast_nonneg _
 clear hqc
 have e_sz : (d : Int) + (p : Int) = (sz : Int) := by omega
 clear hsz
 have e_q : (K : Int) * (sz : Int) = (c : Int) := by have := HQC.out; rw [← this]; simp
 have H_z := Lib.hid hz
 clear hz
 have GK := Lib.hid (Gr.refl g w)
 have CK := Lib.hid hK
 have HE := Lib.hid hE
 clear hE hK
 go_enter Tryd.func59, Tryd.ntmps59
 go_wp2_with fail
 have lg : g < w.heap.size := blk_lt CK.out.blk
 refine calls_at (fun wa hW => ?_)
 have hb : Below w.heap.size w wa := by rw [hW]; exact (Below.refl _ _).alloc (Nat.le_refl _) _
 have nB : wa.heap[w.heap.size]? = some (.cells #[.int .i64 1, .int .i64 off, .int .i64 0, .int .i64 0, .int .i64 7, .int .i64 c, .bool false, .int .i64 0, .int .u32 0, .int .u32 0] 67 (0, 0)) := by rw [hW]; exact heap_alloc_new _ _
 have neB : w.heap.size ≠ g := by omega
 clear hW lg
 replace GK := Lib.hid (GK.out.then hb)
 replace CK := Lib.hid (CK.out.then hb)
 clear hb
 have B := Lib.hid nB
 clear nB
 have e0 : ((c : Int) + 1) = ((c + 1 : Nat) : Int) := by omega
 rw [e0]
 clear e0
 refine (object_yes HE.out CK.out ha ⟨ho0, ho1⟩ (by omega) hx hcp hob).mono ?_
 rintro e w1 ⟨rfl, hg, hc⟩
 have gB : Hid (Gr g wa w1) := Lib.hid hg
 replace B := Lib.hid (gB.out.blk B.out neB)
 replace GK := Lib.hid (GK.out.trans gB.out)
 clear gB
 clear CK
 have CK := Lib.hid hc
 clear hg hc
 have hnl : nx < s.length := by have := (objM_in hob).2; omega
 have hwc := wd_cell HE.out CK.out.below hnl
 have hwr := HE.out.word nx
 have hn0 : (0 : Int) ≤ (nx : Int) := Int.natCast_nonneg _
 have hn1 : (nx : Int) < (s.length : Int) := by omega
 clear hnl
 have l_K : g < w1.heap.size := blk_lt CK.out.blk
 have q_K_0 : w1.cell? ⟨g, 0, none⟩ = some (.slice (some ⟨sb, so, none⟩) s.length cp) := (blk_cell CK.out.blk 0).trans rfl
 go_wp2_with fail
 clear hwc hn0 hn1 l_K q_K_0
 refine (decode_any (wd s nx) w1 hwr.1 hwr.2 (HE.out.dec.below CK.out.below)).mono ?_
 rw [HDEC.out]
 rintro e w2 ⟨rfl, hb⟩
 replace GK := Lib.hid (GK.out.then hb)
 replace CK := Lib.hid (CK.out.then hb)
 replace B := Lib.hid (blk_below B.out hb)
 clear hb hwr
 have l_B : w.heap.size < w2.heap.size := blk_lt B.out
 have q_B_0 : w2.cell? ⟨w.heap.size, 0, none⟩ = some (.int .i64 1) := (blk_cell B.out 0).trans rfl
 have q_B_1 : w2.cell? ⟨w.heap.size, 1, none⟩ = some (.int .i64 off) := (blk_cell B.out 1).trans rfl
 have q_B_2 : w2.cell? ⟨w.heap.size, 2, none⟩ = some (.int .i64 0) := (blk_cell B.out 2).trans rfl
 have q_B_3 : w2.cell? ⟨w.heap.size, 3, none⟩ = some (.int .i64 0) := (blk_cell B.out 3).trans rfl
 have q_B_4 : w2.cell? ⟨w.heap.size, 4, none⟩ = some (.int .i64 7) := (blk_cell B.out 4).trans rfl
 have q_B_5 : w2.cell? ⟨w.heap.size, 5, none⟩ = some (.int .i64 c) := (blk_cell B.out 5).trans rfl
 have q_B_6 : w2.cell? ⟨w.heap.size, 6, none⟩ = some (.bool false) := (blk_cell B.out 6).trans rfl
 have q_B_7 : w2.cell? ⟨w.heap.size, 7, none⟩ = some (.int .i64 0) := (blk_cell B.out 7).trans rfl
 have q_B_8 : w2.cell? ⟨w.heap.size, 8, none⟩ = some (.int .u32 0) := (blk_cell B.out 8).trans rfl
 have q_B_9 : w2.cell? ⟨w.heap.size, 9, none⟩ = some (.int .u32 0) := (blk_cell B.out 9).trans rfl
 go_wp2_with fail
 clear l_B q_B_0 q_B_1 q_B_2 q_B_3 q_B_4 q_B_5 q_B_6 q_B_7 q_B_8 q_B_9
 refine calls_at (fun wt hW => ?_)
 have hb : Below w2.heap.size w2 wt := by rw [hW]; exact (Below.refl _ _).alloc (Nat.le_refl _) _
 have hlc : w.heap.size < w2.heap.size := blk_lt B.out
 have hlg : g < w2.heap.size := blk_lt CK.out.blk
 obtain ⟨gt, hgt⟩ : ∃ n, w2.heap.size = n := ⟨_, rfl⟩
 have neT : gt ≠ g := by omega
 have nT : wt.heap[gt]? = some (.cells #[.int .i64 0, .int .i64 (K : Int), .int .i64 (d : Int), .int .i64 (p : Int), .int .i64 te, .int .i64 tc, .bool tb, .int .i64 ta, .int .u32 ts, .int .u32 tl] 67 (0, 0)) := by rw [hW, ← hgt]; exact heap_alloc_new _ _
 rw [hgt]
 clear hW hlc hlg hgt
 replace GK := Lib.hid (GK.out.then hb)
 replace CK := Lib.hid (CK.out.then hb)
 replace B := Lib.hid (blk_below B.out hb)
 clear hb
 have T := Lib.hid nT
 clear nT
 refine (must_yes _).mono ?_
 rintro e wy ⟨rfl, rfl⟩
 clear e_sz e_q
 have l_B : w.heap.size < wt.heap.size := blk_lt B.out
 have q_B_0 : wt.cell? ⟨w.heap.size, 0, none⟩ = some (.int .i64 1) := (blk_cell B.out 0).trans rfl
 have q_B_1 : wt.cell? ⟨w.heap.size, 1, none⟩ = some (.int .i64 off) := (blk_cell B.out 1).trans rfl
 have q_B_2 : wt.cell? ⟨w.heap.size, 2, none⟩ = some (.int .i64 0) := (blk_cell B.out 2).trans rfl
 have q_B_3 : wt.cell? ⟨w.heap.size, 3, none⟩ = some (.int .i64 0) := (blk_cell B.out 3).trans rfl
 have q_B_4 : wt.cell? ⟨w.heap.size, 4, none⟩ = some (.int .i64 7) := (blk_cell B.out 4).trans rfl
 have q_B_5 : wt.cell? ⟨w.heap.size, 5, none⟩ = some (.int .i64 c) := (blk_cell B.out 5).trans rfl
 have q_B_6 : wt.cell? ⟨w.heap.size, 6, none⟩ = some (.bool false) := (blk_cell B.out 6).trans rfl
 have q_B_7 : wt.cell? ⟨w.heap.size, 7, none⟩ = some (.int .i64 0) := (blk_cell B.out 7).trans rfl
 have q_B_8 : wt.cell? ⟨w.heap.size, 8, none⟩ = some (.int .u32 0) := (blk_cell B.out 8).trans rfl
 have q_B_9 : wt.cell? ⟨w.heap.size, 9, none⟩ = some (.int .u32 0) := (blk_cell B.out 9).trans rfl
 go_wp2_with fail
 clear l_B q_B_0 q_B_1 q_B_2 q_B_3 q_B_4 q_B_5 q_B_6 q_B_7 q_B_8 q_B_9
 have e0 : ((c : Int) + 1) = ((c + 1 : Nat) : Int) := by omega
 rw [e0]
 clear e0
 refine (charge_ok HE.out CK.out hch (by omega) (by omega)).mono ?_
 rintro e w3 (⟨q, hq, rfl, hg, hc⟩ | ⟨hq, _⟩)
 rotate_left
 ·cases hq
 cases hq
 have gB : Hid (Gr g wt w3) := Lib.hid hg
 replace B := Lib.hid (gB.out.blk B.out neB)
 replace T := Lib.hid (gB.out.blk T.out neT)
 replace GK := Lib.hid (GK.out.trans gB.out)
 clear gB
 clear CK
 have CK := Lib.hid hc
 clear hg hc
 have t4 : ((sz : Int) == 0) = true := beq_iff_eq.2 (by have := H_z.out; omega)
 have l_T : gt < w3.heap.size := blk_lt T.out
 have q_T_0 : w3.cell? ⟨gt, 0, none⟩ = some (.int .i64 0) := (blk_cell T.out 0).trans rfl
 have q_T_1 : w3.cell? ⟨gt, 1, none⟩ = some (.int .i64 (K : Int)) := (blk_cell T.out 1).trans rfl
 have q_T_2 : w3.cell? ⟨gt, 2, none⟩ = some (.int .i64 (d : Int)) := (blk_cell T.out 2).trans rfl
 have q_T_3 : w3.cell? ⟨gt, 3, none⟩ = some (.int .i64 (p : Int)) := (blk_cell T.out 3).trans rfl
 have q_T_4 : w3.cell? ⟨gt, 4, none⟩ = some (.int .i64 te) := (blk_cell T.out 4).trans rfl
 have q_T_5 : w3.cell? ⟨gt, 5, none⟩ = some (.int .i64 tc) := (blk_cell T.out 5).trans rfl
 have q_T_6 : w3.cell? ⟨gt, 6, none⟩ = some (.bool tb) := (blk_cell T.out 6).trans rfl
 have q_T_7 : w3.cell? ⟨gt, 7, none⟩ = some (.int .i64 ta) := (blk_cell T.out 7).trans rfl
 have q_T_8 : w3.cell? ⟨gt, 8, none⟩ = some (.int .u32 ts) := (blk_cell T.out 8).trans rfl
 have q_T_9 : w3.cell? ⟨gt, 9, none⟩ = some (.int .u32 tl) := (blk_cell T.out 9).trans rfl
 go_wp2_with fail
 clear t4 l_T q_T_0 q_T_1 q_T_2 q_T_3 q_T_4 q_T_5 q_T_6 q_T_7 q_T_8 q_T_9
 refine (charge_bad HE.out CK.out hch2 (by omega) (by omega)).mono ?_
 rintro e w4 (⟨q, hq, _⟩ | ⟨_, rfl, hg⟩)
 ·cases hq
 have hg' := GK.out.trans hg
 go_wp2
 exact ⟨rfl, rfl, hg'⟩
end Go.Proofs.YtidglmocekghmaaDoor.Pr
end
section
namespace Go.Proofs.YtidglmocekghmaaDoor.Pr
open Go.RowKit Go.Proofs.YtidglmocekghmaaDoorW.PrintWords Go.Proofs.YtidglmocekghmaaDoorW.PrintLast Go.Proofs.YtidglmocekghmaaDoorW.PrintMore
set_option linter.unusedVariables false
set_option linter.unusedSimpArgs false
theorem row_bound {k K sz c : Nat} (hk : k < K) (h : K * sz = c) : k * sz + sz ≤ c := by
 have : (k + 1) * sz ≤ K * sz := Nat.mul_le_mul_right _ hk
 rw [Nat.add_mul] at this
 omega
structure L1 (W0 : World) (s : List Int) (A : Option Addr) (cp : Nat) (D Wd O : Int) (g nx c m d p sz K gt : Nat) (cs : Array Value) (w : World) (k : Nat) (bd bp : Bool) (wr : World) : Prop where
 le : k ≤ K
 ed : bd = (decide (d = 0) || anyM s sz k (nx + 1 + d - 1))
 ep : bp = (decide (p = 0) || anyM s sz k (nx + 1 + sz - 1))
 ck : Ck W0 s A cp D Wd O g (nx + (c + 1)) (m - (c + 1)) wr
 gr : Gr g w wr
 bT : wr.heap[gt]? = some (.cells cs 67 (0, 0))
structure L2 (W0 : World) (s : List Int) (A : Option Addr) (cp : Nat) (D Wd O : Int) (g nx c m d p sz K gt : Nat) (cs : Array Value) (v : Nat → Nat → Nat → Option (Nat × Nat)) (w : World) (k nk mk : Nat) (wr : World) : Prop where
 le : k ≤ K
 eq : elemsM v p sz K (nx + 1 + d) (nx + (c + 1)) (m - (c + 1)) = elemsM v p sz (K - k) (nx + 1 + d + k * sz) nk mk
 ck : Ck W0 s A cp D Wd O g nk mk wr
 gr : Gr g w wr
 bT : wr.heap[gt]? = some (.cells cs 67 (0, 0))
 nl : nk ≤ s.length
 ml : mk ≤ m
section
variable {W0 : World} {s : List Int} {A : Option Addr} {cp : Nat} {D Wd O : Int} {g nx c m d p sz K gt : Nat} {cs : Array Value} {w : World} {k : Nat} {bd bp : Bool} {wr w' : World} {v : Nat → Nat → Nat → Option (Nat × Nat)} {nk mk : Nat}
theorem L1.step (h : L1 W0 s A cp D Wd O g nx c m d p sz K gt cs w k bd bp wr) (hk : k < K) {bd' bp' : Bool} (e1 : bd' = (bd || decide (wd s (nx + 1 + k * sz + d - 1) ≠ 0))) (e2 : bp' = (bp || decide (wd s (nx + 1 + k * sz + sz - 1) ≠ 0))) (hd : bd = true ∨ 0 < d) (hp : bp = true ∨ 0 < p) (hsz : d + p = sz)
  (ck : Ck W0 s A cp D Wd O g (nx + (c + 1)) (m - (c + 1)) w') (gr : Gr g w w') (bT : w'.heap[gt]? = some (.cells cs 67 (0, 0))) : L1 W0 s A cp D Wd O g nx c m d p sz K gt cs w (k + 1) bd' bp' w' := by
 refine ⟨by omega, ?_, ?_, ck, gr, bT⟩
 ·rw [e1, anyM_succ, ← Bool.or_assoc, ← h.ed]
  rcases hd with hd | hd
  ·rw [hd]; rfl
  ·rw [show nx + 1 + d - 1 + k * sz = nx + 1 + k * sz + d - 1 by omega]
 ·rw [e2, anyM_succ, ← Bool.or_assoc, ← h.ep]
  rcases hp with hp | hp
  ·rw [hp]; rfl
  ·rw [show nx + 1 + sz - 1 + k * sz = nx + 1 + k * sz + sz - 1 by omega]
theorem L1.dpos (h : L1 W0 s A cp D Wd O g nx c m d p sz K gt cs w k bd bp wr) : bd = true ∨ 0 < d := by
 have := h.ed
 by_cases hd : d = 0
 ·left; rw [this]; simp [hd]
 ·right; omega
theorem L1.ppos (h : L1 W0 s A cp D Wd O g nx c m d p sz K gt cs w k bd bp wr) : bp = true ∨ 0 < p := by
 have := h.ep
 by_cases hd : p = 0
 ·left; rw [this]; simp [hd]
 ·right; omega
theorem L2.step (hv : InM s v) (h : L2 W0 s A cp D Wd O g nx c m d p sz K gt cs v w k nk mk wr) (hk : k < K) {q : Nat × Nat} (e : ptrsM v p (nx + 1 + d + k * sz) nk mk = some q) (gr : Gr g wr w') (ck : Ck W0 s A cp D Wd O g q.1 q.2 w') (hne : gt ≠ g) : L2 W0 s A cp D Wd O g nx c m d p sz K gt cs v w (k + 1) q.1 q.2 w' := by
 have hi := ptrsM_in hv _ _ _ _ _ e h.nl
 refine ⟨by omega, ?_, ck, h.gr.trans gr, gr.blk h.bT hne, hi.2.1, by have := h.ml; omega⟩
 rw [h.eq, show K - k = (K - (k + 1)) + 1 by omega, elemsM_succ, e, Nat.add_mul, Nat.one_mul, ← Nat.add_assoc]
theorem L2.bad (h : L2 W0 s A cp D Wd O g nx c m d p sz K gt cs v w k nk mk wr) (hk : k < K) (e : ptrsM v p (nx + 1 + d + k * sz) nk mk = none) : elemsM v p sz K (nx + 1 + d) (nx + (c + 1)) (m - (c + 1)) = none := by
 rw [h.eq, show K - k = (K - (k + 1)) + 1 by omega, elemsM_succ, e]
theorem L2.done (h : L2 W0 s A cp D Wd O g nx c m d p sz K gt cs v w K nk mk wr) : elemsM v p sz K (nx + 1 + d) (nx + (c + 1)) (m - (c + 1)) = some (nk, mk) := by
 rw [h.eq, Nat.sub_self, elemsM]
end
set_option maxHeartbeats 4000000 in
theorem comp_5 {W0 w : World} {s : List Int} {cp g nx m : Nat} {D Wd O : Int} {sb so at_ c : Nat} {off depth : Int} {K d p sz : Nat} {te tc ta ts tl : Int} {tb : Bool} (hE : Env W0 s (some ⟨sb, so, none⟩)) (hK : Ck W0 s (some ⟨sb, so, none⟩) cp D Wd O g nx m w) (ha : at_ ≤ 17592186040320) (ho0 : -536870912 ≤ off) (ho1 : off ≤ 536870911) (hc0 : c ≤ 536870911) (hx : nx ≤ s.length) (hm : m ≤ 4611686018427387904) (hcp : s.length ≤ cp) {v : Nat → Nat → Nat → Option (Nat × Nat)} (hv : InM s v) (hd0_ : 0 ≤ depth) (hd1_ : depth ≤ 1000000) (hV : VisC W0 s (some ⟨sb, so, none⟩) cp D Wd O g v (depth + 1)) (hob : objM s at_ off (c + 1) nx = true) (hDec : decV (wd s nx) = .agg #[.int .i64 0, .int .i64 (K : Int), .int .i64 (d : Int), .int .i64 (p : Int), .int .i64 te, .int .i64 tc, .bool tb, .int .i64 ta, .int .u32 ts, .int .u32 tl]) (hK1 : K ≤ 536870911) (hd : d ≤ 65535) (hp : p ≤ 65535) (hsz : d + p = sz) (hqc : K * sz = c) (hch : c + 1 ≤ m) (hz : ¬ sz = 0) (r : Option (Nat × Nat)) (hr : (if ((decide (d = 0) || anyM s sz K (nx + 1 + d - 1)) && (decide (p = 0) || anyM s sz K (nx + 1 + sz - 1))) = true then elemsM v p sz K (nx + 1 + d) (nx + (c + 1)) (m - (c + 1)) else none) = r) :
  Calls Tryd.prog 59 #[.pointer (some ⟨g, 0, none⟩), .int .i64 at_, .int .i64 depth, .agg #[.int .i64 1, .int .i64 off, .int .i64 0, .int .i64 0, .int .i64 7, .int .i64 c, .bool false, .int .i64 0, .int .u32 0, .int .u32 0]] w fun e w' => EndM W0 s (some ⟨sb, so, none⟩) cp D Wd O g w r e w' := by
 have HLEN := Lib.hid hE.len
 have hlen := hE.len
 have HDEC := Lib.hid hDec
 clear hDec
 have HSZ := Lib.hid hsz
 have HQC := Lib.hid hqc
 have z0 : (sz : Int) ≤ 131072 := by omega
 have z1 : (0 : Int) ≤ (sz : Int) := Int.natCast_nonneg _
 have z2 : (0 : Int) ≤ (K : Int) := Int.natCast_nonneg _
 clear hqc
 have e_sz : (d : Int) + (p : Int) = (sz : Int) := by omega
 clear hsz
 have e_q : (K : Int) * (sz : Int) = (c : Int) := by have := HQC.out; rw [← this]; simp
 have HR := Lib.hid hr
 clear hr
 have H_z := Lib.hid hz
 clear hz
 have HI := Lib.hid hv
 have HV := Lib.hid hV
 clear hv hV
 have GK := Lib.hid (Gr.refl g w)
 have CK := Lib.hid hK
 have HE := Lib.hid hE
 clear hE hK
 go_enter Tryd.func59, Tryd.ntmps59
 go_wp2_with fail
 have lg : g < w.heap.size := blk_lt CK.out.blk
 refine calls_at (fun wa hW => ?_)
 have hb : Below w.heap.size w wa := by rw [hW]; exact (Below.refl _ _).alloc (Nat.le_refl _) _
 have nB : wa.heap[w.heap.size]? = some (.cells #[.int .i64 1, .int .i64 off, .int .i64 0, .int .i64 0, .int .i64 7, .int .i64 c, .bool false, .int .i64 0, .int .u32 0, .int .u32 0] 67 (0, 0)) := by rw [hW]; exact heap_alloc_new _ _
 have neB : w.heap.size ≠ g := by omega
 clear hW lg
 replace GK := Lib.hid (GK.out.then hb)
 replace CK := Lib.hid (CK.out.then hb)
 clear hb
 have B := Lib.hid nB
 clear nB
 have e0 : ((c : Int) + 1) = ((c + 1 : Nat) : Int) := by omega
 rw [e0]
 clear e0
 refine (object_yes HE.out CK.out ha ⟨ho0, ho1⟩ (by omega) hx hcp hob).mono ?_
 rintro e w1 ⟨rfl, hg, hc⟩
 have gB : Hid (Gr g wa w1) := Lib.hid hg
 replace B := Lib.hid (gB.out.blk B.out neB)
 replace GK := Lib.hid (GK.out.trans gB.out)
 clear gB
 clear CK
 have CK := Lib.hid hc
 clear hg hc
 have hnl : nx < s.length := by have := (objM_in hob).2; omega
 have hwc := wd_cell HE.out CK.out.below hnl
 have hwr := HE.out.word nx
 have hn0 : (0 : Int) ≤ (nx : Int) := Int.natCast_nonneg _
 have hn1 : (nx : Int) < (s.length : Int) := by omega
 clear hnl
 have l_K : g < w1.heap.size := blk_lt CK.out.blk
 have q_K_0 := cq0 ⟨CK.out.blk⟩
 go_wp2_with fail
 clear hwc hn0 hn1 l_K q_K_0
 refine (decode_any (wd s nx) w1 hwr.1 hwr.2 (HE.out.dec.below CK.out.below)).mono ?_
 rw [HDEC.out]
 rintro e w2 ⟨rfl, hb⟩
 replace GK := Lib.hid (GK.out.then hb)
 replace CK := Lib.hid (CK.out.then hb)
 replace B := Lib.hid (blk_below B.out hb)
 clear hb hwr
 have l_B : w.heap.size < w2.heap.size := blk_lt B.out
 have q_B_0 := cq0 ⟨B.out⟩
 have q_B_1 := cq1 ⟨B.out⟩
 have q_B_2 := cq2 ⟨B.out⟩
 have q_B_3 := cq3 ⟨B.out⟩
 have q_B_4 := cq4 ⟨B.out⟩
 have q_B_5 := cq5 ⟨B.out⟩
 have q_B_6 := cq6 ⟨B.out⟩
 have q_B_7 := cq7 ⟨B.out⟩
 have q_B_8 := cq8 ⟨B.out⟩
 have q_B_9 := cq9 ⟨B.out⟩
 go_wp2_with fail
 clear l_B q_B_0 q_B_1 q_B_2 q_B_3 q_B_4 q_B_5 q_B_6 q_B_7 q_B_8 q_B_9
 refine calls_at (fun wt hW => ?_)
 have hb : Below w2.heap.size w2 wt := by rw [hW]; exact (Below.refl _ _).alloc (Nat.le_refl _) _
 have hlc : w.heap.size < w2.heap.size := blk_lt B.out
 have hlg : g < w2.heap.size := blk_lt CK.out.blk
 obtain ⟨gt, hgt⟩ : ∃ n, w2.heap.size = n := ⟨_, rfl⟩
 have neT : gt ≠ g := by omega
 have nT : wt.heap[gt]? = some (.cells #[.int .i64 0, .int .i64 (K : Int), .int .i64 (d : Int), .int .i64 (p : Int), .int .i64 te, .int .i64 tc, .bool tb, .int .i64 ta, .int .u32 ts, .int .u32 tl] 67 (0, 0)) := by rw [hW, ← hgt]; exact heap_alloc_new _ _
 rw [hgt]
 clear hW hlc hlg hgt
 replace GK := Lib.hid (GK.out.then hb)
 replace CK := Lib.hid (CK.out.then hb)
 replace B := Lib.hid (blk_below B.out hb)
 clear hb
 have T := Lib.hid nT
 clear nT
 refine (must_yes _).mono ?_
 rintro e wy ⟨rfl, rfl⟩
 clear e_sz e_q
 have l_B : w.heap.size < wt.heap.size := blk_lt B.out
 have q_B_0 := cq0 ⟨B.out⟩
 have q_B_1 := cq1 ⟨B.out⟩
 have q_B_2 := cq2 ⟨B.out⟩
 have q_B_3 := cq3 ⟨B.out⟩
 have q_B_4 := cq4 ⟨B.out⟩
 have q_B_5 := cq5 ⟨B.out⟩
 have q_B_6 := cq6 ⟨B.out⟩
 have q_B_7 := cq7 ⟨B.out⟩
 have q_B_8 := cq8 ⟨B.out⟩
 have q_B_9 := cq9 ⟨B.out⟩
 go_wp2_with fail
 clear l_B q_B_0 q_B_1 q_B_2 q_B_3 q_B_4 q_B_5 q_B_6 q_B_7 q_B_8 q_B_9
 have e0 : ((c : Int) + 1) = ((c + 1 : Nat) : Int) := by omega
 rw [e0]
 clear e0
 refine (charge_ok HE.out CK.out hch (by omega) (by omega)).mono ?_
 rintro e w3 (⟨q, hq, rfl, hg, hc⟩ | ⟨hq, _⟩)
 rotate_left
 ·cases hq
 cases hq
 have gB : Hid (Gr g wt w3) := Lib.hid hg
 replace B := Lib.hid (gB.out.blk B.out neB)
 replace T := Lib.hid (gB.out.blk T.out neT)
 replace GK := Lib.hid (GK.out.trans gB.out)
 clear gB
 clear CK
 have CK := Lib.hid hc
 clear hg hc
 have t4 : ((sz : Int) == 0) = false := beq_eq_false_iff_ne.2 (by have := H_z.out; omega)
 have l_T : gt < w3.heap.size := blk_lt T.out
 have q_T_0 := cq0 ⟨T.out⟩
 have q_T_1 := cq1 ⟨T.out⟩
 have q_T_2 := cq2 ⟨T.out⟩
 have q_T_3 := cq3 ⟨T.out⟩
 have q_T_4 := cq4 ⟨T.out⟩
 have q_T_5 := cq5 ⟨T.out⟩
 have q_T_6 := cq6 ⟨T.out⟩
 have q_T_7 := cq7 ⟨T.out⟩
 have q_T_8 := cq8 ⟨T.out⟩
 have q_T_9 := cq9 ⟨T.out⟩
 go_wp2_with fail
 clear l_T q_T_0 q_T_1 q_T_2 q_T_3 q_T_4 q_T_5 q_T_6 q_T_7 q_T_8 q_T_9 t4
 clear B neB
 obtain ⟨bd0, hbd0⟩ : ∃ b, ((d : Int) == 0) = b := ⟨_, rfl⟩
 obtain ⟨bp0, hbp0⟩ : ∃ b, ((p : Int) == 0) = b := ⟨_, rfl⟩
 have HBD := Lib.hid hbd0
 have HBP := Lib.hid hbp0
 have l_T : gt < w3.heap.size := blk_lt T.out
 have q_T_0 := cq0 ⟨T.out⟩
 have q_T_1 := cq1 ⟨T.out⟩
 have q_T_2 := cq2 ⟨T.out⟩
 have q_T_3 := cq3 ⟨T.out⟩
 have q_T_4 := cq4 ⟨T.out⟩
 have q_T_5 := cq5 ⟨T.out⟩
 have q_T_6 := cq6 ⟨T.out⟩
 have q_T_7 := cq7 ⟨T.out⟩
 have q_T_8 := cq8 ⟨T.out⟩
 have q_T_9 := cq9 ⟨T.out⟩
 refine start_ (n := 8) (S := fun w' => w'.cell? ⟨gt, 2, none⟩ = some (.int .i64 (d : Int)) ∧ w'.cell? ⟨gt, 3, none⟩ = some (.int .i64 (p : Int))) (ds := []) #[false, false, false, false, false, false, false, false] (by kernel_rfl) rfl rfl ⟨q_T_2, q_T_3⟩ (fun hHeld => ?_)
 obtain ⟨w4, hwd⟩ : ∃ W, W = w3.drew := ⟨_, rfl⟩
 rw [← hwd] at hHeld ⊢
 have hb : Below w3.heap.size w3 w4 := by rw [hwd]; exact (Below.refl _ _).drew
 clear hwd
 replace GK := Lib.hid (GK.out.then hb)
 replace CK := Lib.hid (CK.out.then hb)
 replace T := Lib.hid (blk_below T.out hb)
 clear hb
 refine pu 0 65 ?_
 refine pu 3 68 ?_
 refine tk2 1 66 hHeld ?_
 refine pu 2 67 ?_
 refine pu 6 11 ?_
 refine tk2 4 69 hHeld ?_
 refine pu 5 70 ?_
 refine pu 7 12 ?_
 refine done_ (by kernel_rfl) ?_
 clear l_T q_T_0 q_T_1 q_T_2 q_T_3 q_T_4 q_T_5 q_T_6 q_T_7 q_T_8 q_T_9 hbd0 hbp0
 clear hHeld
 have l_T : gt < w4.heap.size := blk_lt T.out
 have q_T_0 := cq0 ⟨T.out⟩
 have q_T_1 := cq1 ⟨T.out⟩
 have q_T_2 := cq2 ⟨T.out⟩
 have q_T_3 := cq3 ⟨T.out⟩
 have q_T_4 := cq4 ⟨T.out⟩
 have q_T_5 := cq5 ⟨T.out⟩
 have q_T_6 := cq6 ⟨T.out⟩
 have q_T_7 := cq7 ⟨T.out⟩
 have q_T_8 := cq8 ⟨T.out⟩
 have q_T_9 := cq9 ⟨T.out⟩
 go_wp2_with fail
 clear l_T q_T_0 q_T_1 q_T_2 q_T_3 q_T_4 q_T_5 q_T_6 q_T_7 q_T_8 q_T_9
 have P0 : Hid (L1 W0 s (some ⟨sb, so, none⟩) cp D Wd O g nx c m d p sz K gt #[.int .i64 0, .int .i64 (K : Int), .int .i64 (d : Int), .int .i64 (p : Int), .int .i64 te, .int .i64 tc, .bool tb, .int .i64 ta, .int .u32 ts, .int .u32 tl] w 0 bd0 bp0 w4) := Lib.hid ⟨Nat.zero_le _, by rw [← HBD.out]; by_cases h : d = 0 <;> simp [h, anyM], by rw [← HBP.out]; by_cases h : p = 0 <;> simp [h, anyM], CK.out, GK.out, T.out⟩
 clear CK GK T HBD HBP
 have HT0 := Lib.hid (rfl : K = K)
 go_loopw [11, 12, 13, 14, 73] (fun a b _ _ i wr => ∃ (k : Nat) (bd bp : Bool), a = .bool bd ∧ b = .bool bp ∧ i = .int .i64 k ∧ Hid (L1 W0 s (some ⟨sb, so, none⟩) cp D Wd O g nx c m d p sz K gt #[.int .i64 0, .int .i64 (K : Int), .int .i64 (d : Int), .int .i64 (p : Int), .int .i64 te, .int .i64 tc, .bool tb, .int .i64 ta, .int .u32 ts, .int .u32 tl] w k bd bp wr)) (fun _ _ _ _ i _ => K - (intOf i).toNat)
 case atStart => exact ⟨0, bd0, bp0, rfl, rfl, rfl, P0⟩
 case round =>
  clear P0 HT0
  obtain ⟨k, bd, bp, rfl, rfl, rfl, HP⟩ := hrel
  have hkK := HP.out.le
  by_cases hlt : k < K
  ·have hk0 : (0 : Int) ≤ (k : Int) := Int.natCast_nonneg _
   have hrow := row_bound hlt HQC.out
   obtain ⟨q, hq⟩ : ∃ q, k * sz = q := ⟨_, rfl⟩
   have HQ := Lib.hid hq
   rw [hq] at hrow
   clear hq
   have hob2 := (objM_in hob).2
   obtain ⟨n1, hn1⟩ : ∃ n, nx + 1 = n := ⟨_, rfl⟩
   obtain ⟨f, hf⟩ : ∃ f, n1 + q = f := ⟨_, rfl⟩
   have HN1 := Lib.hid hn1
   have HF := Lib.hid hf
   have hfl : f + sz ≤ s.length := by omega
   clear hn1 hf hob2
   have hdp := Lib.hid HP.out.dpos
   have hpp := Lib.hid HP.out.ppos
   cases bd <;> cases bp
   ·have CK := Lib.hid HP.out.ck
    have GK := Lib.hid HP.out.gr
    have T := Lib.hid HP.out.bT
    have q0_ : (q : Int) ≤ 536870912 := by omega
    have f0_ : (f : Int) ≤ 17592186040320 := by have := HLEN.out; omega
    have n0_ : (n1 : Int) ≤ 17592186040320 := by have := HF.out; omega
    have d1_ : (nx : Int) + 1 = (n1 : Int) := by have := HN1.out; omega
    have d2_ : (k : Int) * (sz : Int) = (q : Int) := by have := HQ.out; rw [← this]; simp
    have d3_ : (n1 : Int) + (q : Int) = (f : Int) := by have := HF.out; omega
    have l_T : gt < wr.heap.size := blk_lt T.out
    have q_T_0 := cq0 ⟨T.out⟩
    have q_T_1 := cq1 ⟨T.out⟩
    have q_T_2 := cq2 ⟨T.out⟩
    have q_T_3 := cq3 ⟨T.out⟩
    have q_T_4 := cq4 ⟨T.out⟩
    have q_T_5 := cq5 ⟨T.out⟩
    have q_T_6 := cq6 ⟨T.out⟩
    have q_T_7 := cq7 ⟨T.out⟩
    have q_T_8 := cq8 ⟨T.out⟩
    have q_T_9 := cq9 ⟨T.out⟩
    go_wp2_with fail
    clear q0_ f0_ n0_ d1_ d2_ d3_ l_T q_T_0 q_T_1 q_T_2 q_T_3 q_T_4 q_T_5 q_T_6 q_T_7 q_T_8 q_T_9
    have hd1 : 0 < d := by rcases hdp.out with h | h; cases h; exact h
    obtain ⟨j, hj⟩ : ∃ j, f + d = j + 1 := ⟨f + d - 1, by omega⟩
    have HJ := Lib.hid hj
    have hjl : j < s.length := by have := HSZ.out; omega
    clear hj
    have hwc := wd_cell HE.out CK.out.below hjl
    obtain ⟨x, hx1⟩ : ∃ x, wd s j = x := ⟨_, rfl⟩
    have HX := Lib.hid hx1
    rw [hx1] at hwc
    clear hx1
    obtain ⟨b1, hb1⟩ : ∃ b, (x != 0) = b := ⟨_, rfl⟩
    have HB1 := Lib.hid hb1
    have hj0 : (0 : Int) ≤ (j : Int) := Int.natCast_nonneg _
    have hj1 : (j : Int) < (s.length : Int) := by omega
    obtain ⟨x1_, x2_, x3_, x4_, x5_, x6_⟩ := idx_wraps HJ.out (by have := HLEN.out; omega)
    have l_T : gt < wr.heap.size := blk_lt T.out
    have q_T_0 := cq0 ⟨T.out⟩
    have q_T_1 := cq1 ⟨T.out⟩
    have q_T_2 := cq2 ⟨T.out⟩
    have q_T_3 := cq3 ⟨T.out⟩
    have q_T_4 := cq4 ⟨T.out⟩
    have q_T_5 := cq5 ⟨T.out⟩
    have q_T_6 := cq6 ⟨T.out⟩
    have q_T_7 := cq7 ⟨T.out⟩
    have q_T_8 := cq8 ⟨T.out⟩
    have q_T_9 := cq9 ⟨T.out⟩
    have l_K : g < wr.heap.size := blk_lt CK.out.blk
    have q_K_0 := cq0 ⟨CK.out.blk⟩
    refine start_ (n := 16) (S := fun w' => w'.cell? ⟨gt, 2, none⟩ = some (.int .i64 (d : Int)) ∧ w'.cell? ⟨g, 0, none⟩ = some (.slice (some ⟨sb, so, none⟩) s.length cp) ∧ w'.cell? ⟨sb, so + j, none⟩ = some (.int .u64 x)) (ds := []) #[false, false, false, false, false, false, false, false, false, false, false, false, false, false, false, false] (by kernel_rfl) rfl rfl ⟨q_T_2, q_K_0, hwc⟩ (fun hHeld => ?_)
    obtain ⟨w5, hwd⟩ : ∃ W, W = wr.drew := ⟨_, rfl⟩
    rw [← hwd] at hHeld ⊢
    have hb : Below wr.heap.size wr w5 := by rw [hwd]; exact (Below.refl _ _).drew
    clear hwd
    replace GK := Lib.hid (GK.out.then hb)
    replace CK := Lib.hid (CK.out.then hb)
    replace T := Lib.hid (blk_below T.out hb)
    clear hb
    refine pu 0 82 ?_
    refine pu 1 83 ?_
    refine pu 2 84 ?_
    refine pu 3 85 ?_
    refine pu 4 86 ?_
    refine pu 6 88 ?_
    refine pu 7 89 ?_
    refine tk3 5 87 hHeld ?_
    refine tk3 8 90 hHeld ?_
    refine pu 9 91 ?_
    refine pu 10 92 ?_
    refine pu 11 93 ?_
    refine tk3 12 94 hHeld ?_
    refine pu 13 95 ?_
    refine pu 14 96 ?_
    refine pu 15 11 ?_
    refine done_ (by kernel_rfl) ?_
    clear hwc hb1 hj0 hj1 x1_ x2_ x3_ x4_ x5_ x6_ l_T q_T_0 q_T_1 q_T_2 q_T_3 q_T_4 q_T_5 q_T_6 q_T_7 q_T_8 q_T_9 l_K q_K_0
    clear hHeld
    have hp1 : 0 < p := by rcases hpp.out with h | h; cases h; exact h
    have hs1 : 0 < sz := by have := HSZ.out; omega
    obtain ⟨j2, hj2⟩ : ∃ j, f + sz = j + 1 := ⟨f + sz - 1, by omega⟩
    have HJ2 := Lib.hid hj2
    have hjl2 : j2 < s.length := by omega
    clear hj2
    have hwc2 := wd_cell HE.out CK.out.below hjl2
    obtain ⟨y, hy1⟩ : ∃ x, wd s j2 = x := ⟨_, rfl⟩
    have HY := Lib.hid hy1
    rw [hy1] at hwc2
    clear hy1
    obtain ⟨b2, hb2⟩ : ∃ b, (y != 0) = b := ⟨_, rfl⟩
    have HB2 := Lib.hid hb2
    have hj20 : (0 : Int) ≤ (j2 : Int) := Int.natCast_nonneg _
    have hj21 : (j2 : Int) < (s.length : Int) := by omega
    obtain ⟨m2, hm2⟩ : ∃ n, j2 + 1 = n := ⟨_, rfl⟩
    have HM2 := Lib.hid hm2
    have x6_ : (m2 : Int) ≤ 17592186040320 := by have := HLEN.out; omega
    clear hm2
    have x7_ : (f : Int) + (sz : Int) = (m2 : Int) := by have := HJ2.out; have := HM2.out; omega
    have x8_ : (m2 : Int) - 1 = (j2 : Int) := by have := HM2.out; omega
    have l_K : g < w5.heap.size := blk_lt CK.out.blk
    have q_K_0 := cq0 ⟨CK.out.blk⟩
    go_wp2
    clear hwc2 hb2 hj20 hj21 x6_ x7_ x8_ l_K q_K_0
    have NX : Hid (L1 W0 s (some ⟨sb, so, none⟩) cp D Wd O g nx c m d p sz K gt #[.int .i64 0, .int .i64 (K : Int), .int .i64 (d : Int), .int .i64 (p : Int), .int .i64 te, .int .i64 tc, .bool tb, .int .i64 ta, .int .u32 ts, .int .u32 tl] w (k + 1) b1 b2 w5) := Lib.hid (HP.out.step hlt (by rw [← HB1.out, ← HX.out, show nx + 1 + k * sz + d - 1 = j by have h1 := HN1.out; have h2 := HQ.out; have h3 := HF.out; have h4 := HJ.out; omega]; cases h : decide (wd s j ≠ 0) <;> simp_all) (by rw [← HB2.out, ← HY.out, show nx + 1 + k * sz + sz - 1 = j2 by have h1 := HN1.out; have h2 := HQ.out; have h3 := HF.out; have h4 := HJ2.out; omega]; cases h : decide (wd s j2 ≠ 0) <;> simp_all) hdp.out hpp.out HSZ.out CK.out GK.out T.out)
    clear HP CK GK T
    go_roundw
    case rel => exact ⟨k + 1, _, _, rfl, rfl, by go_num, NX⟩
    case measure => simp [intOf]; omega
   ·have CK := Lib.hid HP.out.ck
    have GK := Lib.hid HP.out.gr
    have T := Lib.hid HP.out.bT
    have q0_ : (q : Int) ≤ 536870912 := by omega
    have f0_ : (f : Int) ≤ 17592186040320 := by have := HLEN.out; omega
    have n0_ : (n1 : Int) ≤ 17592186040320 := by have := HF.out; omega
    have d1_ : (nx : Int) + 1 = (n1 : Int) := by have := HN1.out; omega
    have d2_ : (k : Int) * (sz : Int) = (q : Int) := by have := HQ.out; rw [← this]; simp
    have d3_ : (n1 : Int) + (q : Int) = (f : Int) := by have := HF.out; omega
    have l_T : gt < wr.heap.size := blk_lt T.out
    have q_T_0 := cq0 ⟨T.out⟩
    have q_T_1 := cq1 ⟨T.out⟩
    have q_T_2 := cq2 ⟨T.out⟩
    have q_T_3 := cq3 ⟨T.out⟩
    have q_T_4 := cq4 ⟨T.out⟩
    have q_T_5 := cq5 ⟨T.out⟩
    have q_T_6 := cq6 ⟨T.out⟩
    have q_T_7 := cq7 ⟨T.out⟩
    have q_T_8 := cq8 ⟨T.out⟩
    have q_T_9 := cq9 ⟨T.out⟩
    go_wp2_with fail
    clear q0_ f0_ n0_ d1_ d2_ d3_ l_T q_T_0 q_T_1 q_T_2 q_T_3 q_T_4 q_T_5 q_T_6 q_T_7 q_T_8 q_T_9
    have hd1 : 0 < d := by rcases hdp.out with h | h; cases h; exact h
    obtain ⟨j, hj⟩ : ∃ j, f + d = j + 1 := ⟨f + d - 1, by omega⟩
    have HJ := Lib.hid hj
    have hjl : j < s.length := by have := HSZ.out; omega
    clear hj
    have hwc := wd_cell HE.out CK.out.below hjl
    obtain ⟨x, hx1⟩ : ∃ x, wd s j = x := ⟨_, rfl⟩
    have HX := Lib.hid hx1
    rw [hx1] at hwc
    clear hx1
    obtain ⟨b1, hb1⟩ : ∃ b, (x != 0) = b := ⟨_, rfl⟩
    have HB1 := Lib.hid hb1
    have hj0 : (0 : Int) ≤ (j : Int) := Int.natCast_nonneg _
    have hj1 : (j : Int) < (s.length : Int) := by omega
    obtain ⟨x1_, x2_, x3_, x4_, x5_, x6_⟩ := idx_wraps HJ.out (by have := HLEN.out; omega)
    have l_T : gt < wr.heap.size := blk_lt T.out
    have q_T_0 := cq0 ⟨T.out⟩
    have q_T_1 := cq1 ⟨T.out⟩
    have q_T_2 := cq2 ⟨T.out⟩
    have q_T_3 := cq3 ⟨T.out⟩
    have q_T_4 := cq4 ⟨T.out⟩
    have q_T_5 := cq5 ⟨T.out⟩
    have q_T_6 := cq6 ⟨T.out⟩
    have q_T_7 := cq7 ⟨T.out⟩
    have q_T_8 := cq8 ⟨T.out⟩
    have q_T_9 := cq9 ⟨T.out⟩
    have l_K : g < wr.heap.size := blk_lt CK.out.blk
    have q_K_0 := cq0 ⟨CK.out.blk⟩
    refine start_ (n := 16) (S := fun w' => w'.cell? ⟨gt, 2, none⟩ = some (.int .i64 (d : Int)) ∧ w'.cell? ⟨g, 0, none⟩ = some (.slice (some ⟨sb, so, none⟩) s.length cp) ∧ w'.cell? ⟨sb, so + j, none⟩ = some (.int .u64 x)) (ds := []) #[false, false, false, false, false, false, false, false, false, false, false, false, false, false, false, false] (by kernel_rfl) rfl rfl ⟨q_T_2, q_K_0, hwc⟩ (fun hHeld => ?_)
    obtain ⟨w6, hwd⟩ : ∃ W, W = wr.drew := ⟨_, rfl⟩
    rw [← hwd] at hHeld ⊢
    have hb : Below wr.heap.size wr w6 := by rw [hwd]; exact (Below.refl _ _).drew
    clear hwd
    replace GK := Lib.hid (GK.out.then hb)
    replace CK := Lib.hid (CK.out.then hb)
    replace T := Lib.hid (blk_below T.out hb)
    clear hb
    refine pu 0 82 ?_
    refine pu 1 83 ?_
    refine pu 2 84 ?_
    refine pu 3 85 ?_
    refine pu 4 86 ?_
    refine pu 6 88 ?_
    refine pu 7 89 ?_
    refine tk3 5 87 hHeld ?_
    refine tk3 8 90 hHeld ?_
    refine pu 9 91 ?_
    refine pu 10 92 ?_
    refine pu 11 93 ?_
    refine tk3 12 94 hHeld ?_
    refine pu 13 95 ?_
    refine pu 14 96 ?_
    refine pu 15 11 ?_
    refine done_ (by kernel_rfl) ?_
    clear hwc hb1 hj0 hj1 x1_ x2_ x3_ x4_ x5_ x6_ l_T q_T_0 q_T_1 q_T_2 q_T_3 q_T_4 q_T_5 q_T_6 q_T_7 q_T_8 q_T_9 l_K q_K_0
    clear hHeld
    go_wp2
    have NX : Hid (L1 W0 s (some ⟨sb, so, none⟩) cp D Wd O g nx c m d p sz K gt #[.int .i64 0, .int .i64 (K : Int), .int .i64 (d : Int), .int .i64 (p : Int), .int .i64 te, .int .i64 tc, .bool tb, .int .i64 ta, .int .u32 ts, .int .u32 tl] w (k + 1) b1 true w6) := Lib.hid (HP.out.step hlt (by rw [← HB1.out, ← HX.out, show nx + 1 + k * sz + d - 1 = j by have h1 := HN1.out; have h2 := HQ.out; have h3 := HF.out; have h4 := HJ.out; omega]; cases h : decide (wd s j ≠ 0) <;> simp_all) rfl hdp.out (.inl rfl) HSZ.out CK.out GK.out T.out)
    clear HP CK GK T
    go_roundw
    case rel => exact ⟨k + 1, _, _, rfl, rfl, by go_num, NX⟩
    case measure => simp [intOf]; omega
   ·have CK := Lib.hid HP.out.ck
    have GK := Lib.hid HP.out.gr
    have T := Lib.hid HP.out.bT
    have q0_ : (q : Int) ≤ 536870912 := by omega
    have f0_ : (f : Int) ≤ 17592186040320 := by have := HLEN.out; omega
    have n0_ : (n1 : Int) ≤ 17592186040320 := by have := HF.out; omega
    have d1_ : (nx : Int) + 1 = (n1 : Int) := by have := HN1.out; omega
    have d2_ : (k : Int) * (sz : Int) = (q : Int) := by have := HQ.out; rw [← this]; simp
    have d3_ : (n1 : Int) + (q : Int) = (f : Int) := by have := HF.out; omega
    have l_T : gt < wr.heap.size := blk_lt T.out
    have q_T_0 := cq0 ⟨T.out⟩
    have q_T_1 := cq1 ⟨T.out⟩
    have q_T_2 := cq2 ⟨T.out⟩
    have q_T_3 := cq3 ⟨T.out⟩
    have q_T_4 := cq4 ⟨T.out⟩
    have q_T_5 := cq5 ⟨T.out⟩
    have q_T_6 := cq6 ⟨T.out⟩
    have q_T_7 := cq7 ⟨T.out⟩
    have q_T_8 := cq8 ⟨T.out⟩
    have q_T_9 := cq9 ⟨T.out⟩
    go_wp2_with fail
    clear q0_ f0_ n0_ d1_ d2_ d3_ l_T q_T_0 q_T_1 q_T_2 q_T_3 q_T_4 q_T_5 q_T_6 q_T_7 q_T_8 q_T_9
    refine start_ (n := 16) (S := fun w' => True) (ds := []) #[false, false, false, false, false, false, false, false, false, false, false, false, false, false, false, false] (by kernel_rfl) rfl rfl trivial (fun hHeld => ?_)
    obtain ⟨w7, hwd⟩ : ∃ W, W = wr.drew := ⟨_, rfl⟩
    rw [← hwd]
    have hb : Below wr.heap.size wr w7 := by rw [hwd]; exact (Below.refl _ _).drew
    clear hwd
    replace GK := Lib.hid (GK.out.then hb)
    replace CK := Lib.hid (CK.out.then hb)
    replace T := Lib.hid (blk_below T.out hb)
    clear hb
    refine pu 0 82 ?_
    refine pu 1 83 ?_
    refine pure_ (i := 2) (N := some 84) (v := undef) (a' := ?_) #[true, true, true, false, false, false, false, false, false, false, false, false, false, false, false, false] rfl rfl (by kernel_rfl) (fun _ _ _ h => h) (Or.inr ⟨by rfl, rfl⟩) ?_ ?_
    rotate_left
    ·simp only [Act.put, List.setIfInBounds_toArray, List.set_cons_zero, List.set_cons_succ, i64_w, i32_w]
     rfl
    refine pure_ (i := 3) (N := some 85) (v := undef) (a' := ?_) #[true, true, true, true, false, false, false, false, false, false, false, false, false, false, false, false] rfl rfl (by kernel_rfl) (fun _ _ _ h => h) (Or.inr ⟨by rfl, rfl⟩) ?_ ?_
    rotate_left
    ·simp only [Act.put, List.setIfInBounds_toArray, List.set_cons_zero, List.set_cons_succ, i64_w, i32_w]
     rfl
    refine pure_ (i := 4) (N := some 86) (v := undef) (a' := ?_) #[true, true, true, true, true, false, false, false, false, false, false, false, false, false, false, false] rfl rfl (by kernel_rfl) (fun _ _ _ h => h) (Or.inr ⟨by rfl, rfl⟩) ?_ ?_
    rotate_left
    ·simp only [Act.put, List.setIfInBounds_toArray, List.set_cons_zero, List.set_cons_succ, i64_w, i32_w]
     rfl
    refine pure_ (i := 5) (N := some 87) (v := undef) (a' := ?_) #[true, true, true, true, true, true, false, false, false, false, false, false, false, false, false, false] rfl rfl (by kernel_rfl) (fun _ _ _ h => h) (Or.inr ⟨by rfl, rfl⟩) ?_ ?_
    rotate_left
    ·simp only [Act.put, List.setIfInBounds_toArray, List.set_cons_zero, List.set_cons_succ, i64_w, i32_w]
     rfl
    refine pure_ (i := 6) (N := some 88) (v := undef) (a' := ?_) #[true, true, true, true, true, true, true, false, false, false, false, false, false, false, false, false] rfl rfl (by kernel_rfl) (fun _ _ _ h => h) (Or.inr ⟨by rfl, rfl⟩) ?_ ?_
    rotate_left
    ·simp only [Act.put, List.setIfInBounds_toArray, List.set_cons_zero, List.set_cons_succ, i64_w, i32_w]
     rfl
    refine pure_ (i := 7) (N := some 89) (v := undef) (a' := ?_) #[true, true, true, true, true, true, true, true, false, false, false, false, false, false, false, false] rfl rfl (by kernel_rfl) (fun _ _ _ h => h) (Or.inr ⟨by rfl, rfl⟩) ?_ ?_
    rotate_left
    ·simp only [Act.put, List.setIfInBounds_toArray, List.set_cons_zero, List.set_cons_succ, i64_w, i32_w]
     rfl
    refine pure_ (i := 8) (N := some 90) (v := undef) (a' := ?_) #[true, true, true, true, true, true, true, true, true, false, false, false, false, false, false, false] rfl rfl (by kernel_rfl) (fun _ _ _ h => h) (Or.inr ⟨by rfl, rfl⟩) ?_ ?_
    rotate_left
    ·simp only [Act.put, List.setIfInBounds_toArray, List.set_cons_zero, List.set_cons_succ, i64_w, i32_w]
     rfl
    refine pure_ (i := 9) (N := some 91) (v := undef) (a' := ?_) #[true, true, true, true, true, true, true, true, true, true, false, false, false, false, false, false] rfl rfl (by kernel_rfl) (fun _ _ _ h => h) (Or.inr ⟨by rfl, rfl⟩) ?_ ?_
    rotate_left
    ·simp only [Act.put, List.setIfInBounds_toArray, List.set_cons_zero, List.set_cons_succ, i64_w, i32_w]
     rfl
    refine pure_ (i := 10) (N := some 92) (v := undef) (a' := ?_) #[true, true, true, true, true, true, true, true, true, true, true, false, false, false, false, false] rfl rfl (by kernel_rfl) (fun _ _ _ h => h) (Or.inr ⟨by rfl, rfl⟩) ?_ ?_
    rotate_left
    ·simp only [Act.put, List.setIfInBounds_toArray, List.set_cons_zero, List.set_cons_succ, i64_w, i32_w]
     rfl
    refine pure_ (i := 11) (N := some 93) (v := undef) (a' := ?_) #[true, true, true, true, true, true, true, true, true, true, true, true, false, false, false, false] rfl rfl (by kernel_rfl) (fun _ _ _ h => h) (Or.inr ⟨by rfl, rfl⟩) ?_ ?_
    rotate_left
    ·simp only [Act.put, List.setIfInBounds_toArray, List.set_cons_zero, List.set_cons_succ, i64_w, i32_w]
     rfl
    refine pure_ (i := 12) (N := some 94) (v := undef) (a' := ?_) #[true, true, true, true, true, true, true, true, true, true, true, true, true, false, false, false] rfl rfl (by kernel_rfl) (fun _ _ _ h => h) (Or.inr ⟨by rfl, rfl⟩) ?_ ?_
    rotate_left
    ·simp only [Act.put, List.setIfInBounds_toArray, List.set_cons_zero, List.set_cons_succ, i64_w, i32_w]
     rfl
    refine pure_ (i := 13) (N := some 95) (v := undef) (a' := ?_) #[true, true, true, true, true, true, true, true, true, true, true, true, true, true, false, false] rfl rfl (by kernel_rfl) (fun _ _ _ h => h) (Or.inr ⟨by rfl, rfl⟩) ?_ ?_
    rotate_left
    ·simp only [Act.put, List.setIfInBounds_toArray, List.set_cons_zero, List.set_cons_succ, i64_w, i32_w]
     rfl
    refine pu 14 96 ?_
    refine pu 15 11 ?_
    refine done_ (by kernel_rfl) ?_
    clear hHeld
    have hp1 : 0 < p := by rcases hpp.out with h | h; cases h; exact h
    have hs1 : 0 < sz := by have := HSZ.out; omega
    obtain ⟨j2, hj2⟩ : ∃ j, f + sz = j + 1 := ⟨f + sz - 1, by omega⟩
    have HJ2 := Lib.hid hj2
    have hjl2 : j2 < s.length := by omega
    clear hj2
    have hwc2 := wd_cell HE.out CK.out.below hjl2
    obtain ⟨y, hy1⟩ : ∃ x, wd s j2 = x := ⟨_, rfl⟩
    have HY := Lib.hid hy1
    rw [hy1] at hwc2
    clear hy1
    obtain ⟨b2, hb2⟩ : ∃ b, (y != 0) = b := ⟨_, rfl⟩
    have HB2 := Lib.hid hb2
    have hj20 : (0 : Int) ≤ (j2 : Int) := Int.natCast_nonneg _
    have hj21 : (j2 : Int) < (s.length : Int) := by omega
    obtain ⟨m2, hm2⟩ : ∃ n, j2 + 1 = n := ⟨_, rfl⟩
    have HM2 := Lib.hid hm2
    have x6_ : (m2 : Int) ≤ 17592186040320 := by have := HLEN.out; omega
    clear hm2
    have x7_ : (f : Int) + (sz : Int) = (m2 : Int) := by have := HJ2.out; have := HM2.out; omega
    have x8_ : (m2 : Int) - 1 = (j2 : Int) := by have := HM2.out; omega
    have l_K : g < w7.heap.size := blk_lt CK.out.blk
    have q_K_0 := cq0 ⟨CK.out.blk⟩
    go_wp2
    clear hwc2 hb2 hj20 hj21 x6_ x7_ x8_ l_K q_K_0
    have NX : Hid (L1 W0 s (some ⟨sb, so, none⟩) cp D Wd O g nx c m d p sz K gt #[.int .i64 0, .int .i64 (K : Int), .int .i64 (d : Int), .int .i64 (p : Int), .int .i64 te, .int .i64 tc, .bool tb, .int .i64 ta, .int .u32 ts, .int .u32 tl] w (k + 1) true b2 w7) := Lib.hid (HP.out.step hlt rfl (by rw [← HB2.out, ← HY.out, show nx + 1 + k * sz + sz - 1 = j2 by have h1 := HN1.out; have h2 := HQ.out; have h3 := HF.out; have h4 := HJ2.out; omega]; cases h : decide (wd s j2 ≠ 0) <;> simp_all) (.inl rfl) hpp.out HSZ.out CK.out GK.out T.out)
    clear HP CK GK T
    go_roundw
    case rel => exact ⟨k + 1, _, _, rfl, rfl, by go_num, NX⟩
    case measure => simp [intOf]; omega
   ·have CK := Lib.hid HP.out.ck
    have GK := Lib.hid HP.out.gr
    have T := Lib.hid HP.out.bT
    have q0_ : (q : Int) ≤ 536870912 := by omega
    have f0_ : (f : Int) ≤ 17592186040320 := by have := HLEN.out; omega
    have n0_ : (n1 : Int) ≤ 17592186040320 := by have := HF.out; omega
    have d1_ : (nx : Int) + 1 = (n1 : Int) := by have := HN1.out; omega
    have d2_ : (k : Int) * (sz : Int) = (q : Int) := by have := HQ.out; rw [← this]; simp
    have d3_ : (n1 : Int) + (q : Int) = (f : Int) := by have := HF.out; omega
    have l_T : gt < wr.heap.size := blk_lt T.out
    have q_T_0 := cq0 ⟨T.out⟩
    have q_T_1 := cq1 ⟨T.out⟩
    have q_T_2 := cq2 ⟨T.out⟩
    have q_T_3 := cq3 ⟨T.out⟩
    have q_T_4 := cq4 ⟨T.out⟩
    have q_T_5 := cq5 ⟨T.out⟩
    have q_T_6 := cq6 ⟨T.out⟩
    have q_T_7 := cq7 ⟨T.out⟩
    have q_T_8 := cq8 ⟨T.out⟩
    have q_T_9 := cq9 ⟨T.out⟩
    go_wp2_with fail
    clear q0_ f0_ n0_ d1_ d2_ d3_ l_T q_T_0 q_T_1 q_T_2 q_T_3 q_T_4 q_T_5 q_T_6 q_T_7 q_T_8 q_T_9
    refine start_ (n := 16) (S := fun w' => True) (ds := []) #[false, false, false, false, false, false, false, false, false, false, false, false, false, false, false, false] (by kernel_rfl) rfl rfl trivial (fun hHeld => ?_)
    obtain ⟨w8, hwd⟩ : ∃ W, W = wr.drew := ⟨_, rfl⟩
    rw [← hwd]
    have hb : Below wr.heap.size wr w8 := by rw [hwd]; exact (Below.refl _ _).drew
    clear hwd
    replace GK := Lib.hid (GK.out.then hb)
    replace CK := Lib.hid (CK.out.then hb)
    replace T := Lib.hid (blk_below T.out hb)
    clear hb
    refine pu 0 82 ?_
    refine pu 1 83 ?_
    refine pure_ (i := 2) (N := some 84) (v := undef) (a' := ?_) #[true, true, true, false, false, false, false, false, false, false, false, false, false, false, false, false] rfl rfl (by kernel_rfl) (fun _ _ _ h => h) (Or.inr ⟨by rfl, rfl⟩) ?_ ?_
    rotate_left
    ·simp only [Act.put, List.setIfInBounds_toArray, List.set_cons_zero, List.set_cons_succ, i64_w, i32_w]
     rfl
    refine pure_ (i := 3) (N := some 85) (v := undef) (a' := ?_) #[true, true, true, true, false, false, false, false, false, false, false, false, false, false, false, false] rfl rfl (by kernel_rfl) (fun _ _ _ h => h) (Or.inr ⟨by rfl, rfl⟩) ?_ ?_
    rotate_left
    ·simp only [Act.put, List.setIfInBounds_toArray, List.set_cons_zero, List.set_cons_succ, i64_w, i32_w]
     rfl
    refine pure_ (i := 4) (N := some 86) (v := undef) (a' := ?_) #[true, true, true, true, true, false, false, false, false, false, false, false, false, false, false, false] rfl rfl (by kernel_rfl) (fun _ _ _ h => h) (Or.inr ⟨by rfl, rfl⟩) ?_ ?_
    rotate_left
    ·simp only [Act.put, List.setIfInBounds_toArray, List.set_cons_zero, List.set_cons_succ, i64_w, i32_w]
     rfl
    refine pure_ (i := 5) (N := some 87) (v := undef) (a' := ?_) #[true, true, true, true, true, true, false, false, false, false, false, false, false, false, false, false] rfl rfl (by kernel_rfl) (fun _ _ _ h => h) (Or.inr ⟨by rfl, rfl⟩) ?_ ?_
    rotate_left
    ·simp only [Act.put, List.setIfInBounds_toArray, List.set_cons_zero, List.set_cons_succ, i64_w, i32_w]
     rfl
    refine pure_ (i := 6) (N := some 88) (v := undef) (a' := ?_) #[true, true, true, true, true, true, true, false, false, false, false, false, false, false, false, false] rfl rfl (by kernel_rfl) (fun _ _ _ h => h) (Or.inr ⟨by rfl, rfl⟩) ?_ ?_
    rotate_left
    ·simp only [Act.put, List.setIfInBounds_toArray, List.set_cons_zero, List.set_cons_succ, i64_w, i32_w]
     rfl
    refine pure_ (i := 7) (N := some 89) (v := undef) (a' := ?_) #[true, true, true, true, true, true, true, true, false, false, false, false, false, false, false, false] rfl rfl (by kernel_rfl) (fun _ _ _ h => h) (Or.inr ⟨by rfl, rfl⟩) ?_ ?_
    rotate_left
    ·simp only [Act.put, List.setIfInBounds_toArray, List.set_cons_zero, List.set_cons_succ, i64_w, i32_w]
     rfl
    refine pure_ (i := 8) (N := some 90) (v := undef) (a' := ?_) #[true, true, true, true, true, true, true, true, true, false, false, false, false, false, false, false] rfl rfl (by kernel_rfl) (fun _ _ _ h => h) (Or.inr ⟨by rfl, rfl⟩) ?_ ?_
    rotate_left
    ·simp only [Act.put, List.setIfInBounds_toArray, List.set_cons_zero, List.set_cons_succ, i64_w, i32_w]
     rfl
    refine pure_ (i := 9) (N := some 91) (v := undef) (a' := ?_) #[true, true, true, true, true, true, true, true, true, true, false, false, false, false, false, false] rfl rfl (by kernel_rfl) (fun _ _ _ h => h) (Or.inr ⟨by rfl, rfl⟩) ?_ ?_
    rotate_left
    ·simp only [Act.put, List.setIfInBounds_toArray, List.set_cons_zero, List.set_cons_succ, i64_w, i32_w]
     rfl
    refine pure_ (i := 10) (N := some 92) (v := undef) (a' := ?_) #[true, true, true, true, true, true, true, true, true, true, true, false, false, false, false, false] rfl rfl (by kernel_rfl) (fun _ _ _ h => h) (Or.inr ⟨by rfl, rfl⟩) ?_ ?_
    rotate_left
    ·simp only [Act.put, List.setIfInBounds_toArray, List.set_cons_zero, List.set_cons_succ, i64_w, i32_w]
     rfl
    refine pure_ (i := 11) (N := some 93) (v := undef) (a' := ?_) #[true, true, true, true, true, true, true, true, true, true, true, true, false, false, false, false] rfl rfl (by kernel_rfl) (fun _ _ _ h => h) (Or.inr ⟨by rfl, rfl⟩) ?_ ?_
    rotate_left
    ·simp only [Act.put, List.setIfInBounds_toArray, List.set_cons_zero, List.set_cons_succ, i64_w, i32_w]
     rfl
    refine pure_ (i := 12) (N := some 94) (v := undef) (a' := ?_) #[true, true, true, true, true, true, true, true, true, true, true, true, true, false, false, false] rfl rfl (by kernel_rfl) (fun _ _ _ h => h) (Or.inr ⟨by rfl, rfl⟩) ?_ ?_
    rotate_left
    ·simp only [Act.put, List.setIfInBounds_toArray, List.set_cons_zero, List.set_cons_succ, i64_w, i32_w]
     rfl
    refine pure_ (i := 13) (N := some 95) (v := undef) (a' := ?_) #[true, true, true, true, true, true, true, true, true, true, true, true, true, true, false, false] rfl rfl (by kernel_rfl) (fun _ _ _ h => h) (Or.inr ⟨by rfl, rfl⟩) ?_ ?_
    rotate_left
    ·simp only [Act.put, List.setIfInBounds_toArray, List.set_cons_zero, List.set_cons_succ, i64_w, i32_w]
     rfl
    refine pu 14 96 ?_
    refine pu 15 11 ?_
    refine done_ (by kernel_rfl) ?_
    clear hHeld
    go_wp2
    have NX : Hid (L1 W0 s (some ⟨sb, so, none⟩) cp D Wd O g nx c m d p sz K gt #[.int .i64 0, .int .i64 (K : Int), .int .i64 (d : Int), .int .i64 (p : Int), .int .i64 te, .int .i64 tc, .bool tb, .int .i64 ta, .int .u32 ts, .int .u32 tl] w (k + 1) true true w8) := Lib.hid (HP.out.step hlt rfl rfl (.inl rfl) (.inl rfl) HSZ.out CK.out GK.out T.out)
    clear HP CK GK T
    go_roundw
    case rel => exact ⟨k + 1, _, _, rfl, rfl, by go_num, NX⟩
    case measure => simp [intOf]; omega
  ·obtain rfl : K = k := by omega
   clear hlt hkK
   cases bd <;> cases bp
   ·have CK := Lib.hid HP.out.ck
    have GK := Lib.hid HP.out.gr
    have T := Lib.hid HP.out.bT
    have ED := Lib.hid HP.out.ed
    have EP := Lib.hid HP.out.ep
    clear HP
    go_wp2_with fail
    refine (must_no _).mono ?_
    rintro e wy ⟨rfl, rfl⟩
    go_wp2
    exact ⟨rfl, .inr ⟨by rw [← HR.out, if_neg]; rw [← ED.out]; simp, rfl, GK.out⟩⟩
   ·have CK := Lib.hid HP.out.ck
    have GK := Lib.hid HP.out.gr
    have T := Lib.hid HP.out.bT
    have ED := Lib.hid HP.out.ed
    have EP := Lib.hid HP.out.ep
    clear HP
    go_wp2_with fail
    refine (must_no _).mono ?_
    rintro e wy ⟨rfl, rfl⟩
    go_wp2
    exact ⟨rfl, .inr ⟨by rw [← HR.out, if_neg]; rw [← ED.out]; simp, rfl, GK.out⟩⟩
   ·have CK := Lib.hid HP.out.ck
    have GK := Lib.hid HP.out.gr
    have T := Lib.hid HP.out.bT
    have ED := Lib.hid HP.out.ed
    have EP := Lib.hid HP.out.ep
    clear HP
    go_wp2_with fail
    refine (must_no _).mono ?_
    rintro e wy ⟨rfl, rfl⟩
    go_wp2
    exact ⟨rfl, .inr ⟨by rw [← HR.out, if_neg]; rw [← EP.out]; simp, rfl, GK.out⟩⟩
   ·have CK := Lib.hid HP.out.ck
    have GK := Lib.hid HP.out.gr
    have T := Lib.hid HP.out.bT
    have ED := Lib.hid HP.out.ed
    have EP := Lib.hid HP.out.ep
    clear HP
    go_wp2_with fail
    refine (must_yes _).mono ?_
    rintro e wy ⟨rfl, rfl⟩
    have l_T : gt < wr.heap.size := blk_lt T.out
    have q_T_0 := cq0 ⟨T.out⟩
    have q_T_1 := cq1 ⟨T.out⟩
    have q_T_2 := cq2 ⟨T.out⟩
    have q_T_3 := cq3 ⟨T.out⟩
    have q_T_4 := cq4 ⟨T.out⟩
    have q_T_5 := cq5 ⟨T.out⟩
    have q_T_6 := cq6 ⟨T.out⟩
    have q_T_7 := cq7 ⟨T.out⟩
    have q_T_8 := cq8 ⟨T.out⟩
    have q_T_9 := cq9 ⟨T.out⟩
    go_wp2_with fail
    clear l_T q_T_0 q_T_1 q_T_2 q_T_3 q_T_4 q_T_5 q_T_6 q_T_7 q_T_8 q_T_9
    have RE : Hid (r = elemsM v p sz K (nx + 1 + d) (nx + (c + 1)) (m - (c + 1))) := Lib.hid (by rw [← HR.out, if_pos]; rw [← ED.out, ← EP.out]; rfl)
    have P2 : Hid (L2 W0 s (some ⟨sb, so, none⟩) cp D Wd O g nx c m d p sz K gt #[.int .i64 0, .int .i64 (K : Int), .int .i64 (d : Int), .int .i64 (p : Int), .int .i64 te, .int .i64 tc, .bool tb, .int .i64 ta, .int .u32 ts, .int .u32 tl] v w 0 (nx + (c + 1)) (m - (c + 1)) wr) := Lib.hid ⟨Nat.zero_le _, by simp, CK.out, GK.out, T.out, (objM_in hob).2, by omega⟩
    clear CK GK T ED EP
    go_loopw [15, 119] (fun _ i wq => ∃ k nk mk : Nat, i = .int .i64 k ∧ Hid (L2 W0 s (some ⟨sb, so, none⟩) cp D Wd O g nx c m d p sz K gt #[.int .i64 0, .int .i64 (K : Int), .int .i64 (d : Int), .int .i64 (p : Int), .int .i64 te, .int .i64 tc, .bool tb, .int .i64 ta, .int .u32 ts, .int .u32 tl] v w k nk mk wq)) (fun _ i _ => K - (intOf i).toNat)
    case atStart => exact ⟨0, _, _, rfl, P2⟩
    case round =>
     clear P2
     obtain ⟨k, nk, mk, rfl, HP⟩ := hrel
     have hkK := HP.out.le
     by_cases hlt : k < K
     ·have hk0 : (0 : Int) ≤ (k : Int) := Int.natCast_nonneg _
      have hrow := row_bound hlt HQC.out
      obtain ⟨q, hq⟩ : ∃ q, k * sz = q := ⟨_, rfl⟩
      have HQ := Lib.hid hq
      rw [hq] at hrow
      clear hq
      have hob2 := (objM_in hob).2
      obtain ⟨n1, hn1⟩ : ∃ n, nx + 1 = n := ⟨_, rfl⟩
      obtain ⟨f, hf⟩ : ∃ f, n1 + q = f := ⟨_, rfl⟩
      obtain ⟨f2, hf2⟩ : ∃ f2, f + d = f2 := ⟨_, rfl⟩
      have HN1 := Lib.hid hn1
      have HF := Lib.hid hf
      have HF2 := Lib.hid hf2
      have hfl : f2 + p ≤ s.length := by have := HSZ.out; omega
      clear hn1 hf hf2 hob2
      have CK := Lib.hid HP.out.ck
      have GK := Lib.hid HP.out.gr
      have T := Lib.hid HP.out.bT
      have hml := HP.out.ml
      have q0_ : (q : Int) ≤ 536870912 := by omega
      have f0_ : (f : Int) ≤ 17592186040320 := by have := HLEN.out; have := HF2.out; omega
      have g0_ : (f2 : Int) ≤ 17592186040320 := by have := HLEN.out; omega
      have n0_ : (n1 : Int) ≤ 17592186040320 := by have := HF.out; omega
      have d1_ : (nx : Int) + 1 = (n1 : Int) := by have := HN1.out; omega
      have d2_ : (k : Int) * (sz : Int) = (q : Int) := by have := HQ.out; rw [← this]; simp
      have d3_ : (n1 : Int) + (q : Int) = (f : Int) := by have := HF.out; omega
      have d4_ : (f : Int) + (d : Int) = (f2 : Int) := by have := HF2.out; omega
      have l_T : gt < wr.heap.size := blk_lt T.out
      have q_T_0 := cq0 ⟨T.out⟩
      have q_T_1 := cq1 ⟨T.out⟩
      have q_T_2 := cq2 ⟨T.out⟩
      have q_T_3 := cq3 ⟨T.out⟩
      have q_T_4 := cq4 ⟨T.out⟩
      have q_T_5 := cq5 ⟨T.out⟩
      have q_T_6 := cq6 ⟨T.out⟩
      have q_T_7 := cq7 ⟨T.out⟩
      have q_T_8 := cq8 ⟨T.out⟩
      have q_T_9 := cq9 ⟨T.out⟩
      go_wp2_with fail
      clear q0_ f0_ g0_ n0_ d1_ d2_ d3_ d4_ l_T q_T_0 q_T_1 q_T_2 q_T_3 q_T_4 q_T_5 q_T_6 q_T_7 q_T_8 q_T_9
      have ef : f2 = nx + 1 + d + k * sz := by have h1 := HN1.out; have h2 := HQ.out; have h3 := HF.out; have h4 := HF2.out; omega
      have HEF := Lib.hid ef
      clear ef
      refine (pointers_any HE.out CK.out HI.out hd0_ hd1_ HV.out hfl HP.out.nl (by omega)).mono ?_
      rintro e w9 (⟨q9, hq, rfl, hg, hc⟩ | ⟨hq, rfl, hg⟩)
      ·have HP' := Lib.hid (HP.out.step HI.out hlt (by rw [← HEF.out]; exact hq) hg hc neT)
       clear HP CK GK T hq hg hc HEF
       go_wp2
       go_roundw
       case rel => exact ⟨k + 1, q9.1, q9.2, by go_num, HP'⟩
       case measure => simp [intOf]; omega
      ·have hb := HP.out.bad hlt (by rw [← HEF.out]; exact hq)
       have hg' := GK.out.trans hg
       have HB := Lib.hid hb
       clear hq hb hg CK GK T
       go_wp2
       exact ⟨rfl, .inr ⟨RE.out.trans HB.out, rfl, hg'⟩⟩
     ·obtain rfl : K = k := by omega
      go_wp2
      go_end0
      exact .inl ⟨(nk, mk), RE.out.trans HP.out.done, rfl, HP.out.gr, HP.out.ck⟩
end Go.Proofs.YtidglmocekghmaaDoor.Pr
end
section
namespace Go.Proofs.YtidglmocekghmaaDoor.Pr
open Go.RowKit Go.Proofs.YtidglmocekghmaaDoorW.PrintWords Go.Proofs.YtidglmocekghmaaDoorW.PrintLast Go.Proofs.YtidglmocekghmaaDoorW.PrintMore
set_option linter.unusedVariables false
set_option linter.unusedSimpArgs false
theorem composite_any {W0 w : World} {s : List Int} {cp g nx m : Nat} {D Wd O : Int} {sb so at_ : Nat} {depth : Int} (hE : Env W0 s (some ⟨sb, so, none⟩)) (hK : Ck W0 s (some ⟨sb, so, none⟩) cp D Wd O g nx m w) (w0 : Int)
  (ha : at_ ≤ 17592186040320) (hx : nx ≤ s.length) (hm : m ≤ 4611686018427387904) (hcp : s.length ≤ cp) {v : Nat → Nat → Nat → Option (Nat × Nat)} (hv : InM s v) (hd0_ : 0 ≤ depth) (hd1_ : depth ≤ 1000000) (hV : VisC W0 s (some ⟨sb, so, none⟩) cp D Wd O g v (depth + 1)) :
  Calls Tryd.prog 59 #[.pointer (some ⟨g, 0, none⟩), .int .i64 at_, .int .i64 depth, aggP 1 (offW w0) 0 0 7 (cntW w0) false 0 0 0] w fun e w' => EndM W0 s (some ⟨sb, so, none⟩) cp D Wd O g w (compM s v at_ w0 nx m) e w' := by
 have ho := offW_bd w0
 have hcb := cntW_bd w0
 obtain ⟨c, hc'⟩ : ∃ c : Nat, cntW w0 = (c : Int) := ⟨(cntW w0).toNat, by omega⟩
 unfold compM aggP
 rw [hc'] at hcb ⊢
 dsimp only
 simp only [Int.toNat_natCast]
 generalize offW w0 = off at ho ⊢
 have hc0 : c ≤ 536870911 := by omega
 have bad : ∀ {r : Option (Nat × Nat)}, r = none → (Calls Tryd.prog 59 #[.pointer (some ⟨g, 0, none⟩), .int .i64 at_, .int .i64 depth, .agg #[.int .i64 1, .int .i64 off, .int .i64 0, .int .i64 0, .int .i64 7, .int .i64 c, .bool false, .int .i64 0, .int .u32 0, .int .u32 0]] w fun e w' => e = .panicked [{ v := .iface 47 (.agg #[]), recovered := false }] ∧ Gr g w w') →
   Calls Tryd.prog 59 #[.pointer (some ⟨g, 0, none⟩), .int .i64 at_, .int .i64 depth, .agg #[.int .i64 1, .int .i64 off, .int .i64 0, .int .i64 0, .int .i64 7, .int .i64 c, .bool false, .int .i64 0, .int .u32 0, .int .u32 0]] w fun e w' => EndM W0 s (some ⟨sb, so, none⟩) cp D Wd O g w r e w' :=
  fun hr h => h.mono fun e w' ⟨a, b⟩ => .inr ⟨hr, a, b⟩
 by_cases hob : objM s at_ off (c + 1) nx = true
 ·rw [if_pos hob]
  obtain ⟨o, td, tp, te, tc, tb, ta, ts, tl, hDec, o0, o1, td0, td1, tp0, tp1, hf⟩ := decV_agg (wd s nx)
  by_cases hk : kindW (wd s nx) = 0
  ·obtain ⟨e1, e2, e3⟩ := hf hk
   rw [hk] at hDec
   rw [← e1, ← e2, ← e3]
   clear e1 e2 e3 hf
   by_cases h0 : 0 ≤ o
   ·obtain ⟨K, rfl⟩ : ∃ K : Nat, o = (K : Int) := ⟨o.toNat, by omega⟩
    obtain ⟨d, rfl⟩ : ∃ d : Nat, td = (d : Int) := ⟨td.toNat, by omega⟩
    obtain ⟨p, rfl⟩ : ∃ p : Nat, tp = (p : Int) := ⟨tp.toNat, by omega⟩
    simp only [Int.toNat_natCast]
    have hK1 : K ≤ 536870911 := by omega
    have hd : d ≤ 65535 := by omega
    have hp : p ≤ 65535 := by omega
    by_cases hqc : K * (d + p) = c
    ·have hcond : kindW (wd s nx) = 0 ∧ (0 : Int) ≤ (K : Int) ∧ (K : Int) * ((d : Int) + (p : Int)) = (c : Int) := ⟨hk, by omega, by rw [← hqc]; simp⟩
     rw [if_pos hcond]
     by_cases hch : c + 1 ≤ m
     ·rw [if_pos hch]
      by_cases hz : d + p = 0
      ·rw [if_pos hz]
       by_cases hch2 : K ≤ m - (c + 1)
       ·rw [if_pos hch2]
        exact (comp_4a hE hK ha ho.1 ho.2 hc0 hx hm hcp hob hDec hK1 hd hp rfl hqc hch hz hch2).mono fun e w' ⟨a, b, c⟩ => .inl ⟨_, rfl, a, b, c⟩
       ·rw [if_neg hch2]
        exact bad rfl (comp_4b hE hK ha ho.1 ho.2 hc0 hx hm hcp hob hDec hK1 hd hp rfl hqc hch hz hch2)
      ·rw [if_neg hz]
       exact comp_5 hE hK ha ho.1 ho.2 hc0 hx hm hcp hv hd0_ hd1_ hV hob hDec hK1 hd hp rfl hqc hch hz _ rfl
     ·rw [if_neg hch]
      exact bad rfl (comp_3 hE hK ha ho.1 ho.2 hc0 hx hm hcp hob hDec hK1 hd hp rfl hqc hch)
    ·have hcond : ¬ (kindW (wd s nx) = 0 ∧ (0 : Int) ≤ (K : Int) ∧ (K : Int) * ((d : Int) + (p : Int)) = (c : Int)) := fun h => hqc (by
      have := h.2.2
      have e : ((K * (d + p) : Nat) : Int) = (c : Int) := by rw [← this]; simp
      omega)
     rw [if_neg hcond]
     have hb : K * (d + p) ≤ 536870911 * 131072 := Nat.mul_le_mul hK1 (by omega)
     exact bad rfl (comp_2m hE hK ha ho.1 ho.2 hc0 hx hm hcp hob hDec hK1 hd hp rfl rfl (by omega) hqc)
   ·rw [if_neg (fun h => h0 h.2.1)]
    exact bad rfl (comp_2o hE hK ha ho.1 ho.2 hc0 hx hm hcp hob hDec td0 td1 tp0 tp1 h0)
  ·rw [if_neg (fun h => hk h.1)]
   exact bad rfl (comp_2k hE hK ha ho.1 ho.2 hc0 hx hm hcp hob hDec td0 td1 tp0 tp1 hk)
 ·rw [if_neg hob]
  exact bad rfl (comp_1 hE hK ha ho.1 ho.2 hc0 hx hm hcp hob)
end Go.Proofs.YtidglmocekghmaaDoor.Pr
end
section
set_option linter.unusedVariables false
set_option linter.unusedSimpArgs false
namespace Go.Proofs.YtidglmocekghmaaDoor.Ls
open Go.RowKit
theorem Tryd.info5 : (Tryd.prog.info? 5).map (fun i => (i.zero, i.size, i.bytes)) = some (some (.int .u8 0), 1, 1) := by kernel_rfl
theorem clone_nil (n c : Nat) (w : World) :
  Calls Tryd.prog 78 #[.slice none n c] w fun e w' => e = .returned (.slice none 0 0) ∧ Below w.heap.size w w' := by
 have hnil := fun (w : World) a n c => Lib.run_eql_slice_nil (P := Tryd.prog) w 34 5 a n c 0 0 Tryd.underlying34
 go_enter Tryd.func78, Tryd.ntmps78
 go_wp2_with fail
 go_wp2
 go_ret
 exact ⟨rfl, Below.refl _ _⟩
theorem own_empty (w : World) : (w.alloc (Obj.cells #[] 5)).ownsRow w.heap.size 5 1 (.slice (some ⟨w.heap.size, 0, none⟩) 0 0) 0 (nums .u8 []) :=
 ⟨by simp [nums], .inr ⟨w.heap.size, 0, #[], rfl, Nat.le_refl _, heap_alloc_new w _, Nat.le_refl _, Nat.zero_le _, rfl, rfl⟩⟩
set_option maxHeartbeats 1000000 in
theorem clone_at (ad : Addr) (n c : Nat) (xs : List Int) (w : World) (hn : n ≤ 140737488355328) (hx : xs.length = n) (hc : ∀ j u, (nums .u8 xs)[j]? = some u → w.cell? (ad.add j) = some u) :
  Calls Tryd.prog 78 #[.slice (some ad) n c] w fun e w' => (∃ v, e = .returned v ∧ w'.ownsRow w.heap.size 5 1 v n (nums .u8 xs)) ∧ Below w.heap.size w w' := by
 have hnil := fun (w : World) a n c => Lib.run_eql_slice_nil (P := Tryd.prog) w 34 5 a n c 0 0 Tryd.underlying34
 obtain ⟨i0, hi, hz0, hz1, hz2⟩ := info_parts Tryd.info5
 have hown := own_empty w
 have B1 : Below w.heap.size w (w.alloc (Obj.cells #[] 5)) := (Below.refl _ w).alloc (Nat.le_refl _) _
 have HN : Hid (∀ j u, (nums .u8 xs)[j]? = some u → (w.alloc (Obj.cells #[] 5)).cell? (ad.add j) = some u) := fun j u hj =>
  (B1.cell (p := ad.add j) (World.block_lt_of_cell? w _ (hc j u hj))).trans (hc j u hj)
 have HX := Lib.hid hx
 clear hx hc
 go_enter Tryd.func78, Tryd.ntmps78
 go_wp2_with (at_builtin; refine wpList_append_own_at _ rfl _ _ 34 rfl w.heap.size 5 i0 (.int .u8 0) 1 1 Tryd.underlying34 hi hz0 hz1 hz2 rfl (by decide) _ _ _ rfl hown ad n c (nums .u8 xs) rfl (by simp [nums, HX.out]) HN.out (nums_oneCell _ _) ?c1 ?c2 ?c3 ?_)
 case c1 => simp only [maxLen]; omega
 case c2 => omega
 case c3 => simp
 intro v' w' hown' hg _ _
 go_wp2
 go_ret
 refine ⟨⟨v', rfl, by simpa [nums] using hown'⟩, B1.grown hg (by simp) (own_base hown)⟩
theorem clone_any (A : Option Addr) (n c : Nat) (xs : List Int) (w : World) (hn : n ≤ 140737488355328) (h : Rd w A n xs) (h0 : A = none → n = 0) :
  Calls Tryd.prog 78 #[.slice A n c] w fun e w' => (∃ v, e = .returned v ∧ w'.ownsRow w.heap.size 5 1 v n (nums .u8 xs)) ∧ Below w.heap.size w w' := by
 obtain ⟨hl, hr, _⟩ := h
 cases A with
 | none =>
  obtain rfl := h0 rfl
  obtain rfl := List.eq_nil_of_length_eq_zero hl
  exact (clone_nil 0 c w).mono fun _ _ ⟨a, b⟩ => ⟨⟨_, a, by simp [nums], .inl ⟨rfl, rfl⟩⟩, b⟩
 | some ad =>
  refine clone_at ad n c xs w hn hl ?_
  rcases hr with rfl | ⟨b, off, e, _, hc⟩
  ·obtain rfl := List.eq_nil_of_length_eq_zero hl
   intro j u hj
   simp [nums] at hj
  ·obtain rfl := Option.some.inj e
   exact Rd.news hl hc
end Go.Proofs.YtidglmocekghmaaDoor.Ls
end
section
set_option linter.unusedVariables false
set_option linter.unusedSimpArgs false
namespace Go.Proofs.YtidglmocekghmaaDoor.Ls
open Go.RowKit
def trimL (e c : Int) (xs : List Int) : List Int :=
 if e = 1 ∧ 0 < c % 8 then (xs.take (bytesOf e c).toNat).set ((bytesOf e c).toNat - 1) (xs.getD ((bytesOf e c).toNat - 1) 0 % 2 ^ (c % 8).toNat) else xs.take (bytesOf e c).toNat
set_option maxHeartbeats 1000000 in
theorem trim_plain (e c : Int) (h0 : 0 ≤ e) (h5 : e ≤ 5) (hc0 : 0 ≤ c) (hc1 : c ≤ 4294967296) (A : Option Addr) (n cap : Nat) (xs : List Int) (w : World) (ht : Tab w) (hn : n ≤ 140737488355328) (hA : A = none → n = 0) (hcap : n ≤ cap) (hR : Rd w A n xs)
  (k : Nat) (hk : (k : Int) = bytesOf e c) (hkn : k ≤ n) (hne : ¬ (e = 1 ∧ 0 < c % 8)) :
  Calls Tryd.prog 62 #[.int .i64 e, .int .i64 c, .slice A n cap] w fun e' w' => (∃ v, e' = .returned v ∧ w'.ownsRow w.heap.size 5 1 v k (nums .u8 (xs.take k))) ∧ Below w.heap.size w w' := by
 have HK := Lib.hid hk
 clear hk
 have hRk := hR.take k hkn
 have hAk : A = none → k = 0 := fun h => by have := hA h; omega
 go_enter Tryd.func62, Tryd.ntmps62
 go_wp2_with fail
 refine (bytes_any e c h0 (by omega) hc0 hc1 _ ht).mono ?_
 rintro e' w' ⟨rfl, rfl⟩
 rw [← HK.out]
 go_wp2_with fail
 refine (clone_any A k cap (xs.take k) w (by omega) hRk hAk).mono ?_
 rintro e' w1 ⟨⟨v, rfl, hown⟩, hb1⟩
 by_cases he : e = 1
 ·have hc8 : c % 8 = 0 := by omega
  go_wp2
  go_ret
  exact ⟨⟨v, rfl, hown⟩, hb1⟩
 ·have he' : (e == 1) = false := by simp [he]
  go_wp2
  go_ret
  exact ⟨⟨v, rfl, hown⟩, hb1⟩
set_option maxHeartbeats 2000000 in
theorem trim_bits (c r : Int) (hr0 : 1 ≤ r) (hr1 : r ≤ 7) (hc0 : 0 ≤ c) (hc1 : c ≤ 4294967296) (hcr : c % 8 = r) (A : Option Addr) (n cap : Nat) (xs : List Int) (w : World) (ht : Tab w) (hn : n ≤ 140737488355328) (hA : A = none → n = 0) (hcap : n ≤ cap) (hR : Rd w A n xs)
  (k : Nat) (hk : (k : Int) = bytesOf 1 c) (hkn : k ≤ n) :
  Calls Tryd.prog 62 #[.int .i64 1, .int .i64 c, .slice A n cap] w fun e' w' => (∃ v, e' = .returned v ∧ w'.ownsRow w.heap.size 5 1 v k (nums .u8 ((xs.take k).set (k - 1) (xs.getD (k - 1) 0 % 2 ^ r.toNat)))) ∧ Below w.heap.size w w' := by
 have hk0 : 0 < k := by simp [bytesOf, bitsOf] at hk; omega
 have HK := Lib.hid hk
 clear hk
 have hRk := hR.take k hkn
 have hAk : A = none → k = 0 := fun h => by have := hA h; omega
 go_enter Tryd.func62, Tryd.ntmps62
 go_wp2_with fail
 refine (bytes_any 1 c (by omega) (by omega) hc0 hc1 _ ht).mono ?_
 rintro e' w' ⟨rfl, rfl⟩
 rw [← HK.out]
 go_wp2_with fail
 refine (clone_any A k cap (xs.take k) w (by omega) hRk hAk).mono ?_
 rintro e' w1 ⟨⟨v, rfl, hown⟩, hb1⟩
 obtain ⟨m, rfl⟩ : ∃ m, k = m + 1 := ⟨k - 1, by omega⟩
 obtain ⟨g, cap1, rfl⟩ := ownsRow_succ hown
 obtain ⟨x, hx⟩ : ∃ x, Hid (xs.getD m 0 = x) := ⟨_, rfl⟩
 have hxb := hR.2.2 m
 rw [hx.out] at hxb
 obtain ⟨hx0, hx1⟩ := hxb
 have hcell : w1.cell? ⟨g, m, none⟩ = some (.int .u8 x) := by
  rw [hown.cellAt m (by omega), ← hx.out]
  have hl : m < xs.length := by have := hR.1; omega
  simp [nums, List.getElem?_take, List.getD_eq_getElem?_getD, List.getElem?_eq_getElem hl]
 have hfr := hown.frozenAt m
 have hm0 : (0 : Int) ≤ (m : Int) := Int.natCast_nonneg _
 have hst := hown.stored m (.int .u8 (x % 2 ^ r.toNat))
 have HST := Lib.hid hst
 have hgb := own_base hown g rfl
 clear hst hR hRk hown
 have e1 : ((m + 1 : Nat) : Int) = (m : Int) + 1 := by omega
 have m1 : bits .and .u8 x 1 = x % 2 := bits_mask .u8 8 (by decide) wraps_u8 1 (by decide) x hx0 (by omega)
 have m2 : bits .and .u8 x 3 = x % 4 := bits_mask .u8 8 (by decide) wraps_u8 2 (by decide) x hx0 (by omega)
 have m7 : bits .and .u8 x 127 = x % 128 := bits_mask .u8 8 (by decide) wraps_u8 7 (by decide) x hx0 (by omega)
 rcases (by omega : r = 1 ∨ r = 2 ∨ r = 3 ∨ r = 4 ∨ r = 5 ∨ r = 6 ∨ r = 7) with rfl | rfl | rfl | rfl | rfl | rfl | rfl
 all_goals
  go_wp2
  go_ret
  have hs := HST.out
  have hxm : xs.getD (m + 1 - 1) 0 = x := hx.out
  refine ⟨⟨_, rfl, ?_⟩, hb1.trans (((Below.refl _ _).grown hs.2 hb1.size (fun k hk => by cases hk; exact hgb)))⟩
  rw [hxm]
  have h2 := hs.1
  simpa [nums, List.map_set] using h2
theorem trim_any (e c : Int) (h0 : 0 ≤ e) (h5 : e ≤ 5) (hc0 : 0 ≤ c) (hc1 : c ≤ 4294967296) (A : Option Addr) (n cap : Nat) (xs : List Int) (w : World) (ht : Tab w) (hn : n ≤ 140737488355328) (hA : A = none → n = 0) (hcap : n ≤ cap) (hR : Rd w A n xs)
  (k : Nat) (hk : (k : Int) = bytesOf e c) (hkn : k ≤ n) :
  Calls Tryd.prog 62 #[.int .i64 e, .int .i64 c, .slice A n cap] w fun e' w' => (∃ v, e' = .returned v ∧ w'.ownsRow w.heap.size 5 1 v k (nums .u8 (trimL e c xs))) ∧ Below w.heap.size w w' := by
 have hk' : (bytesOf e c).toNat = k := by omega
 by_cases h : e = 1 ∧ 0 < c % 8
 ·obtain ⟨rfl, h8⟩ := h
  have := trim_bits c (c % 8) (by omega) (by omega) hc0 hc1 rfl A n cap xs w ht hn hA hcap hR k hk hkn
  rw [show trimL 1 c xs = (xs.take k).set (k - 1) (xs.getD (k - 1) 0 % 2 ^ (c % 8).toNat) by unfold trimL; rw [if_pos ⟨rfl, h8⟩, hk']]
  exact this
 ·rw [show trimL e c xs = xs.take k by unfold trimL; rw [if_neg h, hk']]
  exact trim_plain e c h0 h5 hc0 hc1 A n cap xs w ht hn hA hcap hR k hk hkn h
end Go.Proofs.YtidglmocekghmaaDoor.Ls
end
section
namespace Go.Proofs.YtidglmocekghmaaDoor.Pr
open Go.RowKit Go.Proofs.YtidglmocekghmaaDoorW.PrintWords Go.Proofs.YtidglmocekghmaaDoorW.PrintLast Go.Proofs.YtidglmocekghmaaDoorW.PrintMore
set_option linter.unusedVariables false
set_option linter.unusedSimpArgs false
theorem bytesL_append (a b : List Int) : bytesL (a ++ b) = bytesL a ++ bytesL b := by
 induction a with
 | nil => rfl
 | cons x a ih => simp [bytesL, ih]
theorem bytesL_length : ∀ a : List Int, (bytesL a).length = 8 * a.length
 | [] => rfl
 | x :: a => by simp [bytesL, bytesW, bytesL_length a]; omega
theorem bytesL_take (xs : List Int) (i : Nat) (h : i < xs.length) : bytesL (xs.take (i + 1)) = bytesL (xs.take i) ++ bytesW xs[i] := by
 rw [List.take_succ_eq_append_getElem h, bytesL_append]
 simp [bytesL]
def byteAt (w : Int) (k : Nat) : Int := (bytesW w).getD k 0
theorem bytesW_take (w : Int) (k : Nat) (h : k < 8) : (bytesW w).take (k + 1) = (bytesW w).take k ++ [byteAt w k] := by
 have hl : k < (bytesW w).length := by simp [bytesW]; omega
 rw [List.take_succ_eq_append_getElem hl]
 simp [byteAt, List.getElem?_eq_getElem hl]
theorem own_room (w : World) (c : Nat) (hc : c ≤ 140737488355328) : (w.alloc (.cells (madeCells #[.int .u8 0] c) 5)).ownsRow w.heap.size 5 1 (.slice (some ⟨w.heap.size, 0, none⟩) 0 c) 0 (Ls.nums .u8 []) :=
 ⟨rfl, .inr ⟨w.heap.size, c, _, rfl, Nat.le_refl _, heap_alloc_new w _, Nat.zero_le _, by simp only [maxLen]; omega, by simp [size_madeCells], rfl⟩⟩
set_option maxRecDepth 100000 in
set_option maxHeartbeats 8000000 in
theorem wbytes_at (b off n cap : Nat) (xs : List Int) (w : World) (hl : xs.length = n) (hn : n ≤ 17592186040320) (hok : ∀ j, 0 ≤ wd xs j ∧ wd xs j < 18446744073709551616) (hcell : ∀ j, j < n → w.cell? ⟨b, off + j, none⟩ = some (.int .u64 (wd xs j))) (hbl : 0 < n → b < w.heap.size) :
  Calls Tryd.prog 61 #[.slice (some ⟨b, off, none⟩) n cap] w fun e w' => (∃ v, e = .returned v ∧ w'.ownsRow w.heap.size 5 1 v (8 * n) (Ls.nums .u8 (bytesL xs))) ∧ Below w.heap.size w w' := by
 have HL := Lib.hid hl
 have HC := Lib.hid hcell
 have HOK := Lib.hid hok
 obtain ⟨c, hc⟩ : ∃ c, 8 * n = c := ⟨_, rfl⟩
 have HCC := Lib.hid hc
 have e8 : (8 : Int) * (n : Int) = (c : Int) := by omega
 have c0 : (c : Int) ≤ 140737488322560 := by omega
 have c1 : (0 : Int) ≤ (c : Int) := Int.natCast_nonneg _
 obtain ⟨i0, hi, hz0, hz1, hz2⟩ := info_parts Ls.Tryd.info5
 have hmk := run_make_room (P := Tryd.prog) 34 5 (.int .u8 0) 1 Tryd.underlying34 Ls.Tryd.info5 rfl .i64 .i64 c (by omega) (by omega) w
 have P0 : Hid ((w.alloc (.cells (madeCells #[.int .u8 0] c) 5)).ownsRow w.heap.size 5 1 (.slice (some ⟨w.heap.size, 0, none⟩) 0 c) 0 (Ls.nums .u8 (bytesL (xs.take 0)))) := Lib.hid (by simpa [bytesL] using own_room w c (by omega))
 have HBL := Lib.hid hbl
 rw [HCC.out]
 clear hcell hok hc hl hbl
 go_enter Tryd.func61, Tryd.ntmps61
 go_wp2_with fail
 clear hmk e8
 refine wp_at (fun wa hW => ?_)
 have hBa : Below w.heap.size w wa := by rw [hW]; exact (Below.refl _ _).alloc (Nat.le_refl _) _
 replace P0 : Hid (wa.ownsRow w.heap.size 5 1 (.slice (some ⟨w.heap.size, 0, none⟩) 0 c) 0 (Ls.nums .u8 (bytesL (xs.take 0)))) := Lib.hid (by rw [hW]; exact P0.out)
 have PB := Lib.hid hBa
 clear hW hBa
 go_loopw [3, 5, 13] (fun v _ i wr => ∃ k : Nat, k ≤ n ∧ i = .int .i64 k ∧ Hid (wr.ownsRow w.heap.size 5 1 v (8 * k) (Ls.nums .u8 (bytesL (xs.take k)))) ∧ Hid (Below w.heap.size w wr)) (fun _ _ i _ => n - (intOf i).toNat)
 case atStart => exact ⟨0, Nat.zero_le _, rfl, P0, PB⟩
 case round =>
  clear P0 PB
  obtain ⟨k, hk, rfl, HO, HB⟩ := hrel
  by_cases hlt : k < n
  ·have h1 := (HB.out.cell (p := ⟨b, off + k, none⟩) (HBL.out (by omega))).trans (HC.out k hlt)
   have hk0 : (0 : Int) ≤ (k : Int) := Int.natCast_nonneg _
   have hk1 : (k : Int) < (n : Int) := by omega
   have hx0 := (HOK.out k).1
   have hx1 := (HOK.out k).2
   have HT : Hid (bytesL (xs.take (k + 1)) = bytesL (xs.take k) ++ bytesW (wd xs k)) := Lib.hid (by
    have hkl : k < xs.length := by rw [HL.out]; exact hlt
    rw [bytesL_take xs k hkl]
    unfold wd
    simp [List.getD_eq_getElem?_getD, List.getElem?_eq_getElem hkl])
   generalize wd xs k = x at h1 hx0 hx1 HT
   go_wp2_with fail
   have PO : Hid (wr.ownsRow w.heap.size 5 1 u3 (8 * k + 0) (Ls.nums .u8 (bytesL (xs.take k) ++ (bytesW x).take 0))) := Lib.hid (by simpa using HO.out)
   clear HO h1
   obtain ⟨wo, hwo⟩ : ∃ W, W = wr := ⟨_, rfl⟩
   subst hwo
   go_loopw [3, 6, 17] (fun v _ i wr => ∃ j : Nat, j ≤ 8 ∧ i = .int .i64 j ∧ Hid (wr.ownsRow w.heap.size 5 1 v (8 * k + j) (Ls.nums .u8 (bytesL (xs.take k) ++ (bytesW x).take j))) ∧ Hid (Below w.heap.size w wr)) (fun _ _ i _ => 8 - (intOf i).toNat)
   case atStart => exact ⟨0, by omega, rfl, PO, HB⟩
   case round =>
    clear PO HB
    obtain ⟨j, hj, rfl, HO, HB⟩ := hrel
    by_cases hlt2 : j < 8
    ·have HY := Lib.hid (bytesW_take x j hlt2)
     have hcc := HCC.out
     rcases (by omega : j = 0 ∨ j = 1 ∨ j = 2 ∨ j = 3 ∨ j = 4 ∨ j = 5 ∨ j = 6 ∨ j = 7) with rfl | rfl | rfl | rfl | rfl | rfl | rfl | rfl
     ·obtain ⟨y, hy⟩ : ∃ y, byteAt x 0 = y := ⟨_, rfl⟩
      have HY2 := Lib.hid hy
      have hb : x % 256 = y := by rw [← hy]; rfl
      clear hy
      go_wp2_with (at_builtin; refine wpList_append_own_at _ rfl _ _ 34 rfl w.heap.size 5 i0 (.int .u8 0) 1 1 Tryd.underlying34 hi hz0 hz1 hz2 rfl (by decide) _ _ _ rfl (HO.out.alloc _) ⟨wr.heap.size, 0, none⟩ 1 1 [.int .u8 y] rfl rfl (cell_one_new _ _ _) (by simp [Value.oneCell']) ?c1 ?c2 ?c3 ?_)
      case c1 => simp only [maxLen]; omega
      case c2 => omega
      case c3 => have := HB.out.size; simp; omega
      intro v' w1 hown' hg _ _
      have HO' : Hid (w1.ownsRow w.heap.size 5 1 v' (8 * k + (0 + 1)) (Ls.nums .u8 (bytesL (xs.take k) ++ (bytesW x).take (0 + 1)))) := Lib.hid (by rw [HY.out, HY2.out]; simpa [Ls.nums, List.append_assoc] using hown')
      have HB' : Hid (Below w.heap.size w w1) := Lib.hid ((HB.out.alloc HB.out.size _).grown hg (by have := HB.out.size; simp; omega) (Ls.own_base HO.out))
      clear hown' hg HO HB hb hcc
      go_wp2
      go_roundw
      case rel => exact ⟨0 + 1, by omega, rfl, HO', HB'⟩
      case measure => simp [intOf]
     ·obtain ⟨y, hy⟩ : ∃ y, byteAt x 1 = y := ⟨_, rfl⟩
      have HY2 := Lib.hid hy
      have hb : x / 256 % 256 = y := by rw [← hy]; rfl
      clear hy
      go_wp2_with (at_builtin; refine wpList_append_own_at _ rfl _ _ 34 rfl w.heap.size 5 i0 (.int .u8 0) 1 1 Tryd.underlying34 hi hz0 hz1 hz2 rfl (by decide) _ _ _ rfl (HO.out.alloc _) ⟨wr.heap.size, 0, none⟩ 1 1 [.int .u8 y] rfl rfl (cell_one_new _ _ _) (by simp [Value.oneCell']) ?c1 ?c2 ?c3 ?_)
      case c1 => simp only [maxLen]; omega
      case c2 => omega
      case c3 => have := HB.out.size; simp; omega
      intro v' w1 hown' hg _ _
      have HO' : Hid (w1.ownsRow w.heap.size 5 1 v' (8 * k + (1 + 1)) (Ls.nums .u8 (bytesL (xs.take k) ++ (bytesW x).take (1 + 1)))) := Lib.hid (by rw [HY.out, HY2.out]; simpa [Ls.nums, List.append_assoc] using hown')
      have HB' : Hid (Below w.heap.size w w1) := Lib.hid ((HB.out.alloc HB.out.size _).grown hg (by have := HB.out.size; simp; omega) (Ls.own_base HO.out))
      clear hown' hg HO HB hb hcc
      go_wp2
      go_roundw
      case rel => exact ⟨1 + 1, by omega, rfl, HO', HB'⟩
      case measure => simp [intOf]
     ·obtain ⟨y, hy⟩ : ∃ y, byteAt x 2 = y := ⟨_, rfl⟩
      have HY2 := Lib.hid hy
      have hb : x / 65536 % 256 = y := by rw [← hy]; rfl
      clear hy
      go_wp2_with (at_builtin; refine wpList_append_own_at _ rfl _ _ 34 rfl w.heap.size 5 i0 (.int .u8 0) 1 1 Tryd.underlying34 hi hz0 hz1 hz2 rfl (by decide) _ _ _ rfl (HO.out.alloc _) ⟨wr.heap.size, 0, none⟩ 1 1 [.int .u8 y] rfl rfl (cell_one_new _ _ _) (by simp [Value.oneCell']) ?c1 ?c2 ?c3 ?_)
      case c1 => simp only [maxLen]; omega
      case c2 => omega
      case c3 => have := HB.out.size; simp; omega
      intro v' w1 hown' hg _ _
      have HO' : Hid (w1.ownsRow w.heap.size 5 1 v' (8 * k + (2 + 1)) (Ls.nums .u8 (bytesL (xs.take k) ++ (bytesW x).take (2 + 1)))) := Lib.hid (by rw [HY.out, HY2.out]; simpa [Ls.nums, List.append_assoc] using hown')
      have HB' : Hid (Below w.heap.size w w1) := Lib.hid ((HB.out.alloc HB.out.size _).grown hg (by have := HB.out.size; simp; omega) (Ls.own_base HO.out))
      clear hown' hg HO HB hb hcc
      go_wp2
      go_roundw
      case rel => exact ⟨2 + 1, by omega, rfl, HO', HB'⟩
      case measure => simp [intOf]
     ·obtain ⟨y, hy⟩ : ∃ y, byteAt x 3 = y := ⟨_, rfl⟩
      have HY2 := Lib.hid hy
      have hb : x / 16777216 % 256 = y := by rw [← hy]; rfl
      clear hy
      go_wp2_with (at_builtin; refine wpList_append_own_at _ rfl _ _ 34 rfl w.heap.size 5 i0 (.int .u8 0) 1 1 Tryd.underlying34 hi hz0 hz1 hz2 rfl (by decide) _ _ _ rfl (HO.out.alloc _) ⟨wr.heap.size, 0, none⟩ 1 1 [.int .u8 y] rfl rfl (cell_one_new _ _ _) (by simp [Value.oneCell']) ?c1 ?c2 ?c3 ?_)
      case c1 => simp only [maxLen]; omega
      case c2 => omega
      case c3 => have := HB.out.size; simp; omega
      intro v' w1 hown' hg _ _
      have HO' : Hid (w1.ownsRow w.heap.size 5 1 v' (8 * k + (3 + 1)) (Ls.nums .u8 (bytesL (xs.take k) ++ (bytesW x).take (3 + 1)))) := Lib.hid (by rw [HY.out, HY2.out]; simpa [Ls.nums, List.append_assoc] using hown')
      have HB' : Hid (Below w.heap.size w w1) := Lib.hid ((HB.out.alloc HB.out.size _).grown hg (by have := HB.out.size; simp; omega) (Ls.own_base HO.out))
      clear hown' hg HO HB hb hcc
      go_wp2
      go_roundw
      case rel => exact ⟨3 + 1, by omega, rfl, HO', HB'⟩
      case measure => simp [intOf]
     ·obtain ⟨y, hy⟩ : ∃ y, byteAt x 4 = y := ⟨_, rfl⟩
      have HY2 := Lib.hid hy
      have hb : x / 4294967296 % 256 = y := by rw [← hy]; rfl
      clear hy
      go_wp2_with (at_builtin; refine wpList_append_own_at _ rfl _ _ 34 rfl w.heap.size 5 i0 (.int .u8 0) 1 1 Tryd.underlying34 hi hz0 hz1 hz2 rfl (by decide) _ _ _ rfl (HO.out.alloc _) ⟨wr.heap.size, 0, none⟩ 1 1 [.int .u8 y] rfl rfl (cell_one_new _ _ _) (by simp [Value.oneCell']) ?c1 ?c2 ?c3 ?_)
      case c1 => simp only [maxLen]; omega
      case c2 => omega
      case c3 => have := HB.out.size; simp; omega
      intro v' w1 hown' hg _ _
      have HO' : Hid (w1.ownsRow w.heap.size 5 1 v' (8 * k + (4 + 1)) (Ls.nums .u8 (bytesL (xs.take k) ++ (bytesW x).take (4 + 1)))) := Lib.hid (by rw [HY.out, HY2.out]; simpa [Ls.nums, List.append_assoc] using hown')
      have HB' : Hid (Below w.heap.size w w1) := Lib.hid ((HB.out.alloc HB.out.size _).grown hg (by have := HB.out.size; simp; omega) (Ls.own_base HO.out))
      clear hown' hg HO HB hb hcc
      go_wp2
      go_roundw
      case rel => exact ⟨4 + 1, by omega, rfl, HO', HB'⟩
      case measure => simp [intOf]
     ·obtain ⟨y, hy⟩ : ∃ y, byteAt x 5 = y := ⟨_, rfl⟩
      have HY2 := Lib.hid hy
      have hb : x / 1099511627776 % 256 = y := by rw [← hy]; rfl
      clear hy
      go_wp2_with (at_builtin; refine wpList_append_own_at _ rfl _ _ 34 rfl w.heap.size 5 i0 (.int .u8 0) 1 1 Tryd.underlying34 hi hz0 hz1 hz2 rfl (by decide) _ _ _ rfl (HO.out.alloc _) ⟨wr.heap.size, 0, none⟩ 1 1 [.int .u8 y] rfl rfl (cell_one_new _ _ _) (by simp [Value.oneCell']) ?c1 ?c2 ?c3 ?_)
      case c1 => simp only [maxLen]; omega
      case c2 => omega
      case c3 => have := HB.out.size; simp; omega
      intro v' w1 hown' hg _ _
      have HO' : Hid (w1.ownsRow w.heap.size 5 1 v' (8 * k + (5 + 1)) (Ls.nums .u8 (bytesL (xs.take k) ++ (bytesW x).take (5 + 1)))) := Lib.hid (by rw [HY.out, HY2.out]; simpa [Ls.nums, List.append_assoc] using hown')
      have HB' : Hid (Below w.heap.size w w1) := Lib.hid ((HB.out.alloc HB.out.size _).grown hg (by have := HB.out.size; simp; omega) (Ls.own_base HO.out))
      clear hown' hg HO HB hb hcc
      go_wp2
      go_roundw
      case rel => exact ⟨5 + 1, by omega, rfl, HO', HB'⟩
      case measure => simp [intOf]
     ·obtain ⟨y, hy⟩ : ∃ y, byteAt x 6 = y := ⟨_, rfl⟩
      have HY2 := Lib.hid hy
      have hb : x / 281474976710656 % 256 = y := by rw [← hy]; rfl
      clear hy
      go_wp2_with (at_builtin; refine wpList_append_own_at _ rfl _ _ 34 rfl w.heap.size 5 i0 (.int .u8 0) 1 1 Tryd.underlying34 hi hz0 hz1 hz2 rfl (by decide) _ _ _ rfl (HO.out.alloc _) ⟨wr.heap.size, 0, none⟩ 1 1 [.int .u8 y] rfl rfl (cell_one_new _ _ _) (by simp [Value.oneCell']) ?c1 ?c2 ?c3 ?_)
      case c1 => simp only [maxLen]; omega
      case c2 => omega
      case c3 => have := HB.out.size; simp; omega
      intro v' w1 hown' hg _ _
      have HO' : Hid (w1.ownsRow w.heap.size 5 1 v' (8 * k + (6 + 1)) (Ls.nums .u8 (bytesL (xs.take k) ++ (bytesW x).take (6 + 1)))) := Lib.hid (by rw [HY.out, HY2.out]; simpa [Ls.nums, List.append_assoc] using hown')
      have HB' : Hid (Below w.heap.size w w1) := Lib.hid ((HB.out.alloc HB.out.size _).grown hg (by have := HB.out.size; simp; omega) (Ls.own_base HO.out))
      clear hown' hg HO HB hb hcc
      go_wp2
      go_roundw
      case rel => exact ⟨6 + 1, by omega, rfl, HO', HB'⟩
      case measure => simp [intOf]
     ·obtain ⟨y, hy⟩ : ∃ y, byteAt x 7 = y := ⟨_, rfl⟩
      have HY2 := Lib.hid hy
      have hb : x / 72057594037927936 = y := by rw [← hy]; show _ = x / 72057594037927936 % 256; omega
      clear hy
      go_wp2_with (at_builtin; refine wpList_append_own_at _ rfl _ _ 34 rfl w.heap.size 5 i0 (.int .u8 0) 1 1 Tryd.underlying34 hi hz0 hz1 hz2 rfl (by decide) _ _ _ rfl (HO.out.alloc _) ⟨wr.heap.size, 0, none⟩ 1 1 [.int .u8 y] rfl rfl (cell_one_new _ _ _) (by simp [Value.oneCell']) ?c1 ?c2 ?c3 ?_)
      case c1 => simp only [maxLen]; omega
      case c2 => omega
      case c3 => have := HB.out.size; simp; omega
      intro v' w1 hown' hg _ _
      have HO' : Hid (w1.ownsRow w.heap.size 5 1 v' (8 * k + (7 + 1)) (Ls.nums .u8 (bytesL (xs.take k) ++ (bytesW x).take (7 + 1)))) := Lib.hid (by rw [HY.out, HY2.out]; simpa [Ls.nums, List.append_assoc] using hown')
      have HB' : Hid (Below w.heap.size w w1) := Lib.hid ((HB.out.alloc HB.out.size _).grown hg (by have := HB.out.size; simp; omega) (Ls.own_base HO.out))
      clear hown' hg HO HB hb hcc
      go_wp2
      go_roundw
      case rel => exact ⟨7 + 1, by omega, rfl, HO', HB'⟩
      case measure => simp [intOf]
    ·obtain rfl : j = 8 := by omega
     have HO' : Hid (wr.ownsRow w.heap.size 5 1 u3 (8 * (k + 1)) (Ls.nums .u8 (bytesL (xs.take (k + 1))))) := Lib.hid (by have := HO.out; rw [HT.out]; simpa [bytesW, Nat.mul_add] using this)
     clear HO
     go_wp2
     go_roundw
     case rel => exact ⟨k + 1, by omega, by go_num, HO', HB⟩
     case measure => simp [intOf]; omega
  ·obtain rfl : n = k := by omega
   go_wp2
   go_ret
   have := HO.out
   rw [List.take_of_length_le (by rw [HL.out]; exact Nat.le_refl _)] at this
   exact ⟨⟨_, rfl, by rw [← HCC.out]; exact this⟩, HB.out⟩
end Go.Proofs.YtidglmocekghmaaDoor.Pr
end
section
namespace Go.Proofs.YtidglmocekghmaaDoor.Pr
open Go.RowKit Go.Proofs.YtidglmocekghmaaDoorW.PrintWords Go.Proofs.YtidglmocekghmaaDoorW.PrintLast Go.Proofs.YtidglmocekghmaaDoorW.PrintMore
set_option linter.unusedVariables false
set_option linter.unusedSimpArgs false
theorem trimE_eq (e c : Int) (xs : List Int) : Ls.trimL e c xs = trimE e c xs := rfl
theorem bytesL_range (xs : List Int) : ∀ y ∈ bytesL xs, 0 ≤ y ∧ y ≤ 255 := by
 induction xs with
 | nil => simp [bytesL]
 | cons x xs ih =>
  intro y hy
  rw [bytesL, List.mem_append] at hy
  rcases hy with hy | hy
  ·simp [bytesW] at hy; omega
  ·exact ih y hy
theorem getD_range {xs : List Int} (h : ∀ y ∈ xs, 0 ≤ y ∧ y ≤ 255) (j : Nat) : 0 ≤ xs.getD j 0 ∧ xs.getD j 0 ≤ 255 := by
 by_cases hj : j < xs.length
 ·simp only [List.getD_eq_getElem?_getD, List.getElem?_eq_getElem hj, Option.getD_some]
  exact h _ (List.getElem_mem hj)
 ·simp only [List.getD_eq_getElem?_getD, List.getElem?_eq_none (by omega : xs.length ≤ j), Option.getD_none]; omega
theorem trimE_range {e c : Int} {xs : List Int} (h : ∀ y ∈ xs, 0 ≤ y ∧ y ≤ 255) : ∀ y ∈ trimE e c xs, 0 ≤ y ∧ y ≤ 255 := by
 intro y hy
 unfold trimE at hy
 split at hy
 ·rename_i hc
  rcases List.mem_or_eq_of_mem_set hy with hy | rfl
  ·exact h y (List.mem_of_mem_take hy)
  ·have hg := getD_range h ((bytesE e c).toNat - 1)
   have hp : (0 : Int) < 2 ^ (c % 8).toNat := Int.pow_pos (by decide)
   have h0 := Int.emod_nonneg (xs.getD ((bytesE e c).toNat - 1) 0) (Int.ne_of_gt hp)
   have h1 : xs.getD ((bytesE e c).toNat - 1) 0 % 2 ^ (c % 8).toNat ≤ xs.getD ((bytesE e c).toNat - 1) 0 := by
    rcases Int.lt_or_le (xs.getD ((bytesE e c).toNat - 1) 0) (2 ^ (c % 8).toNat) with hl | hl
    ·rw [Int.emod_eq_of_lt hg.1 hl]; exact Int.le_refl _
    ·exact Int.le_trans (Int.le_of_lt (Int.emod_lt_of_pos _ hp)) hl
   omega
 ·exact h y (List.mem_of_mem_take hy)
theorem bytes_inj {xs ys : List Int} (hx : ∀ y ∈ xs, 0 ≤ y ∧ y ≤ 255) (hy : ∀ y ∈ ys, 0 ≤ y ∧ y ≤ 255) (h : (xs.map fun n => UInt8.ofNat n.toNat) = ys.map fun n => UInt8.ofNat n.toNat) : xs = ys := by
 induction xs generalizing ys with
 | nil => cases ys with
  | nil => rfl
  | cons y ys => simp at h
 | cons x xs ih => cases ys with
  | nil => simp at h
  | cons y ys =>
   simp only [List.map_cons, List.cons.injEq] at h
   have e1 := congrArg UInt8.toNat h.1
   have hx0 := hx x List.mem_cons_self
   have hy0 := hy y List.mem_cons_self
   simp only [UInt8.toNat_ofNat'] at e1
   rw [Nat.mod_eq_of_lt (by omega), Nat.mod_eq_of_lt (by omega)] at e1
   have e2 : x = y := by omega
   rw [e2, ih (fun z hz => hx z (List.mem_cons_of_mem _ hz)) (fun z hz => hy z (List.mem_cons_of_mem _ hz)) h.2]
theorem str_eq {xs ys : List Int} (hx : ∀ y ∈ xs, 0 ≤ y ∧ y ≤ 255) (hy : ∀ y ∈ ys, 0 ≤ y ∧ y ≤ 255) : ((strOfNums xs).toList == (strOfNums ys).toList) = decide (xs = ys) := by
 by_cases h : xs = ys
 ·subst h; simp
 ·rw [decide_eq_false h]
  refine beq_eq_false_iff_ne.2 fun e => h (bytes_inj hx hy ?_)
  rw [ByteArray.toList_eq, ByteArray.toList_eq, strOfNums_data, strOfNums_data] at e
  exact e
theorem wordsE_bdC {e c : Int} (h0 : 0 ≤ e) (h7 : e ≤ 7) (hc : 0 ≤ c) : 0 ≤ wordsE e c ∧ wordsE e c ≤ c + 1 := by
 unfold wordsE bitsE
 rcases Ls.cases8 h0 h7 with rfl | rfl | rfl | rfl | rfl | rfl | rfl | rfl <;> simp <;> omega
theorem bytesE_bdC {e c : Int} (h0 : 0 ≤ e) (h5 : e ≤ 5) (hc : 0 ≤ c) : 0 ≤ bytesE e c ∧ bytesE e c ≤ 8 * wordsE e c := by
 unfold bytesE wordsE bitsE
 rcases Ls.cases8 h0 (by omega) with rfl | rfl | rfl | rfl | rfl | rfl | rfl | rfl <;> simp <;> omega
end Go.Proofs.YtidglmocekghmaaDoor.Pr
end
section
namespace Go.Proofs.YtidglmocekghmaaDoor.Pr
open Go.RowKit Go.Proofs.YtidglmocekghmaaDoorW.PrintWords Go.Proofs.YtidglmocekghmaaDoorW.PrintLast Go.Proofs.YtidglmocekghmaaDoorW.PrintMore
set_option linter.unusedVariables false
set_option linter.unusedSimpArgs false
theorem own_shape {w : World} {base n : Nat} {v : Value} {xs : List Int} (h : w.ownsRow base 5 1 v n (Ls.nums .u8 xs)) (hx : ∀ y ∈ xs, 0 ≤ y ∧ y ≤ 255) : ∃ A c, v = .slice A n c ∧ n ≤ c ∧ (A = none → n = 0) ∧ Ls.Rd w A n xs ∧ (Kd.int .u8).C w A n xs := by
 have hl : xs.length = n := by have := h.1; simpa [Ls.nums] using this
 obtain ⟨A, c, rfl, hR⟩ := Ls.own_rd h (getD_range hx)
 have hR' : (Kd.int .u8).R 5 w base (fun _ => True) (.slice A n c) xs := Kd.R_of_own (by rw [hl]; exact h) (fun _ _ => trivial)
 obtain ⟨_, hc, hC⟩ := Kd.R_reads' hR'
 refine ⟨A, c, rfl, hc, fun hA => ?_, hR, by rw [← hl]; exact hC⟩
 subst hA
 rcases h.2 with ⟨_, h0⟩ | ⟨g, cap, cur, e, _⟩
 ·exact h0
 ·cases e
theorem R_of_nums {w : World} {base n : Nat} {v : Value} {xs : List Int} (h : w.ownsRow base 5 1 v n (Ls.nums .u8 xs)) : (Kd.int .u8).R 5 w base (fun _ => True) v xs := by
 have hl : xs.length = n := by have := h.1; simpa [Ls.nums] using this
 exact Kd.R_of_own (by rw [hl]; exact h) (fun _ _ => trivial)
theorem R_shape {w : World} {base : Nat} {v : Value} {xs : List Int} (h : (Kd.int .u8).R 5 w base (fun _ => True) v xs) : (v = .slice none 0 0 ∧ xs = []) ∨ ∃ a c, v = .slice (some a) xs.length c ∧ xs.length ≤ c ∧ c ≤ 9223372036854775807 ∧ (Kd.int .u8).C w (some a) xs.length xs := by
 obtain ⟨inner, ho⟩ := Kd.R_own h
 obtain ⟨A, c, rfl, hc, hC⟩ := Kd.R_reads h
 rcases ho.2 with ⟨e, h0⟩ | ⟨g, cap, cur, e, _, _, h1, h2, _⟩
 ·exact .inl ⟨e, List.eq_nil_of_length_eq_zero h0⟩
 ·cases e
  exact .inr ⟨_, _, rfl, h1, by simpa [maxLen] using h2, hC⟩
theorem wd_take {s : List Int} {nx n j : Nat} (hj : j < n) : wd ((s.drop nx).take n) j = wd s (nx + j) := by
 unfold wd
 simp [List.getD_eq_getElem?_getD, List.getElem?_take, hj]
set_option maxHeartbeats 4000000 in
theorem list_1 {W0 w : World} {s : List Int} {cp g nx m : Nat} {D Wd O : Int} {sb so at_ c n : Nat} {off depth ee : Int} (hE : Env W0 s (some ⟨sb, so, none⟩)) (hK : Ck W0 s (some ⟨sb, so, none⟩) cp D Wd O g nx m w) (ha : at_ ≤ 17592186040320) (ho0 : -536870912 ≤ off) (ho1 : off ≤ 536870911) (hc0 : c ≤ 536870911) (hx : nx ≤ s.length) (hm : m ≤ 4611686018427387904) (hcp : s.length ≤ cp) (he0 : 0 ≤ ee) (he7 : ee ≤ 7) (hn7 : ¬ ee = 7) (hn : wordsE ee c = (n : Int)) (hnb : n ≤ 536870912) (hob : ¬ objM s at_ off n nx = true) :
  Calls Tryd.prog 34 #[.pointer (some ⟨g, 0, none⟩), .int .i64 at_, .int .i64 depth, .agg #[.int .i64 1, .int .i64 off, .int .i64 0, .int .i64 0, .int .i64 ee, .int .i64 c, .bool false, .int .i64 0, .int .u32 0, .int .u32 0]] w fun e w' => e = .panicked [{ v := .iface 47 (.agg #[]), recovered := false }] ∧ Gr g w w' := by
 have HLEN := Lib.hid hE.len
 have hlen := hE.len
 have t7 : (ee == 7) = false := beq_eq_false_iff_ne.2 hn7
 have HN := Lib.hid hn
 have hTab := hE.tab.below hK.below
 clear hn hn7
 have GK := Lib.hid (Gr.refl g w)
 have CK := Lib.hid hK
 have HE := Lib.hid hE
 clear hE hK
 go_enter Tryd.func34, Tryd.ntmps34
 go_wp2_with fail
 have HTB := Lib.hid hTab
 clear hTab
 have lg : g < w.heap.size := blk_lt CK.out.blk
 refine calls_at (fun wa hW => ?_)
 have hb : Below w.heap.size w wa := by rw [hW]; exact (Below.refl _ _).alloc (Nat.le_refl _) _
 have nB : wa.heap[w.heap.size]? = some (.cells #[.int .i64 1, .int .i64 off, .int .i64 0, .int .i64 0, .int .i64 ee, .int .i64 c, .bool false, .int .i64 0, .int .u32 0, .int .u32 0] 67 (0, 0)) := by rw [hW]; exact heap_alloc_new _ _
 have neB : w.heap.size ≠ g := by omega
 clear hW lg
 replace GK := Lib.hid (GK.out.then hb)
 replace CK := Lib.hid (CK.out.then hb)
 replace HTB := Lib.hid (HTB.out.below hb)
 clear hb
 have B := Lib.hid nB
 clear nB
 refine (Ls.words_any ee c he0 he7 (by omega) (by omega) wa HTB.out).mono ?_
 rintro e wy ⟨rfl, rfl⟩
 rw [show Ls.wordsOf ee (c : Int) = (n : Int) from HN.out]
 have l_B : w.heap.size < wa.heap.size := blk_lt B.out
 have q_B_0 := cq0 ⟨B.out⟩
 have q_B_1 := cq1 ⟨B.out⟩
 have q_B_2 := cq2 ⟨B.out⟩
 have q_B_3 := cq3 ⟨B.out⟩
 have q_B_4 := cq4 ⟨B.out⟩
 have q_B_5 := cq5 ⟨B.out⟩
 have q_B_6 := cq6 ⟨B.out⟩
 have q_B_7 := cq7 ⟨B.out⟩
 have q_B_8 := cq8 ⟨B.out⟩
 have q_B_9 := cq9 ⟨B.out⟩
 go_wp2_with fail
 clear l_B q_B_0 q_B_1 q_B_2 q_B_3 q_B_4 q_B_5 q_B_6 q_B_7 q_B_8 q_B_9
 clear HTB
 refine (object_no HE.out CK.out ha ⟨ho0, ho1⟩ (by omega) hx hcp hob).mono ?_
 rintro e w1 ⟨rfl, hg⟩
 have hg' := GK.out.trans hg
 clear hg
 go_wp2
 exact ⟨rfl, rfl, hg'⟩
set_option maxHeartbeats 4000000 in
theorem list_2 {W0 w : World} {s : List Int} {cp g nx m : Nat} {D Wd O : Int} {sb so at_ c n : Nat} {off depth ee : Int} (hE : Env W0 s (some ⟨sb, so, none⟩)) (hK : Ck W0 s (some ⟨sb, so, none⟩) cp D Wd O g nx m w) (ha : at_ ≤ 17592186040320) (ho0 : -536870912 ≤ off) (ho1 : off ≤ 536870911) (hc0 : c ≤ 536870911) (hx : nx ≤ s.length) (hm : m ≤ 4611686018427387904) (hcp : s.length ≤ cp) (he0 : 0 ≤ ee) (he7 : ee ≤ 7) (hn7 : ¬ ee = 7) (hn : wordsE ee c = (n : Int)) (hnb : n ≤ 536870912) (hob : objM s at_ off n nx = true) (hch : ¬ n ≤ m) :
  Calls Tryd.prog 34 #[.pointer (some ⟨g, 0, none⟩), .int .i64 at_, .int .i64 depth, .agg #[.int .i64 1, .int .i64 off, .int .i64 0, .int .i64 0, .int .i64 ee, .int .i64 c, .bool false, .int .i64 0, .int .u32 0, .int .u32 0]] w fun e w' => e = .panicked [{ v := .iface 47 (.agg #[]), recovered := false }] ∧ Gr g w w' := by
 have HLEN := Lib.hid hE.len
 have hlen := hE.len
 have t7 : (ee == 7) = false := beq_eq_false_iff_ne.2 hn7
 have HN := Lib.hid hn
 have hTab := hE.tab.below hK.below
 clear hn hn7
 have GK := Lib.hid (Gr.refl g w)
 have CK := Lib.hid hK
 have HE := Lib.hid hE
 clear hE hK
 go_enter Tryd.func34, Tryd.ntmps34
 go_wp2_with fail
 have HTB := Lib.hid hTab
 clear hTab
 have lg : g < w.heap.size := blk_lt CK.out.blk
 refine calls_at (fun wa hW => ?_)
 have hb : Below w.heap.size w wa := by rw [hW]; exact (Below.refl _ _).alloc (Nat.le_refl _) _
 have nB : wa.heap[w.heap.size]? = some (.cells #[.int .i64 1, .int .i64 off, .int .i64 0, .int .i64 0, .int .i64 ee, .int .i64 c, .bool false, .int .i64 0, .int .u32 0, .int .u32 0] 67 (0, 0)) := by rw [hW]; exact heap_alloc_new _ _
 have neB : w.heap.size ≠ g := by omega
 clear hW lg
 replace GK := Lib.hid (GK.out.then hb)
 replace CK := Lib.hid (CK.out.then hb)
 replace HTB := Lib.hid (HTB.out.below hb)
 clear hb
 have B := Lib.hid nB
 clear nB
 refine (Ls.words_any ee c he0 he7 (by omega) (by omega) wa HTB.out).mono ?_
 rintro e wy ⟨rfl, rfl⟩
 rw [show Ls.wordsOf ee (c : Int) = (n : Int) from HN.out]
 have l_B : w.heap.size < wa.heap.size := blk_lt B.out
 have q_B_0 := cq0 ⟨B.out⟩
 have q_B_1 := cq1 ⟨B.out⟩
 have q_B_2 := cq2 ⟨B.out⟩
 have q_B_3 := cq3 ⟨B.out⟩
 have q_B_4 := cq4 ⟨B.out⟩
 have q_B_5 := cq5 ⟨B.out⟩
 have q_B_6 := cq6 ⟨B.out⟩
 have q_B_7 := cq7 ⟨B.out⟩
 have q_B_8 := cq8 ⟨B.out⟩
 have q_B_9 := cq9 ⟨B.out⟩
 go_wp2_with fail
 clear l_B q_B_0 q_B_1 q_B_2 q_B_3 q_B_4 q_B_5 q_B_6 q_B_7 q_B_8 q_B_9
 clear HTB
 refine (object_yes HE.out CK.out ha ⟨ho0, ho1⟩ (by omega) hx hcp hob).mono ?_
 rintro e w1 ⟨rfl, hg, hc⟩
 have gB : Hid (Gr g wa w1) := Lib.hid hg
 replace B := Lib.hid (gB.out.blk B.out neB)
 replace GK := Lib.hid (GK.out.trans gB.out)
 clear gB
 clear CK
 have CK := Lib.hid hc
 clear hg hc
 go_wp2_with fail
 refine (charge_bad HE.out CK.out hch (by omega) (by omega)).mono ?_
 rintro e w2 (⟨q, hq, _⟩ | ⟨_, rfl, hg⟩)
 ·cases hq
 have hg' := GK.out.trans hg
 clear hg
 go_wp2
 exact ⟨rfl, rfl, hg'⟩
set_option maxHeartbeats 4000000 in
theorem list_3 {W0 w : World} {s : List Int} {cp g nx m : Nat} {D Wd O : Int} {sb so at_ c n : Nat} {off depth ee : Int} (hE : Env W0 s (some ⟨sb, so, none⟩)) (hK : Ck W0 s (some ⟨sb, so, none⟩) cp D Wd O g nx m w) (ha : at_ ≤ 17592186040320) (ho0 : -536870912 ≤ off) (ho1 : off ≤ 536870911) (hc0 : c ≤ 536870911) (hx : nx ≤ s.length) (hm : m ≤ 4611686018427387904) (hcp : s.length ≤ cp) (he0 : 0 ≤ ee) (he7 : ee ≤ 7) (hn7 : ¬ ee = 7) (hn : wordsE ee c = (n : Int)) (hnb : n ≤ 536870912) {v : Nat → Nat → Nat → Option (Nat × Nat)} (hv : InM s v) (hd0_ : 0 ≤ depth) (hd1_ : depth ≤ 1000000) (hV : VisC W0 s (some ⟨sb, so, none⟩) cp D Wd O g v (depth + 1)) (h6 : ee = 6) (hob : objM s at_ off n nx = true) (hch : n ≤ m) :
  Calls Tryd.prog 34 #[.pointer (some ⟨g, 0, none⟩), .int .i64 at_, .int .i64 depth, .agg #[.int .i64 1, .int .i64 off, .int .i64 0, .int .i64 0, .int .i64 ee, .int .i64 c, .bool false, .int .i64 0, .int .u32 0, .int .u32 0]] w fun e w' => EndM W0 s (some ⟨sb, so, none⟩) cp D Wd O g w (ptrsM v n nx (nx + n) (m - n)) e w' := by
 have HLEN := Lib.hid hE.len
 have hlen := hE.len
 have t7 : (ee == 7) = false := beq_eq_false_iff_ne.2 hn7
 have HN := Lib.hid hn
 have hTab := hE.tab.below hK.below
 clear hn hn7
 have HI := Lib.hid hv
 have HV := Lib.hid hV
 clear hv hV
 have t6 : (ee == 6) = true := beq_iff_eq.2 h6
 clear h6
 have GK := Lib.hid (Gr.refl g w)
 have CK := Lib.hid hK
 have HE := Lib.hid hE
 clear hE hK
 go_enter Tryd.func34, Tryd.ntmps34
 go_wp2_with fail
 have HTB := Lib.hid hTab
 clear hTab
 have lg : g < w.heap.size := blk_lt CK.out.blk
 refine calls_at (fun wa hW => ?_)
 have hb : Below w.heap.size w wa := by rw [hW]; exact (Below.refl _ _).alloc (Nat.le_refl _) _
 have nB : wa.heap[w.heap.size]? = some (.cells #[.int .i64 1, .int .i64 off, .int .i64 0, .int .i64 0, .int .i64 ee, .int .i64 c, .bool false, .int .i64 0, .int .u32 0, .int .u32 0] 67 (0, 0)) := by rw [hW]; exact heap_alloc_new _ _
 have neB : w.heap.size ≠ g := by omega
 clear hW lg
 replace GK := Lib.hid (GK.out.then hb)
 replace CK := Lib.hid (CK.out.then hb)
 replace HTB := Lib.hid (HTB.out.below hb)
 clear hb
 have B := Lib.hid nB
 clear nB
 refine (Ls.words_any ee c he0 he7 (by omega) (by omega) wa HTB.out).mono ?_
 rintro e wy ⟨rfl, rfl⟩
 rw [show Ls.wordsOf ee (c : Int) = (n : Int) from HN.out]
 have l_B : w.heap.size < wa.heap.size := blk_lt B.out
 have q_B_0 := cq0 ⟨B.out⟩
 have q_B_1 := cq1 ⟨B.out⟩
 have q_B_2 := cq2 ⟨B.out⟩
 have q_B_3 := cq3 ⟨B.out⟩
 have q_B_4 := cq4 ⟨B.out⟩
 have q_B_5 := cq5 ⟨B.out⟩
 have q_B_6 := cq6 ⟨B.out⟩
 have q_B_7 := cq7 ⟨B.out⟩
 have q_B_8 := cq8 ⟨B.out⟩
 have q_B_9 := cq9 ⟨B.out⟩
 go_wp2_with fail
 clear l_B q_B_0 q_B_1 q_B_2 q_B_3 q_B_4 q_B_5 q_B_6 q_B_7 q_B_8 q_B_9
 clear HTB
 refine (object_yes HE.out CK.out ha ⟨ho0, ho1⟩ (by omega) hx hcp hob).mono ?_
 rintro e w1 ⟨rfl, hg, hc⟩
 have gB : Hid (Gr g wa w1) := Lib.hid hg
 replace B := Lib.hid (gB.out.blk B.out neB)
 replace GK := Lib.hid (GK.out.trans gB.out)
 clear gB
 clear CK
 have CK := Lib.hid hc
 clear hg hc
 go_wp2_with fail
 refine (charge_ok HE.out CK.out hch (by omega) (by omega)).mono ?_
 rintro e w2 (⟨q, hq, rfl, hg, hc⟩ | ⟨hq, _⟩)
 rotate_left
 ·cases hq
 cases hq
 have gB : Hid (Gr g w1 w2) := Lib.hid hg
 replace B := Lib.hid (gB.out.blk B.out neB)
 replace GK := Lib.hid (GK.out.trans gB.out)
 clear gB
 clear CK
 have CK := Lib.hid hc
 clear hg hc
 have l_B : w.heap.size < w2.heap.size := blk_lt B.out
 have q_B_0 := cq0 ⟨B.out⟩
 have q_B_1 := cq1 ⟨B.out⟩
 have q_B_2 := cq2 ⟨B.out⟩
 have q_B_3 := cq3 ⟨B.out⟩
 have q_B_4 := cq4 ⟨B.out⟩
 have q_B_5 := cq5 ⟨B.out⟩
 have q_B_6 := cq6 ⟨B.out⟩
 have q_B_7 := cq7 ⟨B.out⟩
 have q_B_8 := cq8 ⟨B.out⟩
 have q_B_9 := cq9 ⟨B.out⟩
 go_wp2_with fail
 clear l_B q_B_0 q_B_1 q_B_2 q_B_3 q_B_4 q_B_5 q_B_6 q_B_7 q_B_8 q_B_9
 refine (pointers_any HE.out CK.out HI.out hd0_ hd1_ HV.out (objM_in hob).2 (objM_in hob).2 (by omega)).mono ?_
 rintro e w3 (⟨q, hq, rfl, hg, hc⟩ | ⟨hq, rfl, hg⟩)
 ·have hg' := GK.out.trans hg
  have HQ := Lib.hid hq
  clear hq hg
  go_wp2
  refine bodyPost_ret (results_none rfl _ _ _) rfl ?_
  exact .inl ⟨q, HQ.out, rfl, hg', hc⟩
 ·have hg' := GK.out.trans hg
  have HQ := Lib.hid hq
  clear hq hg
  go_wp2
  exact ⟨rfl, .inr ⟨HQ.out, rfl, hg'⟩⟩
set_option maxHeartbeats 4000000 in
theorem list_t {W0 w : World} {s : List Int} {cp g nx m : Nat} {D Wd O : Int} {sb so at_ c n : Nat} {off depth ee : Int} (hE : Env W0 s (some ⟨sb, so, none⟩)) (hK : Ck W0 s (some ⟨sb, so, none⟩) cp D Wd O g nx m w) (ha : at_ ≤ 17592186040320) (ho0 : -536870912 ≤ off) (ho1 : off ≤ 536870911) (hc0 : c ≤ 536870911) (hx : nx ≤ s.length) (hm : m ≤ 4611686018427387904) (hcp : s.length ≤ cp) (he0 : 0 ≤ ee) (he7 : ee ≤ 7) (hn7 : ¬ ee = 7) (hn : wordsE ee c = (n : Int)) (hnb : n ≤ 536870912) (h6 : ¬ ee = 6) (hob : objM s at_ off n nx = true) (hch : n ≤ m) (hn0 : 0 < n) (hr : restM s ee c nx n = true) :
  Calls Tryd.prog 34 #[.pointer (some ⟨g, 0, none⟩), .int .i64 at_, .int .i64 depth, .agg #[.int .i64 1, .int .i64 off, .int .i64 0, .int .i64 0, .int .i64 ee, .int .i64 c, .bool false, .int .i64 0, .int .u32 0, .int .u32 0]] w fun e w' => (e = .returned (.tuple #[]) ∧ Gr g w w' ∧ Ck W0 s (some ⟨sb, so, none⟩) cp D Wd O g (nx + n) (m - n) w') := by
 have HLEN := Lib.hid hE.len
 have hlen := hE.len
 have t7 : (ee == 7) = false := beq_eq_false_iff_ne.2 hn7
 have HN := Lib.hid hn
 have hTab := hE.tab.below hK.below
 clear hn
 have t6 : (ee == 6) = false := beq_eq_false_iff_ne.2 h6
 have HR := Lib.hid hr
 clear hr
 have GK := Lib.hid (Gr.refl g w)
 have CK := Lib.hid hK
 have HE := Lib.hid hE
 clear hE hK
 go_enter Tryd.func34, Tryd.ntmps34
 go_wp2_with fail
 have HTB := Lib.hid hTab
 clear hTab
 have lg : g < w.heap.size := blk_lt CK.out.blk
 refine calls_at (fun wa hW => ?_)
 have hb : Below w.heap.size w wa := by rw [hW]; exact (Below.refl _ _).alloc (Nat.le_refl _) _
 have nB : wa.heap[w.heap.size]? = some (.cells #[.int .i64 1, .int .i64 off, .int .i64 0, .int .i64 0, .int .i64 ee, .int .i64 c, .bool false, .int .i64 0, .int .u32 0, .int .u32 0] 67 (0, 0)) := by rw [hW]; exact heap_alloc_new _ _
 have neB : w.heap.size ≠ g := by omega
 clear hW lg
 replace GK := Lib.hid (GK.out.then hb)
 replace CK := Lib.hid (CK.out.then hb)
 replace HTB := Lib.hid (HTB.out.below hb)
 clear hb
 have B := Lib.hid nB
 clear nB
 refine (Ls.words_any ee c he0 he7 (by omega) (by omega) wa HTB.out).mono ?_
 rintro e wy ⟨rfl, rfl⟩
 rw [show Ls.wordsOf ee (c : Int) = (n : Int) from HN.out]
 have l_B : w.heap.size < wa.heap.size := blk_lt B.out
 have q_B_0 := cq0 ⟨B.out⟩
 have q_B_1 := cq1 ⟨B.out⟩
 have q_B_2 := cq2 ⟨B.out⟩
 have q_B_3 := cq3 ⟨B.out⟩
 have q_B_4 := cq4 ⟨B.out⟩
 have q_B_5 := cq5 ⟨B.out⟩
 have q_B_6 := cq6 ⟨B.out⟩
 have q_B_7 := cq7 ⟨B.out⟩
 have q_B_8 := cq8 ⟨B.out⟩
 have q_B_9 := cq9 ⟨B.out⟩
 go_wp2_with fail
 clear l_B q_B_0 q_B_1 q_B_2 q_B_3 q_B_4 q_B_5 q_B_6 q_B_7 q_B_8 q_B_9
 clear HTB
 refine (object_yes HE.out CK.out ha ⟨ho0, ho1⟩ (by omega) hx hcp hob).mono ?_
 rintro e w1 ⟨rfl, hg, hc⟩
 have gB : Hid (Gr g wa w1) := Lib.hid hg
 replace B := Lib.hid (gB.out.blk B.out neB)
 replace GK := Lib.hid (GK.out.trans gB.out)
 clear gB
 clear CK
 have CK := Lib.hid hc
 clear hg hc
 go_wp2_with fail
 refine (charge_ok HE.out CK.out hch (by omega) (by omega)).mono ?_
 rintro e w2 (⟨q, hq, rfl, hg, hc⟩ | ⟨hq, _⟩)
 rotate_left
 ·cases hq
 cases hq
 have gB : Hid (Gr g w1 w2) := Lib.hid hg
 replace B := Lib.hid (gB.out.blk B.out neB)
 replace GK := Lib.hid (GK.out.trans gB.out)
 clear gB
 clear CK
 have CK := Lib.hid hc
 clear hg hc
 have l_B : w.heap.size < w2.heap.size := blk_lt B.out
 have q_B_0 := cq0 ⟨B.out⟩
 have q_B_1 := cq1 ⟨B.out⟩
 have q_B_2 := cq2 ⟨B.out⟩
 have q_B_3 := cq3 ⟨B.out⟩
 have q_B_4 := cq4 ⟨B.out⟩
 have q_B_5 := cq5 ⟨B.out⟩
 have q_B_6 := cq6 ⟨B.out⟩
 have q_B_7 := cq7 ⟨B.out⟩
 have q_B_8 := cq8 ⟨B.out⟩
 have q_B_9 := cq9 ⟨B.out⟩
 have l_K : g < w2.heap.size := blk_lt CK.out.blk
 have q_K_0 := cq0 ⟨CK.out.blk⟩
 have s0_ : (0 : Int) ≤ (nx : Int) := Int.natCast_nonneg _
 have s1_ : (nx : Int) + (n : Int) ≤ (cp : Int) := by have := (objM_in hob).2; omega
 have s2_ : (0 : Int) ≤ (n : Int) := Int.natCast_nonneg _
 go_wp2_with fail
 clear l_B q_B_0 q_B_1 q_B_2 q_B_3 q_B_4 q_B_5 q_B_6 q_B_7 q_B_8 q_B_9 l_K q_K_0 s0_ s1_ s2_
 obtain ⟨X, hX⟩ : ∃ X, (s.drop nx).take n = X := ⟨_, rfl⟩
 have HX := Lib.hid hX
 obtain ⟨N8, h8⟩ : ∃ N, 8 * n = N := ⟨_, rfl⟩
 have H8 := Lib.hid h8
 have hXl : X.length = n := by rw [← hX]; have := (objM_in hob).2; simp; omega
 have HXL := Lib.hid hXl
 have h8b : N8 ≤ 4294967296 := by omega
 have hcw : ∀ j, j < n → w2.cell? ⟨sb, so + nx + j, none⟩ = some (.int .u64 (wd X j)) := fun j hj => by rw [← hX, wd_take hj, Nat.add_assoc]; exact wd_cell HE.out CK.out.below (by have := (objM_in hob).2; omega)
 have hbr := bytesL_range X
 refine (wbytes_at sb (so + nx) n _ X w2 hXl (by omega) (fun j => by rw [← hX]; by_cases hj : j < n; rw [wd_take hj]; exact HE.out.word _; rw [show wd ((s.drop nx).take n) j = 0 by unfold wd; rw [List.getD_eq_getElem?_getD, List.getElem?_eq_none (by simp; omega)]; rfl]; omega) hcw (fun h0 => World.block_lt_of_cell? _ _ (hcw 0 h0))).mono ?_
 rintro e w3 ⟨⟨vb, rfl, hown⟩, hb⟩
 replace GK := Lib.hid (GK.out.then hb)
 replace CK := Lib.hid (CK.out.then hb)
 replace B := Lib.hid (blk_below B.out hb)
 clear hb hcw hXl hX
 rw [H8.out] at hown
 clear h8
 obtain ⟨Ab, cb, rfl, hcb, hAb, hRb, hCb⟩ := own_shape hown hbr
 have HTB := Lib.hid (HE.out.tab.below CK.out.below)
 obtain ⟨k, hk⟩ : ∃ k : Nat, (k : Int) = bytesE ee c := ⟨(bytesE ee c).toNat, by have := (bytesE_bdC he0 (by omega : ee ≤ 5) (by omega : (0 : Int) ≤ (c : Int))).1; omega⟩
 have hk8 : k ≤ N8 := by have h1 := (bytesE_bdC he0 (by omega : ee ≤ 5) (by omega : (0 : Int) ≤ (c : Int))).2; have h2 := HN.out; have h3 := H8.out; omega
 have HKE := Lib.hid hk
 have HRB := Lib.hid hRb
 have HCB := Lib.hid hCb
 have HAB := Lib.hid hAb
 have hcb' : (N8 : Int) ≤ (cb : Int) := by omega
 clear hown hk hRb hCb hAb hcb
 have l_B : w.heap.size < w3.heap.size := blk_lt B.out
 have q_B_0 := cq0 ⟨B.out⟩
 have q_B_1 := cq1 ⟨B.out⟩
 have q_B_2 := cq2 ⟨B.out⟩
 have q_B_3 := cq3 ⟨B.out⟩
 have q_B_4 := cq4 ⟨B.out⟩
 have q_B_5 := cq5 ⟨B.out⟩
 have q_B_6 := cq6 ⟨B.out⟩
 have q_B_7 := cq7 ⟨B.out⟩
 have q_B_8 := cq8 ⟨B.out⟩
 have q_B_9 := cq9 ⟨B.out⟩
 go_wp2_with fail
 clear l_B q_B_0 q_B_1 q_B_2 q_B_3 q_B_4 q_B_5 q_B_6 q_B_7 q_B_8 q_B_9
 refine (Ls.trim_any ee c he0 (by omega) (by omega) (by omega) Ab N8 cb (bytesL X) w3 HTB.out (by omega) HAB.out (by omega) HRB.out k HKE.out hk8).mono ?_
 rintro e w4 ⟨⟨vt, rfl, hown⟩, hb4⟩
 have hRt := R_of_nums hown
 rw [trimE_eq] at hRt
 have HRT := Lib.hid hRt
 have hlt : (trimE ee c (bytesL X)).length = k := by have := hown.1; rw [trimE_eq] at this; simpa [Ls.nums] using this
 have HLT := Lib.hid hlt
 have HB4 := Lib.hid hb4
 clear hown hRt hlt hb4
 go_wp2_with ((with_reducible refine gate_builtin (b := .append) (xs := #[.tmp 56, .tmp 58]) rfl ?_); at_builtin; refine Kd.R_append_zeros (Kd.int .u8) (w0 := w3) w3.heap.size rfl (.tmp 56) (.tmp 58) 34 3 5 (.int .u8 0) 1 rfl Tryd.underlying34 Tryd.underlying3 Ls.Tryd.info5 rfl (by decide) (by omega) vt (trimE ee c (bytesL X)) (0 : Int) (N8 : Int) (fun _ => True) rfl rfl ?aZ (fun _ _ => trivial) ?aO (by omega) ?aB ?aS ?aL ?_; (case aZ => exact rfl); (case aO => exact HRT.out); (case aB => exact HB4.out); (case aS => exact HB4.out.size); (case aL => have := HLT.out; omega); intro v5 w5 ho hb hg hat; have HO5 := Lib.hid ho; have HB5 := Lib.hid hb; clear ho hb hg hat)
 replace GK := Lib.hid (GK.out.then HB5.out)
 replace CK := Lib.hid (CK.out.then HB5.out)
 replace B := Lib.hid (blk_below B.out HB5.out)
 replace HCB := Lib.hid (Kd.C_below HCB.out HB5.out)
 clear HTB HRB HB4 HRT
 obtain ⟨Y, hY⟩ : ∃ Y, (trimE ee c (bytesL X) ++ List.replicate ((N8 : Int)).toNat 0).take N8 = Y := ⟨_, rfl⟩
 have HY := Lib.hid hY
 have hll : (trimE ee c (bytesL X) ++ List.replicate ((N8 : Int)).toNat 0).length = k + N8 := by simp [HLT.out]
 have hYl : Y.length = N8 := by rw [← hY, List.length_take, hll]; omega
 have hYr : ∀ y ∈ Y, 0 ≤ y ∧ y ≤ 255 := by intro y hy; rw [← hY] at hy; have := List.mem_of_mem_take hy; rw [List.mem_append] at this; rcases this with h | h; exact trimE_range hbr y h; rw [List.eq_of_mem_replicate h]; omega
 have hbl : (bytesL X).length = N8 := by rw [bytesL_length, HXL.out]; exact H8.out
 have tE : ((strOfNums Y).toList == (strOfNums (bytesL X)).toList) = true := by rw [str_eq hYr hbr]; have h1 := HR.out; unfold restM at h1; dsimp only at h1; rw [HX.out, hbl] at h1; rw [Int.toNat_natCast] at hY; rw [hY] at h1; simpa using h1
 rcases R_shape HO5.out with ⟨_, h0⟩ | ⟨a5, c5, rfl, h51, h52, hC5⟩
 ·exfalso; have := congrArg List.length h0; rw [hll] at this; simp at this; have := H8.out; omega
 cases Ab with
 | none => exfalso; have := HAB.out rfl; have := H8.out; omega
 | some ab =>
  have hCY : (Kd.int .u8).C w5 (some a5) Y.length Y := by rw [← hY]; exact Kd.C_take hC5 (by rw [hll]; omega)
  rw [hYl] at hCY
  rw [hll] at h51 ⊢
  have cv0 := fun w' (h : (Kd.int .u8).C w' (some a5) N8 Y) => Kd.C_string (P := Tryd.prog) (src := 34) (dst := 9) (e := 5) (c := c5) Tryd.underlying34 Tryd.underlying5 Tryd.underlying9 h
  have cv1 := fun w' (h : (Kd.int .u8).C w' (some ab) N8 (bytesL X)) => Kd.C_string (P := Tryd.prog) (src := 34) (dst := 9) (e := 5) (c := cb) Tryd.underlying34 Tryd.underlying5 Tryd.underlying9 h
  have hd0 := cv0 _ (Kd.C_below hCY ((Below.refl _ _).drew))
  have hd1 := cv1 _ (Kd.C_below HCB.out ((Below.refl _ _).drew))
  have n0_ : (0 : Int) ≤ (N8 : Int) := Int.natCast_nonneg _
  have n1_ : (N8 : Int) ≤ (c5 : Int) := by omega
  have n2_ : (N8 : Int) ≤ ((k + N8 : Nat) : Int) := by omega
  have HHC := Lib.hid hYr
  have HBR := Lib.hid hbr
  have HLL := Lib.hid hll
  clear hYr hbr hll hY hYl cv0 cv1 hbl h51 HO5 hC5 hCY h52
  generalize strOfNums Y = sy at tE hd0
  generalize strOfNums (bytesL X) = sx at tE hd1
  refine start_ (n := 9) (S := fun w' => (convert 34 9 (.slice (some a5) N8 c5)).run Tryd.prog w' = .ok (.string sy) w' ∧ (convert 34 9 (.slice (some ab) N8 cb)).run Tryd.prog w' = .ok (.string sx) w') (ds := []) #[false, false, false, false, false, false, false, false, false] (by kernel_rfl) rfl rfl ⟨hd0, hd1⟩ (fun hHeld => ?_)
  obtain ⟨w3, hwd⟩ : ∃ W, W = w5.drew := ⟨_, rfl⟩
  rw [← hwd] at hHeld ⊢
  have hb : Below w5.heap.size w5 w3 := by rw [hwd]; exact (Below.refl _ _).drew
  clear hwd
  replace GK := Lib.hid (GK.out.then hb)
  replace CK := Lib.hid (CK.out.then hb)
  replace B := Lib.hid (blk_below B.out hb)
  clear hb
  refine pu 0 60 ?_
  refine pu 1 61 ?_
  refine pu 2 62 ?_
  refine pu 3 63 ?_
  refine pu 5 65 ?_
  refine tk2 4 64 hHeld ?_
  refine tk2 6 66 hHeld ?_
  refine pu 7 67 ?_
  refine one_ (i := 8) (N := some 68) #[true, true, true, true, true, true, true, true, true] rfl rfl (by kernel_rfl) (by decide) (fun K hK => ?_)
  refine goes_ Tryd.func19 (by kernel_rfl) rfl #[.bool true] (by rfl) rfl rfl (by simp only [List.map_toArray, List.map_cons, List.map_nil]; rfl) ?_
  with_reducible refine (must_yes _).mono ?_
  rintro e w3 ⟨rfl, rfl⟩
  refine ⟨_, rfl, ?_⟩
  refine hK.out _ _ ⟨hHeld.1, hHeld.2⟩ (fun hHeld => ?_)
  clear hK K
  refine norm_ (a' := ?_) ?_ ?_
  rotate_left
  ·show Act.put _ (some 68) _ = _
   simp only [Act.put, List.setIfInBounds_toArray, List.set_cons_zero, List.set_cons_succ, i64_w, i32_w]
   rfl
  refine done_ (by kernel_rfl) ?_
  clear hHeld
  first | go_end0 | (go_wp2; go_end0)
  exact ⟨rfl, GK.out, CK.out⟩
set_option maxHeartbeats 4000000 in
theorem list_b {W0 w : World} {s : List Int} {cp g nx m : Nat} {D Wd O : Int} {sb so at_ c n : Nat} {off depth ee : Int} (hE : Env W0 s (some ⟨sb, so, none⟩)) (hK : Ck W0 s (some ⟨sb, so, none⟩) cp D Wd O g nx m w) (ha : at_ ≤ 17592186040320) (ho0 : -536870912 ≤ off) (ho1 : off ≤ 536870911) (hc0 : c ≤ 536870911) (hx : nx ≤ s.length) (hm : m ≤ 4611686018427387904) (hcp : s.length ≤ cp) (he0 : 0 ≤ ee) (he7 : ee ≤ 7) (hn7 : ¬ ee = 7) (hn : wordsE ee c = (n : Int)) (hnb : n ≤ 536870912) (h6 : ¬ ee = 6) (hob : objM s at_ off n nx = true) (hch : n ≤ m) (hn0 : 0 < n) (hr : ¬ restM s ee c nx n = true) :
  Calls Tryd.prog 34 #[.pointer (some ⟨g, 0, none⟩), .int .i64 at_, .int .i64 depth, .agg #[.int .i64 1, .int .i64 off, .int .i64 0, .int .i64 0, .int .i64 ee, .int .i64 c, .bool false, .int .i64 0, .int .u32 0, .int .u32 0]] w fun e w' => e = .panicked [{ v := .iface 47 (.agg #[]), recovered := false }] ∧ Gr g w w' := by
 have HLEN := Lib.hid hE.len
 have hlen := hE.len
 have t7 : (ee == 7) = false := beq_eq_false_iff_ne.2 hn7
 have HN := Lib.hid hn
 have hTab := hE.tab.below hK.below
 clear hn
 have t6 : (ee == 6) = false := beq_eq_false_iff_ne.2 h6
 have HR := Lib.hid hr
 clear hr
 have GK := Lib.hid (Gr.refl g w)
 have CK := Lib.hid hK
 have HE := Lib.hid hE
 clear hE hK
 go_enter Tryd.func34, Tryd.ntmps34
 go_wp2_with fail
 have HTB := Lib.hid hTab
 clear hTab
 have lg : g < w.heap.size := blk_lt CK.out.blk
 refine calls_at (fun wa hW => ?_)
 have hb : Below w.heap.size w wa := by rw [hW]; exact (Below.refl _ _).alloc (Nat.le_refl _) _
 have nB : wa.heap[w.heap.size]? = some (.cells #[.int .i64 1, .int .i64 off, .int .i64 0, .int .i64 0, .int .i64 ee, .int .i64 c, .bool false, .int .i64 0, .int .u32 0, .int .u32 0] 67 (0, 0)) := by rw [hW]; exact heap_alloc_new _ _
 have neB : w.heap.size ≠ g := by omega
 clear hW lg
 replace GK := Lib.hid (GK.out.then hb)
 replace CK := Lib.hid (CK.out.then hb)
 replace HTB := Lib.hid (HTB.out.below hb)
 clear hb
 have B := Lib.hid nB
 clear nB
 refine (Ls.words_any ee c he0 he7 (by omega) (by omega) wa HTB.out).mono ?_
 rintro e wy ⟨rfl, rfl⟩
 rw [show Ls.wordsOf ee (c : Int) = (n : Int) from HN.out]
 have l_B : w.heap.size < wa.heap.size := blk_lt B.out
 have q_B_0 := cq0 ⟨B.out⟩
 have q_B_1 := cq1 ⟨B.out⟩
 have q_B_2 := cq2 ⟨B.out⟩
 have q_B_3 := cq3 ⟨B.out⟩
 have q_B_4 := cq4 ⟨B.out⟩
 have q_B_5 := cq5 ⟨B.out⟩
 have q_B_6 := cq6 ⟨B.out⟩
 have q_B_7 := cq7 ⟨B.out⟩
 have q_B_8 := cq8 ⟨B.out⟩
 have q_B_9 := cq9 ⟨B.out⟩
 go_wp2_with fail
 clear l_B q_B_0 q_B_1 q_B_2 q_B_3 q_B_4 q_B_5 q_B_6 q_B_7 q_B_8 q_B_9
 clear HTB
 refine (object_yes HE.out CK.out ha ⟨ho0, ho1⟩ (by omega) hx hcp hob).mono ?_
 rintro e w1 ⟨rfl, hg, hc⟩
 have gB : Hid (Gr g wa w1) := Lib.hid hg
 replace B := Lib.hid (gB.out.blk B.out neB)
 replace GK := Lib.hid (GK.out.trans gB.out)
 clear gB
 clear CK
 have CK := Lib.hid hc
 clear hg hc
 go_wp2_with fail
 refine (charge_ok HE.out CK.out hch (by omega) (by omega)).mono ?_
 rintro e w2 (⟨q, hq, rfl, hg, hc⟩ | ⟨hq, _⟩)
 rotate_left
 ·cases hq
 cases hq
 have gB : Hid (Gr g w1 w2) := Lib.hid hg
 replace B := Lib.hid (gB.out.blk B.out neB)
 replace GK := Lib.hid (GK.out.trans gB.out)
 clear gB
 clear CK
 have CK := Lib.hid hc
 clear hg hc
 have l_B : w.heap.size < w2.heap.size := blk_lt B.out
 have q_B_0 := cq0 ⟨B.out⟩
 have q_B_1 := cq1 ⟨B.out⟩
 have q_B_2 := cq2 ⟨B.out⟩
 have q_B_3 := cq3 ⟨B.out⟩
 have q_B_4 := cq4 ⟨B.out⟩
 have q_B_5 := cq5 ⟨B.out⟩
 have q_B_6 := cq6 ⟨B.out⟩
 have q_B_7 := cq7 ⟨B.out⟩
 have q_B_8 := cq8 ⟨B.out⟩
 have q_B_9 := cq9 ⟨B.out⟩
 have l_K : g < w2.heap.size := blk_lt CK.out.blk
 have q_K_0 := cq0 ⟨CK.out.blk⟩
 have s0_ : (0 : Int) ≤ (nx : Int) := Int.natCast_nonneg _
 have s1_ : (nx : Int) + (n : Int) ≤ (cp : Int) := by have := (objM_in hob).2; omega
 have s2_ : (0 : Int) ≤ (n : Int) := Int.natCast_nonneg _
 go_wp2_with fail
 clear l_B q_B_0 q_B_1 q_B_2 q_B_3 q_B_4 q_B_5 q_B_6 q_B_7 q_B_8 q_B_9 l_K q_K_0 s0_ s1_ s2_
 obtain ⟨X, hX⟩ : ∃ X, (s.drop nx).take n = X := ⟨_, rfl⟩
 have HX := Lib.hid hX
 obtain ⟨N8, h8⟩ : ∃ N, 8 * n = N := ⟨_, rfl⟩
 have H8 := Lib.hid h8
 have hXl : X.length = n := by rw [← hX]; have := (objM_in hob).2; simp; omega
 have HXL := Lib.hid hXl
 have h8b : N8 ≤ 4294967296 := by omega
 have hcw : ∀ j, j < n → w2.cell? ⟨sb, so + nx + j, none⟩ = some (.int .u64 (wd X j)) := fun j hj => by rw [← hX, wd_take hj, Nat.add_assoc]; exact wd_cell HE.out CK.out.below (by have := (objM_in hob).2; omega)
 have hbr := bytesL_range X
 refine (wbytes_at sb (so + nx) n _ X w2 hXl (by omega) (fun j => by rw [← hX]; by_cases hj : j < n; rw [wd_take hj]; exact HE.out.word _; rw [show wd ((s.drop nx).take n) j = 0 by unfold wd; rw [List.getD_eq_getElem?_getD, List.getElem?_eq_none (by simp; omega)]; rfl]; omega) hcw (fun h0 => World.block_lt_of_cell? _ _ (hcw 0 h0))).mono ?_
 rintro e w3 ⟨⟨vb, rfl, hown⟩, hb⟩
 replace GK := Lib.hid (GK.out.then hb)
 replace CK := Lib.hid (CK.out.then hb)
 replace B := Lib.hid (blk_below B.out hb)
 clear hb hcw hXl hX
 rw [H8.out] at hown
 clear h8
 obtain ⟨Ab, cb, rfl, hcb, hAb, hRb, hCb⟩ := own_shape hown hbr
 have HTB := Lib.hid (HE.out.tab.below CK.out.below)
 obtain ⟨k, hk⟩ : ∃ k : Nat, (k : Int) = bytesE ee c := ⟨(bytesE ee c).toNat, by have := (bytesE_bdC he0 (by omega : ee ≤ 5) (by omega : (0 : Int) ≤ (c : Int))).1; omega⟩
 have hk8 : k ≤ N8 := by have h1 := (bytesE_bdC he0 (by omega : ee ≤ 5) (by omega : (0 : Int) ≤ (c : Int))).2; have h2 := HN.out; have h3 := H8.out; omega
 have HKE := Lib.hid hk
 have HRB := Lib.hid hRb
 have HCB := Lib.hid hCb
 have HAB := Lib.hid hAb
 have hcb' : (N8 : Int) ≤ (cb : Int) := by omega
 clear hown hk hRb hCb hAb hcb
 have l_B : w.heap.size < w3.heap.size := blk_lt B.out
 have q_B_0 := cq0 ⟨B.out⟩
 have q_B_1 := cq1 ⟨B.out⟩
 have q_B_2 := cq2 ⟨B.out⟩
 have q_B_3 := cq3 ⟨B.out⟩
 have q_B_4 := cq4 ⟨B.out⟩
 have q_B_5 := cq5 ⟨B.out⟩
 have q_B_6 := cq6 ⟨B.out⟩
 have q_B_7 := cq7 ⟨B.out⟩
 have q_B_8 := cq8 ⟨B.out⟩
 have q_B_9 := cq9 ⟨B.out⟩
 go_wp2_with fail
 clear l_B q_B_0 q_B_1 q_B_2 q_B_3 q_B_4 q_B_5 q_B_6 q_B_7 q_B_8 q_B_9
 refine (Ls.trim_any ee c he0 (by omega) (by omega) (by omega) Ab N8 cb (bytesL X) w3 HTB.out (by omega) HAB.out (by omega) HRB.out k HKE.out hk8).mono ?_
 rintro e w4 ⟨⟨vt, rfl, hown⟩, hb4⟩
 have hRt := R_of_nums hown
 rw [trimE_eq] at hRt
 have HRT := Lib.hid hRt
 have hlt : (trimE ee c (bytesL X)).length = k := by have := hown.1; rw [trimE_eq] at this; simpa [Ls.nums] using this
 have HLT := Lib.hid hlt
 have HB4 := Lib.hid hb4
 clear hown hRt hlt hb4
 go_wp2_with ((with_reducible refine gate_builtin (b := .append) (xs := #[.tmp 56, .tmp 58]) rfl ?_); at_builtin; refine Kd.R_append_zeros (Kd.int .u8) (w0 := w3) w3.heap.size rfl (.tmp 56) (.tmp 58) 34 3 5 (.int .u8 0) 1 rfl Tryd.underlying34 Tryd.underlying3 Ls.Tryd.info5 rfl (by decide) (by omega) vt (trimE ee c (bytesL X)) (0 : Int) (N8 : Int) (fun _ => True) rfl rfl ?aZ (fun _ _ => trivial) ?aO (by omega) ?aB ?aS ?aL ?_; (case aZ => exact rfl); (case aO => exact HRT.out); (case aB => exact HB4.out); (case aS => exact HB4.out.size); (case aL => have := HLT.out; omega); intro v5 w5 ho hb hg hat; have HO5 := Lib.hid ho; have HB5 := Lib.hid hb; clear ho hb hg hat)
 replace GK := Lib.hid (GK.out.then HB5.out)
 replace CK := Lib.hid (CK.out.then HB5.out)
 replace B := Lib.hid (blk_below B.out HB5.out)
 replace HCB := Lib.hid (Kd.C_below HCB.out HB5.out)
 clear HTB HRB HB4 HRT
 obtain ⟨Y, hY⟩ : ∃ Y, (trimE ee c (bytesL X) ++ List.replicate ((N8 : Int)).toNat 0).take N8 = Y := ⟨_, rfl⟩
 have HY := Lib.hid hY
 have hll : (trimE ee c (bytesL X) ++ List.replicate ((N8 : Int)).toNat 0).length = k + N8 := by simp [HLT.out]
 have hYl : Y.length = N8 := by rw [← hY, List.length_take, hll]; omega
 have hYr : ∀ y ∈ Y, 0 ≤ y ∧ y ≤ 255 := by intro y hy; rw [← hY] at hy; have := List.mem_of_mem_take hy; rw [List.mem_append] at this; rcases this with h | h; exact trimE_range hbr y h; rw [List.eq_of_mem_replicate h]; omega
 have hbl : (bytesL X).length = N8 := by rw [bytesL_length, HXL.out]; exact H8.out
 have tE : ((strOfNums Y).toList == (strOfNums (bytesL X)).toList) = false := by rw [str_eq hYr hbr]; have h1 := HR.out; unfold restM at h1; dsimp only at h1; rw [HX.out, hbl] at h1; rw [Int.toNat_natCast] at hY; rw [hY] at h1; simpa using h1
 rcases R_shape HO5.out with ⟨_, h0⟩ | ⟨a5, c5, rfl, h51, h52, hC5⟩
 ·exfalso; have := congrArg List.length h0; rw [hll] at this; simp at this; have := H8.out; omega
 cases Ab with
 | none => exfalso; have := HAB.out rfl; have := H8.out; omega
 | some ab =>
  have hCY : (Kd.int .u8).C w5 (some a5) Y.length Y := by rw [← hY]; exact Kd.C_take hC5 (by rw [hll]; omega)
  rw [hYl] at hCY
  rw [hll] at h51 ⊢
  have cv0 := fun w' (h : (Kd.int .u8).C w' (some a5) N8 Y) => Kd.C_string (P := Tryd.prog) (src := 34) (dst := 9) (e := 5) (c := c5) Tryd.underlying34 Tryd.underlying5 Tryd.underlying9 h
  have cv1 := fun w' (h : (Kd.int .u8).C w' (some ab) N8 (bytesL X)) => Kd.C_string (P := Tryd.prog) (src := 34) (dst := 9) (e := 5) (c := cb) Tryd.underlying34 Tryd.underlying5 Tryd.underlying9 h
  have hd0 := cv0 _ (Kd.C_below hCY ((Below.refl _ _).drew))
  have hd1 := cv1 _ (Kd.C_below HCB.out ((Below.refl _ _).drew))
  have n0_ : (0 : Int) ≤ (N8 : Int) := Int.natCast_nonneg _
  have n1_ : (N8 : Int) ≤ (c5 : Int) := by omega
  have n2_ : (N8 : Int) ≤ ((k + N8 : Nat) : Int) := by omega
  have HHC := Lib.hid hYr
  have HBR := Lib.hid hbr
  have HLL := Lib.hid hll
  clear hYr hbr hll hY hYl cv0 cv1 hbl h51 HO5 hC5 hCY h52
  generalize strOfNums Y = sy at tE hd0
  generalize strOfNums (bytesL X) = sx at tE hd1
  refine start_ (n := 9) (S := fun w' => (convert 34 9 (.slice (some a5) N8 c5)).run Tryd.prog w' = .ok (.string sy) w' ∧ (convert 34 9 (.slice (some ab) N8 cb)).run Tryd.prog w' = .ok (.string sx) w') (ds := []) #[false, false, false, false, false, false, false, false, false] (by kernel_rfl) rfl rfl ⟨hd0, hd1⟩ (fun hHeld => ?_)
  obtain ⟨w3, hwd⟩ : ∃ W, W = w5.drew := ⟨_, rfl⟩
  rw [← hwd] at hHeld ⊢
  have hb : Below w5.heap.size w5 w3 := by rw [hwd]; exact (Below.refl _ _).drew
  clear hwd
  replace GK := Lib.hid (GK.out.then hb)
  replace CK := Lib.hid (CK.out.then hb)
  replace B := Lib.hid (blk_below B.out hb)
  clear hb
  refine pu 0 60 ?_
  refine pu 1 61 ?_
  refine pu 2 62 ?_
  refine pu 3 63 ?_
  refine pu 5 65 ?_
  refine tk2 4 64 hHeld ?_
  refine tk2 6 66 hHeld ?_
  refine pu 7 67 ?_
  refine one_ (i := 8) (N := some 68) #[true, true, true, true, true, true, true, true, true] rfl rfl (by kernel_rfl) (by decide) (fun K hK => ?_)
  refine goes_bad Tryd.func19 (by kernel_rfl) rfl #[.bool false] (by rfl) rfl (by simp only [List.map_toArray, List.map_cons, List.map_nil]; rfl) ?_
  with_reducible refine (must_no _).mono ?_
  rintro e w3 ⟨rfl, rfl⟩
  refine ⟨_, rfl, ?_⟩
  exact ⟨rfl, rfl, GK.out⟩
set_option maxHeartbeats 4000000 in
theorem list_z1 {W0 w : World} {s : List Int} {cp g nx m : Nat} {D Wd O : Int} {sb so at_ c n : Nat} {off depth ee : Int} (hE : Env W0 s (some ⟨sb, so, none⟩)) (hK : Ck W0 s (some ⟨sb, so, none⟩) cp D Wd O g nx m w) (ha : at_ ≤ 17592186040320) (ho0 : -536870912 ≤ off) (ho1 : off ≤ 536870911) (hc0 : c ≤ 536870911) (hx : nx ≤ s.length) (hm : m ≤ 4611686018427387904) (hcp : s.length ≤ cp) (he0 : 0 ≤ ee) (he7 : ee ≤ 7) (hn7 : ¬ ee = 7) (hn : wordsE ee c = (n : Int)) (hnb : n ≤ 536870912) (h6 : ¬ ee = 6) (hob : objM s at_ off n nx = true) (hch : n ≤ m) (hn0 : n = 0) (hcz : cp = nx) (hr : restM s ee c nx n = true) :
  Calls Tryd.prog 34 #[.pointer (some ⟨g, 0, none⟩), .int .i64 at_, .int .i64 depth, .agg #[.int .i64 1, .int .i64 off, .int .i64 0, .int .i64 0, .int .i64 ee, .int .i64 c, .bool false, .int .i64 0, .int .u32 0, .int .u32 0]] w fun e w' => (e = .returned (.tuple #[]) ∧ Gr g w w' ∧ Ck W0 s (some ⟨sb, so, none⟩) cp D Wd O g (nx + n) (m - n) w') := by
 have HLEN := Lib.hid hE.len
 have hlen := hE.len
 have hcz2 := hcz.symm
 clear hcz
 subst hcz2
 have t7 : (ee == 7) = false := beq_eq_false_iff_ne.2 hn7
 have HN := Lib.hid hn
 have hTab := hE.tab.below hK.below
 clear hn
 have t6 : (ee == 6) = false := beq_eq_false_iff_ne.2 h6
 have HR := Lib.hid hr
 have HN0 := Lib.hid hn0
 clear hr hn0
 have GK := Lib.hid (Gr.refl g w)
 have CK := Lib.hid hK
 have HE := Lib.hid hE
 clear hE hK
 go_enter Tryd.func34, Tryd.ntmps34
 go_wp2_with fail
 have HTB := Lib.hid hTab
 clear hTab
 have lg : g < w.heap.size := blk_lt CK.out.blk
 refine calls_at (fun wa hW => ?_)
 have hb : Below w.heap.size w wa := by rw [hW]; exact (Below.refl _ _).alloc (Nat.le_refl _) _
 have nB : wa.heap[w.heap.size]? = some (.cells #[.int .i64 1, .int .i64 off, .int .i64 0, .int .i64 0, .int .i64 ee, .int .i64 c, .bool false, .int .i64 0, .int .u32 0, .int .u32 0] 67 (0, 0)) := by rw [hW]; exact heap_alloc_new _ _
 have neB : w.heap.size ≠ g := by omega
 clear hW lg
 replace GK := Lib.hid (GK.out.then hb)
 replace CK := Lib.hid (CK.out.then hb)
 replace HTB := Lib.hid (HTB.out.below hb)
 clear hb
 have B := Lib.hid nB
 clear nB
 refine (Ls.words_any ee c he0 he7 (by omega) (by omega) wa HTB.out).mono ?_
 rintro e wy ⟨rfl, rfl⟩
 rw [show Ls.wordsOf ee (c : Int) = (n : Int) from HN.out]
 have l_B : w.heap.size < wa.heap.size := blk_lt B.out
 have q_B_0 := cq0 ⟨B.out⟩
 have q_B_1 := cq1 ⟨B.out⟩
 have q_B_2 := cq2 ⟨B.out⟩
 have q_B_3 := cq3 ⟨B.out⟩
 have q_B_4 := cq4 ⟨B.out⟩
 have q_B_5 := cq5 ⟨B.out⟩
 have q_B_6 := cq6 ⟨B.out⟩
 have q_B_7 := cq7 ⟨B.out⟩
 have q_B_8 := cq8 ⟨B.out⟩
 have q_B_9 := cq9 ⟨B.out⟩
 go_wp2_with fail
 clear l_B q_B_0 q_B_1 q_B_2 q_B_3 q_B_4 q_B_5 q_B_6 q_B_7 q_B_8 q_B_9
 clear HTB
 refine (object_yes HE.out CK.out ha ⟨ho0, ho1⟩ (by omega) hx hcp hob).mono ?_
 rintro e w1 ⟨rfl, hg, hc⟩
 have gB : Hid (Gr g wa w1) := Lib.hid hg
 replace B := Lib.hid (gB.out.blk B.out neB)
 replace GK := Lib.hid (GK.out.trans gB.out)
 clear gB
 clear CK
 have CK := Lib.hid hc
 clear hg hc
 go_wp2_with fail
 refine (charge_ok HE.out CK.out hch (by omega) (by omega)).mono ?_
 rintro e w2 (⟨q, hq, rfl, hg, hc⟩ | ⟨hq, _⟩)
 rotate_left
 ·cases hq
 cases hq
 have gB : Hid (Gr g w1 w2) := Lib.hid hg
 replace B := Lib.hid (gB.out.blk B.out neB)
 replace GK := Lib.hid (GK.out.trans gB.out)
 clear gB
 clear CK
 have CK := Lib.hid hc
 clear hg hc
 have l_B : w.heap.size < w2.heap.size := blk_lt B.out
 have q_B_0 := cq0 ⟨B.out⟩
 have q_B_1 := cq1 ⟨B.out⟩
 have q_B_2 := cq2 ⟨B.out⟩
 have q_B_3 := cq3 ⟨B.out⟩
 have q_B_4 := cq4 ⟨B.out⟩
 have q_B_5 := cq5 ⟨B.out⟩
 have q_B_6 := cq6 ⟨B.out⟩
 have q_B_7 := cq7 ⟨B.out⟩
 have q_B_8 := cq8 ⟨B.out⟩
 have q_B_9 := cq9 ⟨B.out⟩
 have l_K : g < w2.heap.size := blk_lt CK.out.blk
 have q_K_0 := cq0 ⟨CK.out.blk⟩
 have s0_ : (0 : Int) ≤ (nx : Int) := Int.natCast_nonneg _
 have s1_ : (nx : Int) + (n : Int) ≤ (nx : Int) := by have := (objM_in hob).2; omega
 have s2_ : (0 : Int) ≤ (n : Int) := Int.natCast_nonneg _
 go_wp2_with fail
 clear l_B q_B_0 q_B_1 q_B_2 q_B_3 q_B_4 q_B_5 q_B_6 q_B_7 q_B_8 q_B_9 l_K q_K_0 s0_ s1_ s2_
 obtain ⟨X, hX⟩ : ∃ X, (s.drop nx).take n = X := ⟨_, rfl⟩
 have HX := Lib.hid hX
 obtain ⟨N8, h8⟩ : ∃ N, 8 * 0 = N := ⟨_, rfl⟩
 have H80 := Lib.hid h8
 have H8 : Hid (8 * n = N8) := Lib.hid (by have := HN0.out; omega)
 have hXl : X.length = n := by rw [← hX]; have := (objM_in hob).2; simp; omega
 have HXL := Lib.hid hXl
 have h8b : N8 ≤ 4294967296 := by omega
 have hcw : ∀ j, j < n → w2.cell? ⟨sb, so + j, none⟩ = some (.int .u64 (wd X j)) := fun j hj => by have := HN0.out; omega
 have hbr := bytesL_range X
 refine (wbytes_at sb so 0 _ X w2 (by rw [hXl]; exact HN0.out) (by omega) (fun j => by rw [← hX]; by_cases hj : j < n; rw [wd_take hj]; exact HE.out.word _; rw [show wd ((s.drop nx).take n) j = 0 by unfold wd; rw [List.getD_eq_getElem?_getD, List.getElem?_eq_none (by simp; omega)]; rfl]; omega) (fun j hj => by omega) (fun h0 => by omega)).mono ?_
 rintro e w3 ⟨⟨vb, rfl, hown⟩, hb⟩
 replace GK := Lib.hid (GK.out.then hb)
 replace CK := Lib.hid (CK.out.then hb)
 replace B := Lib.hid (blk_below B.out hb)
 clear hb hcw hXl hX
 rw [H80.out] at hown
 clear h8
 obtain ⟨Ab, cb, rfl, hcb, hAb, hRb, hCb⟩ := own_shape hown hbr
 have HTB := Lib.hid (HE.out.tab.below CK.out.below)
 obtain ⟨k, hk⟩ : ∃ k : Nat, (k : Int) = bytesE ee c := ⟨(bytesE ee c).toNat, by have := (bytesE_bdC he0 (by omega : ee ≤ 5) (by omega : (0 : Int) ≤ (c : Int))).1; omega⟩
 have hk8 : k ≤ N8 := by have h1 := (bytesE_bdC he0 (by omega : ee ≤ 5) (by omega : (0 : Int) ≤ (c : Int))).2; have h2 := HN.out; have h3 := H8.out; omega
 have HKE := Lib.hid hk
 have HRB := Lib.hid hRb
 have HCB := Lib.hid hCb
 have HAB := Lib.hid hAb
 have hcb' : (N8 : Int) ≤ (cb : Int) := by omega
 clear hown hk hRb hCb hAb hcb
 have l_B : w.heap.size < w3.heap.size := blk_lt B.out
 have q_B_0 := cq0 ⟨B.out⟩
 have q_B_1 := cq1 ⟨B.out⟩
 have q_B_2 := cq2 ⟨B.out⟩
 have q_B_3 := cq3 ⟨B.out⟩
 have q_B_4 := cq4 ⟨B.out⟩
 have q_B_5 := cq5 ⟨B.out⟩
 have q_B_6 := cq6 ⟨B.out⟩
 have q_B_7 := cq7 ⟨B.out⟩
 have q_B_8 := cq8 ⟨B.out⟩
 have q_B_9 := cq9 ⟨B.out⟩
 go_wp2_with fail
 clear l_B q_B_0 q_B_1 q_B_2 q_B_3 q_B_4 q_B_5 q_B_6 q_B_7 q_B_8 q_B_9
 refine (Ls.trim_any ee c he0 (by omega) (by omega) (by omega) Ab N8 cb (bytesL X) w3 HTB.out (by omega) HAB.out (by omega) HRB.out k HKE.out hk8).mono ?_
 rintro e w4 ⟨⟨vt, rfl, hown⟩, hb4⟩
 have hRt := R_of_nums hown
 rw [trimE_eq] at hRt
 have HRT := Lib.hid hRt
 have hlt : (trimE ee c (bytesL X)).length = k := by have := hown.1; rw [trimE_eq] at this; simpa [Ls.nums] using this
 have HLT := Lib.hid hlt
 have HB4 := Lib.hid hb4
 clear hown hRt hlt hb4
 go_wp2_with ((with_reducible refine gate_builtin (b := .append) (xs := #[.tmp 56, .tmp 58]) rfl ?_); at_builtin; refine Kd.R_append_zeros (Kd.int .u8) (w0 := w3) w3.heap.size rfl (.tmp 56) (.tmp 58) 34 3 5 (.int .u8 0) 1 rfl Tryd.underlying34 Tryd.underlying3 Ls.Tryd.info5 rfl (by decide) (by omega) vt (trimE ee c (bytesL X)) (0 : Int) (N8 : Int) (fun _ => True) rfl rfl ?aZ (fun _ _ => trivial) ?aO (by omega) ?aB ?aS ?aL ?_; (case aZ => exact rfl); (case aO => exact HRT.out); (case aB => exact HB4.out); (case aS => exact HB4.out.size); (case aL => have := HLT.out; omega); intro v5 w5 ho hb hg hat; have HO5 := Lib.hid ho; have HB5 := Lib.hid hb; clear ho hb hg hat)
 replace GK := Lib.hid (GK.out.then HB5.out)
 replace CK := Lib.hid (CK.out.then HB5.out)
 replace B := Lib.hid (blk_below B.out HB5.out)
 replace HCB := Lib.hid (Kd.C_below HCB.out HB5.out)
 clear HTB HRB HB4 HRT
 obtain ⟨Y, hY⟩ : ∃ Y, (trimE ee c (bytesL X) ++ List.replicate ((N8 : Int)).toNat 0).take N8 = Y := ⟨_, rfl⟩
 have HY := Lib.hid hY
 have hll : (trimE ee c (bytesL X) ++ List.replicate ((N8 : Int)).toNat 0).length = k + N8 := by simp [HLT.out]
 have hYl : Y.length = N8 := by rw [← hY, List.length_take, hll]; omega
 have hYr : ∀ y ∈ Y, 0 ≤ y ∧ y ≤ 255 := by intro y hy; rw [← hY] at hy; have := List.mem_of_mem_take hy; rw [List.mem_append] at this; rcases this with h | h; exact trimE_range hbr y h; rw [List.eq_of_mem_replicate h]; omega
 have hbl : (bytesL X).length = N8 := by rw [bytesL_length, HXL.out]; exact H8.out
 have tE : ((strOfNums Y).toList == (strOfNums (bytesL X)).toList) = true := by rw [str_eq hYr hbr]; have h1 := HR.out; unfold restM at h1; dsimp only at h1; rw [HX.out, hbl] at h1; rw [Int.toNat_natCast] at hY; rw [hY] at h1; simpa using h1
 obtain rfl : N8 = 0 := by have := HN0.out; have := H8.out; omega
 have hYn : Y = [] := by rw [← hY]; rfl
 subst hYn
 clear HAB hY HY
 have HLL := Lib.hid hll
 have HTE := Lib.hid tE
 have HYR := Lib.hid hYr
 have HBB := Lib.hid hbr
 have HBL0 := Lib.hid hbl
 clear hll tE hYr hbr hYl hbl
 rcases R_shape HO5.out with ⟨rfl, h0⟩ | ⟨a5, c5, rfl, h51, h52, hC5⟩ <;> cases Ab
 ·have hCY : (Kd.int .u8).C w5 none 0 [] := Kd.C_nil _ _
  clear h0
  have hd0 := Kd.C_string (P := Tryd.prog) (src := 34) (dst := 9) (e := 5) (c := 0) Tryd.underlying34 Tryd.underlying5 Tryd.underlying9 (Kd.C_below hCY ((Below.refl _ _).drew))
  have hd1 := Kd.C_string (P := Tryd.prog) (src := 34) (dst := 9) (e := 5) (c := cb) Tryd.underlying34 Tryd.underlying5 Tryd.underlying9 (Kd.C_below HCB.out ((Below.refl _ _).drew))
  have tE := HTE.out
  clear hCY HO5
  generalize strOfNums [] = sy at tE hd0
  generalize strOfNums (bytesL X) = sx at tE hd1
  refine start_ (n := 9) (S := fun w' => (convert 34 9 (.slice (none) 0 0)).run Tryd.prog w' = .ok (.string sy) w' ∧ (convert 34 9 (.slice (none) 0 cb)).run Tryd.prog w' = .ok (.string sx) w') (ds := []) #[false, false, false, false, false, false, false, false, false] (by kernel_rfl) rfl rfl ⟨hd0, hd1⟩ (fun hHeld => ?_)
  obtain ⟨w3, hwd⟩ : ∃ W, W = w5.drew := ⟨_, rfl⟩
  rw [← hwd] at hHeld ⊢
  have hb : Below w5.heap.size w5 w3 := by rw [hwd]; exact (Below.refl _ _).drew
  clear hwd
  replace GK := Lib.hid (GK.out.then hb)
  replace CK := Lib.hid (CK.out.then hb)
  replace B := Lib.hid (blk_below B.out hb)
  clear hb
  refine pu 0 60 ?_
  refine pu 1 61 ?_
  refine pu 2 62 ?_
  refine pu 3 63 ?_
  refine pu 5 65 ?_
  refine tk2 4 64 hHeld ?_
  refine tk2 6 66 hHeld ?_
  refine pu 7 67 ?_
  refine one_ (i := 8) (N := some 68) #[true, true, true, true, true, true, true, true, true] rfl rfl (by kernel_rfl) (by decide) (fun K hK => ?_)
  refine goes_ Tryd.func19 (by kernel_rfl) rfl #[.bool true] (by rfl) rfl rfl (by simp only [List.map_toArray, List.map_cons, List.map_nil]; rfl) ?_
  with_reducible refine (must_yes _).mono ?_
  rintro e w3 ⟨rfl, rfl⟩
  refine ⟨_, rfl, ?_⟩
  refine hK.out _ _ ⟨hHeld.1, hHeld.2⟩ (fun hHeld => ?_)
  clear hK K
  refine norm_ (a' := ?_) ?_ ?_
  rotate_left
  ·show Act.put _ (some 68) _ = _
   simp only [Act.put, List.setIfInBounds_toArray, List.set_cons_zero, List.set_cons_succ, i64_w, i32_w]
   rfl
  refine done_ (by kernel_rfl) ?_
  clear hHeld
  first | go_end0 | (go_wp2; go_end0)
  exact ⟨rfl, GK.out, CK.out⟩
 ·rename_i ab
  have hCY : (Kd.int .u8).C w5 none 0 [] := Kd.C_nil _ _
  clear h0
  have hd0 := Kd.C_string (P := Tryd.prog) (src := 34) (dst := 9) (e := 5) (c := 0) Tryd.underlying34 Tryd.underlying5 Tryd.underlying9 (Kd.C_below hCY ((Below.refl _ _).drew))
  have hd1 := Kd.C_string (P := Tryd.prog) (src := 34) (dst := 9) (e := 5) (c := cb) Tryd.underlying34 Tryd.underlying5 Tryd.underlying9 (Kd.C_below HCB.out ((Below.refl _ _).drew))
  have tE := HTE.out
  clear hCY HO5
  generalize strOfNums [] = sy at tE hd0
  generalize strOfNums (bytesL X) = sx at tE hd1
  refine start_ (n := 9) (S := fun w' => (convert 34 9 (.slice (none) 0 0)).run Tryd.prog w' = .ok (.string sy) w' ∧ (convert 34 9 (.slice (some ab) 0 cb)).run Tryd.prog w' = .ok (.string sx) w') (ds := []) #[false, false, false, false, false, false, false, false, false] (by kernel_rfl) rfl rfl ⟨hd0, hd1⟩ (fun hHeld => ?_)
  obtain ⟨w3, hwd⟩ : ∃ W, W = w5.drew := ⟨_, rfl⟩
  rw [← hwd] at hHeld ⊢
  have hb : Below w5.heap.size w5 w3 := by rw [hwd]; exact (Below.refl _ _).drew
  clear hwd
  replace GK := Lib.hid (GK.out.then hb)
  replace CK := Lib.hid (CK.out.then hb)
  replace B := Lib.hid (blk_below B.out hb)
  clear hb
  refine pu 0 60 ?_
  refine pu 1 61 ?_
  refine pu 2 62 ?_
  refine pu 3 63 ?_
  refine pu 5 65 ?_
  refine tk2 4 64 hHeld ?_
  refine tk2 6 66 hHeld ?_
  refine pu 7 67 ?_
  refine one_ (i := 8) (N := some 68) #[true, true, true, true, true, true, true, true, true] rfl rfl (by kernel_rfl) (by decide) (fun K hK => ?_)
  refine goes_ Tryd.func19 (by kernel_rfl) rfl #[.bool true] (by rfl) rfl rfl (by simp only [List.map_toArray, List.map_cons, List.map_nil]; rfl) ?_
  with_reducible refine (must_yes _).mono ?_
  rintro e w3 ⟨rfl, rfl⟩
  refine ⟨_, rfl, ?_⟩
  refine hK.out _ _ ⟨hHeld.1, hHeld.2⟩ (fun hHeld => ?_)
  clear hK K
  refine norm_ (a' := ?_) ?_ ?_
  rotate_left
  ·show Act.put _ (some 68) _ = _
   simp only [Act.put, List.setIfInBounds_toArray, List.set_cons_zero, List.set_cons_succ, i64_w, i32_w]
   rfl
  refine done_ (by kernel_rfl) ?_
  clear hHeld
  first | go_end0 | (go_wp2; go_end0)
  exact ⟨rfl, GK.out, CK.out⟩
 ·have hCY : (Kd.int .u8).C w5 (some a5) 0 [] := by have := Kd.C_take hC5 (Nat.zero_le _); simpa using this
  rw [HLL.out] at h51 ⊢
  clear h52 hC5
  have hd0 := Kd.C_string (P := Tryd.prog) (src := 34) (dst := 9) (e := 5) (c := c5) Tryd.underlying34 Tryd.underlying5 Tryd.underlying9 (Kd.C_below hCY ((Below.refl _ _).drew))
  have hd1 := Kd.C_string (P := Tryd.prog) (src := 34) (dst := 9) (e := 5) (c := cb) Tryd.underlying34 Tryd.underlying5 Tryd.underlying9 (Kd.C_below HCB.out ((Below.refl _ _).drew))
  have tE := HTE.out
  clear hCY HO5
  have n3_ : (0 : Int) ≤ (c5 : Int) := Int.natCast_nonneg _
  clear h51
  generalize strOfNums [] = sy at tE hd0
  generalize strOfNums (bytesL X) = sx at tE hd1
  refine start_ (n := 9) (S := fun w' => (convert 34 9 (.slice (some a5) 0 c5)).run Tryd.prog w' = .ok (.string sy) w' ∧ (convert 34 9 (.slice (none) 0 cb)).run Tryd.prog w' = .ok (.string sx) w') (ds := []) #[false, false, false, false, false, false, false, false, false] (by kernel_rfl) rfl rfl ⟨hd0, hd1⟩ (fun hHeld => ?_)
  obtain ⟨w3, hwd⟩ : ∃ W, W = w5.drew := ⟨_, rfl⟩
  rw [← hwd] at hHeld ⊢
  have hb : Below w5.heap.size w5 w3 := by rw [hwd]; exact (Below.refl _ _).drew
  clear hwd
  replace GK := Lib.hid (GK.out.then hb)
  replace CK := Lib.hid (CK.out.then hb)
  replace B := Lib.hid (blk_below B.out hb)
  clear hb
  refine pu 0 60 ?_
  refine pu 1 61 ?_
  refine pu 2 62 ?_
  refine pu 3 63 ?_
  refine pu 5 65 ?_
  refine tk2 4 64 hHeld ?_
  refine tk2 6 66 hHeld ?_
  refine pu 7 67 ?_
  refine one_ (i := 8) (N := some 68) #[true, true, true, true, true, true, true, true, true] rfl rfl (by kernel_rfl) (by decide) (fun K hK => ?_)
  refine goes_ Tryd.func19 (by kernel_rfl) rfl #[.bool true] (by rfl) rfl rfl (by simp only [List.map_toArray, List.map_cons, List.map_nil]; rfl) ?_
  with_reducible refine (must_yes _).mono ?_
  rintro e w3 ⟨rfl, rfl⟩
  refine ⟨_, rfl, ?_⟩
  refine hK.out _ _ ⟨hHeld.1, hHeld.2⟩ (fun hHeld => ?_)
  clear hK K
  refine norm_ (a' := ?_) ?_ ?_
  rotate_left
  ·show Act.put _ (some 68) _ = _
   simp only [Act.put, List.setIfInBounds_toArray, List.set_cons_zero, List.set_cons_succ, i64_w, i32_w]
   rfl
  refine done_ (by kernel_rfl) ?_
  clear hHeld
  first | go_end0 | (go_wp2; go_end0)
  exact ⟨rfl, GK.out, CK.out⟩
 ·rename_i ab
  have hCY : (Kd.int .u8).C w5 (some a5) 0 [] := by have := Kd.C_take hC5 (Nat.zero_le _); simpa using this
  rw [HLL.out] at h51 ⊢
  clear h52 hC5
  have hd0 := Kd.C_string (P := Tryd.prog) (src := 34) (dst := 9) (e := 5) (c := c5) Tryd.underlying34 Tryd.underlying5 Tryd.underlying9 (Kd.C_below hCY ((Below.refl _ _).drew))
  have hd1 := Kd.C_string (P := Tryd.prog) (src := 34) (dst := 9) (e := 5) (c := cb) Tryd.underlying34 Tryd.underlying5 Tryd.underlying9 (Kd.C_below HCB.out ((Below.refl _ _).drew))
  have tE := HTE.out
  clear hCY HO5
  have n3_ : (0 : Int) ≤ (c5 : Int) := Int.natCast_nonneg _
  clear h51
  generalize strOfNums [] = sy at tE hd0
  generalize strOfNums (bytesL X) = sx at tE hd1
  refine start_ (n := 9) (S := fun w' => (convert 34 9 (.slice (some a5) 0 c5)).run Tryd.prog w' = .ok (.string sy) w' ∧ (convert 34 9 (.slice (some ab) 0 cb)).run Tryd.prog w' = .ok (.string sx) w') (ds := []) #[false, false, false, false, false, false, false, false, false] (by kernel_rfl) rfl rfl ⟨hd0, hd1⟩ (fun hHeld => ?_)
  obtain ⟨w3, hwd⟩ : ∃ W, W = w5.drew := ⟨_, rfl⟩
  rw [← hwd] at hHeld ⊢
  have hb : Below w5.heap.size w5 w3 := by rw [hwd]; exact (Below.refl _ _).drew
  clear hwd
  replace GK := Lib.hid (GK.out.then hb)
  replace CK := Lib.hid (CK.out.then hb)
  replace B := Lib.hid (blk_below B.out hb)
  clear hb
  refine pu 0 60 ?_
  refine pu 1 61 ?_
  refine pu 2 62 ?_
  refine pu 3 63 ?_
  refine pu 5 65 ?_
  refine tk2 4 64 hHeld ?_
  refine tk2 6 66 hHeld ?_
  refine pu 7 67 ?_
  refine one_ (i := 8) (N := some 68) #[true, true, true, true, true, true, true, true, true] rfl rfl (by kernel_rfl) (by decide) (fun K hK => ?_)
  refine goes_ Tryd.func19 (by kernel_rfl) rfl #[.bool true] (by rfl) rfl rfl (by simp only [List.map_toArray, List.map_cons, List.map_nil]; rfl) ?_
  with_reducible refine (must_yes _).mono ?_
  rintro e w3 ⟨rfl, rfl⟩
  refine ⟨_, rfl, ?_⟩
  refine hK.out _ _ ⟨hHeld.1, hHeld.2⟩ (fun hHeld => ?_)
  clear hK K
  refine norm_ (a' := ?_) ?_ ?_
  rotate_left
  ·show Act.put _ (some 68) _ = _
   simp only [Act.put, List.setIfInBounds_toArray, List.set_cons_zero, List.set_cons_succ, i64_w, i32_w]
   rfl
  refine done_ (by kernel_rfl) ?_
  clear hHeld
  first | go_end0 | (go_wp2; go_end0)
  exact ⟨rfl, GK.out, CK.out⟩
end Go.Proofs.YtidglmocekghmaaDoor.Pr
end
