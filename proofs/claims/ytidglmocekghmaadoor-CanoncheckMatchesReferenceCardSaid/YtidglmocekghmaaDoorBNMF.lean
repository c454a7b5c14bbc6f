/- A part of the proof of YtidglmocekghmaaDoorMatchesCard (the texts that it stands on, gathered; declarations that nothing uses are left out). -/
import Derived.Test.YtidglmocekghmaaDoorBNMC
import Derived.Below
import Derived.Deep.Draws
import Derived.Deep.AppendLies
import Derived.Maps.AppendAt
import Derived.OwnWalk
import Derived.Laws.BytesArg
import Derived.Laws.MakeOwn
import Derived.Laws.OwnMore
import Derived.Deep.OwnRows
import Derived.Tactics
import Derived.Lib.ConvBytes
import Derived.Laws.Slices
import Derived.WalkKit
import Derived.KernelRfl
import Derived.RowKit3
import Derived.Deep.LoopGhost
import Derived.Deep.QuietTactic
import Derived.BigQuiet
import Derived.WideLaws
import Derived.Deep.DeepCutAuto
import Derived.Deep.CutBlock
import Derived.Deep.RegionHeld3
import Derived.Laws.Rows
import Derived.Lib.AppendStr
import Derived.ArgAppend
import Derived.Laws.IdiomCopy
import Derived.RowKit
import Derived.OrdersHeld
import Derived.Laws.BitsLemmas
import Derived.Laws.StructEq
import Derived.SizedLaws
import Derived.ChangeSlices
import Derived.Test.YtidglmocekghmaaDoorProg
import Derived.Lib.Hide
import Derived.WalkLawsBesides
import Derived.WalkSpells
import Derived.Outline
import Derived.IntWalk
import Derived.Laws.AppendOwn
import Derived.RangeFuncBox
import Derived.Lib.JoinLaws
import Derived.Defers
import Derived.Recover
import Derived.Laws.Pointers
import Derived.Test.YtidglmocekghmaaDoorCards
import Derived.ProofKit
import Derived.LaidMore
import Derived.LaidHandle
import Derived.Maps.Keyed
import Derived.WideKeyElems2
import Derived.Lib.LaidTab
import Derived.OpenShut
import Derived.Lib.SmallJoins
set_option linter.unusedVariables false
set_option linter.unusedSimpArgs false
section
namespace Go.Proofs.YtidglmocekghmaaDoor.Pr
open Go.RowKit Go.Proofs.YtidglmocekghmaaDoorW.PrintWords Go.Proofs.YtidglmocekghmaaDoorW.PrintLast Go.Proofs.YtidglmocekghmaaDoorW.PrintMore
set_option linter.unusedVariables false
set_option linter.unusedSimpArgs false
def visI : Option Nat → Int
  | none => -1
  | some r => r
abbrev AtS (w : World) (ad : Addr) (i : Nat) (x : Int) : Prop := w.cell? (ad.add i) = some (.int .u64 x)
abbrev Vi (ad : Addr) (n cp : Nat) (nx a : Nat) (w : World) (r : Int) : Prop := Calls Tryd.prog 22 #[.slice (some ad) n cp, .int .i64 nx, .int .i64 a] w fun e w' => e = .returned (.int .i64 r) ∧ Below w.heap.size w w'
abbrev Vs (ad : Addr) (n cp : Nat) (w : World) (e i k : Nat) (r : Int) : Prop := ∀ (e' i' k' : Int) w', Below w.heap.size w w' → e' = e → i' = i → k' = k → Hid (Calls Tryd.prog 37 #[.slice (some ad) n cp, .int .i64 e', .int .i64 i', .int .i64 k'] w' fun e w1 => e = .returned (.int .i64 r) ∧ Below w'.heap.size w' w1)
end Go.Proofs.YtidglmocekghmaaDoor.Pr
end
section
namespace Go.Proofs.YtidglmocekghmaaDoor.Pr
open Go.RowKit Go.Proofs.YtidglmocekghmaaDoorW.PrintWords Go.Proofs.YtidglmocekghmaaDoorW.PrintLast Go.Proofs.YtidglmocekghmaaDoorW.PrintMore
set_option linter.unusedVariables false
section
variable {P : Program} {ops : Array Oper} {rest : List Oper} {o : Oper} {a : Act} {Q : Exit → Act → World → Prop} {w0 W : World} {L : List Asr}
def isBs (o : Oper) : Bool := match o.op with
  | .buildSlice _ _ _ => true
  | _ => false
def BsAt (P : Program) (W : World) (o : Oper) (a : Act) (cs : Array Value) (t k : Nat) (f : Nat → Act) : Prop :=
  (execOp a.eval o).run P W = .ok (.value (.slice (some ⟨W.heap.size, 0, none⟩) k k)) (W.alloc (.cells cs t (0, 0))) ∧ ∀ g, a.put o.dst (.slice (some ⟨g, 0, none⟩) k k) = f g
theorem sb (S : Sep w0 W L) {cs : Array Value} {t k : Nat} {f : Nat → Act} (h : ∀ g w1, Sep w0 w1 (.box g cs t :: L) → wpList P ops Q rest (f g) w1) (_ : isBs o = true := by rfl) (hg : o.guard = none := by rfl)
    (k : BsAt P W o a cs t k f := by
      refine ⟨?_, fun g => ?_⟩
      · first | (go_simp; done) | (go_simp; rfl)
      · simp only [Act.put, List.setIfInBounds_toArray, List.set_cons_zero, List.set_cons_succ]; rfl) : wpList P ops Q (o :: rest) a W := by
  obtain ⟨hr, hf⟩ := k
  refine Kd.event_run hg hr ?_
  rw [hf]
  exact h _ _ (S.new cs t)
end
theorem C_sl1 {w : World} {g e cp : Nat} {A : Option Addr} {s : List Int} (hb : w.heap[g]? = some (.cells #[.slice A s.length cp] e (0, 0))) (hc : s.length ≤ cp) (h : (Kd.int .u64).C w A s.length s) : (Kd.slice 32 (Kd.int .u64)).C w (some ⟨g, 0, none⟩) 1 [s] := by
  refine ⟨rfl, by simp, fun hn => ⟨_, rfl, fun j p hj => ?_⟩⟩
  have hj0 : j = 0 := by
    have := (List.getElem?_eq_some_iff.1 hj).1
    simpa using this
  subst hj0
  obtain rfl : s = p := by simpa using hj
  refine ⟨[.slice A s.length cp], rfl, ⟨A, cp, rfl, hc, h⟩, fun i u hu => ?_⟩
  match i with
  | 0 =>
    obtain rfl : Value.slice A s.length cp = u := by simpa using hu
    rw [add_zero_at, blk_cell hb]
    simp
  | i + 1 => simp at hu
theorem C_drop {w : World} {ad : Addr} {s : List Int} (h : (Kd.int .u64).C w (some ad) s.length s) (k n : Nat) (hk : k + n ≤ s.length) : (Kd.int .u64).C w (some (ad.add k)) n ((s.drop k).take n) := by
  obtain ⟨h1, h2, h3⟩ := h
  refine ⟨by rw [List.length_take, List.length_drop]; omega, by omega, fun hn => ⟨_, rfl, fun j p hj => ?_⟩⟩
  obtain ⟨ad', e, h4⟩ := h3 (by omega)
  injection e with e
  subst e
  have hjn : j < n := by
    have := (List.getElem?_eq_some_iff.1 hj).1
    rw [List.length_take] at this
    omega
  rw [List.getElem?_take_of_lt hjn, List.getElem?_drop] at hj
  obtain ⟨c, h5, h6, h7⟩ := h4 (k + j) p hj
  refine ⟨c, h5, h6, fun i u hu => ?_⟩
  rw [← h7 i u hu]
  have hs : (Kd.int .u64).sz = 1 := rfl
  rw [hs, Addr.add_add]
  congr 2
  omega
end Go.Proofs.YtidglmocekghmaaDoor.Pr
end
section
namespace Go.Proofs.YtidglmocekghmaaDoor.Pr
open Go.RowKit Go.Proofs.YtidglmocekghmaaDoorW.PrintWords Go.Proofs.YtidglmocekghmaaDoorW.PrintLast Go.Proofs.YtidglmocekghmaaDoorW.PrintMore
set_option linter.unusedVariables false
set_option linter.unusedSimpArgs false
theorem vptrs_step {V : Nat → Nat → Option Nat} {k j a e : Nat} (h : j < k) : vptrs V (k - j) (a + j) e = match V (a + j) e with
    | none => none
    | some r => vptrs V (k - (j + 1)) (a + (j + 1)) r := by
  obtain ⟨q, hq⟩ : ∃ q, k - j = q + 1 := ⟨k - j - 1, by omega⟩
  rw [show k - (j + 1) = q by omega, hq, vptrs, Nat.add_assoc]
  cases V (a + j) e <;> rfl
set_option maxRecDepth 100000 in
set_option maxHeartbeats 4000000 in
theorem viss_any (ad : Addr) (n cp nx a k : Nat) (V : Nat → Nat → Option Nat) (w : World) (hn : n ≤ 17592186040320) (hk : a + k ≤ n) (hnx : nx ≤ n)
    (hV : ∀ j, j < k → ∀ e, e ≤ n → ∀ r, V (a + j) e = some r → r ≤ n)
    (HV : ∀ j, j < k → ∀ e : Nat, e ≤ n → ∀ w', Below w.heap.size w w' → Hid (Calls Tryd.prog 22 #[.slice (some ad) n cp, .int .i64 e, .int .i64 ((a : Int) + j)] w' fun r w1 => r = .returned (.int .i64 (visI (V (a + j) e))) ∧ Below w'.heap.size w' w1)) :
    Calls Tryd.prog 37 #[.slice (some ad) n cp, .int .i64 nx, .int .i64 a, .int .i64 k] w fun r w1 => r = .returned (.int .i64 (visI (vptrs V k a nx))) ∧ Below w.heap.size w w1 := by
  have S := Sep.start w
  obtain ⟨R, hR⟩ : ∃ R, vptrs V k a nx = R := ⟨_, rfl⟩
  have HE : Hid (R = vptrs V (k - 0) (a + 0) nx) := Lib.hid hR.symm
  have hV := Lib.hid hV
  rw [hR]
  clear hR
  go_enter Tryd.func37, Tryd.ntmps37
  go_wp2
  have S := Lib.hid S
  go_loopw [9, 10] (fun v c wr => ∃ j e : Nat, j ≤ k ∧ e ≤ n ∧ c = .int .i64 j ∧ v = .int .i64 e ∧ Hid (R = vptrs V (k - j) (a + j) e) ∧ Hid (Sep w wr [])) (fun _ c _ => k - (intOf c).toNat)
  case atStart => exact ⟨0, nx, Nat.zero_le _, hnx, rfl, rfl, HE, S⟩
  case round =>
    clear S HE
    obtain ⟨j, e, hj, he, rfl, rfl, HE, S⟩ := hrel
    by_cases hjk : j < k
    · have HVj := HV j hjk e he
      have hVj := hV.out j hjk e he
      rw [vptrs_step hjk] at HE
      cases hq : V (a + j) e with
      | none =>
        rw [hq] at HVj HE
        have HE : Hid (R = none) := HE
        clear hVj hq
        have S := S.out
        go_wp2_with ((with_reducible refine (HVj _ S.below).out.mono ?_); rintro r' w' ⟨rfl, hb⟩; replace S := S.call hb; dsimp only [visI])
        exact rt S ⟨by rw [HE.out], S.below⟩
      | some r =>
        rw [hq] at HVj HE hVj
        have hr := hVj r rfl
        have HE : Hid (R = vptrs V (k - (j + 1)) (a + (j + 1)) r) := HE
        clear hVj hq
        have S := S.out
        go_wp2_with ((with_reducible refine (HVj _ S.below).out.mono ?_); rintro r' w' ⟨rfl, hb⟩; replace S := S.call hb; dsimp only [visI])
        go_roundw
        case rel => exact ⟨j + 1, r, by omega, hr, by go_num, rfl, HE, Lib.hid S⟩
        case measure => simp [intOf]; omega
    · obtain rfl : j = k := by omega
      rw [Nat.sub_self] at HE
      have HE : Hid (R = some e) := HE
      go_wp2
      exact rt S.out ⟨by rw [HE.out], S.out.below⟩
end Go.Proofs.YtidglmocekghmaaDoor.Pr
end
section
namespace Go.Proofs.YtidglmocekghmaaDoor.Pr
open Go.RowKit Go.Proofs.YtidglmocekghmaaDoorW.PrintWords Go.Proofs.YtidglmocekghmaaDoorW.PrintLast Go.Proofs.YtidglmocekghmaaDoorW.PrintMore
set_option linter.unusedVariables false
set_option linter.unusedSimpArgs false
theorem anyM_snoc (s : List Int) (size : Nat) : ∀ k a : Nat, anyM s size (k + 1) a = (anyM s size k a || decide (wd s (a + k * size) ≠ 0))
  | 0, a => by simp [anyM]
  | k + 1, a => by
    rw [anyM, anyM_snoc s size k (a + size), anyM, Bool.or_assoc]
    congr 3
    rw [Nat.add_mul, Nat.one_mul]
    congr 2
    omega
theorem velems_step {V : Nat → Nat → Option Nat} {p sz k j a e : Nat} (h : j < k) : velems V p sz (k - j) (a + j * sz) e = match vptrs V p (a + j * sz) e with
    | none => none
    | some r => velems V p sz (k - (j + 1)) (a + (j + 1) * sz) r := by
  obtain ⟨q, hq⟩ : ∃ q, k - j = q + 1 := ⟨k - j - 1, by omega⟩
  rw [show k - (j + 1) = q by omega, hq, velems, Nat.add_assoc, Nat.add_mul, Nat.one_mul]
  cases vptrs V p (a + j * sz) e <;> rfl
theorem velems_zero (V : Nat → Nat → Option Nat) (sz : Nat) : ∀ k a e : Nat, velems V 0 sz k a e = some e
  | 0, _, _ => rfl
  | k + 1, a, e => by rw [velems, vptrs]; exact velems_zero V sz k _ _
theorem wl0 {P : Program} {ops : Array Oper} {rest : List Oper} {o : Oper} {a : Act} {Q : Exit → Act → World → Prop} {W : World} (_ : o.guard = none) (h : wpList P ops Q (o :: rest) a W) : wpList P ops Q (o :: rest) a W := h
abbrev ObS (ad : Addr) (n cp a : Nat) (w : World) (o : Ob) : Prop := ∀ g w', Below w.heap.size w w' → w'.heap[g]? = some (.cells #[.slice (some ad) n cp] 22 (0, 0)) → Hid (Calls Tryd.prog 40 #[.slice (some ⟨g, 0, none⟩) 1 1, .int .i64 0, .int .i64 a] w' fun r w1 => r = .returned (.tuple #[obV o, .int .i64 0]) ∧ Below w'.heap.size w' w1)
end Go.Proofs.YtidglmocekghmaaDoor.Pr
end
