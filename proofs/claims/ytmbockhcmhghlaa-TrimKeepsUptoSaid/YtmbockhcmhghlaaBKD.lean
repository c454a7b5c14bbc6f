/- For every node of bulk at most 1048576 Trim does not modify the node, and its result shares no memory with it: the law answers true and leaves its argument as it was. -/
import Derived.Test.YtmbockhcmhghlaaBKC
import Derived.Below
import Derived.Deep.Draws
import Derived.Deep.AppendLies
import Derived.Maps.AppendAt
import Derived.OwnWalk
import Derived.Laws.BytesArg
import Derived.Laws.MakeOwn
import Derived.Laws.OwnMore
import Derived.Deep.OwnRows
import Derived.Tactics
import Derived.Lib.ConvBytes
import Derived.Laws.Slices
import Derived.WalkKit
import Derived.KernelRfl
import Derived.RowKit3
import Derived.Deep.LoopGhost
import Derived.Deep.QuietTactic
import Derived.BigQuiet
import Derived.WideLaws
import Derived.Deep.DeepCutAuto
import Derived.Deep.CutBlock
import Derived.Deep.RegionHeld3
import Derived.Laws.Rows
import Derived.Lib.AppendStr
import Derived.ArgAppend
import Derived.Laws.IdiomCopy
import Derived.RowKit
import Derived.OrdersHeld
import Derived.Laws.BitsLemmas
import Derived.Laws.StructEq
import Derived.SizedLaws
import Derived.ChangeSlices
import Derived.Test.YtmbockhcmhghlaaProg
import Derived.Lib.Hide
import Derived.IntWalk
import Derived.Test.YtmbockhcmhghlaaRows
import Derived.ProofKit
import Derived.OpenShut
import Derived.ChangeOld
import Derived.Lib.SmallJoins
import Derived.DataReads
import Derived.ShutString
import Derived.JoinedCond
section
namespace Go.Proofs.Ytmbockhcmhghlaa.Pr
open Go.RowKit Go.Proofs.YtmbockhcmhghlaaW.PrintWords Go.Proofs.YtmbockhcmhghlaaW.PrintLast Go.Proofs.YtmbockhcmhghlaaW.PrintMore
set_option linter.unusedVariables false
set_option linter.unusedSimpArgs false
theorem valid_ev (a : S25) : okT a → tsize a ≤ 4611686018427387904 → Ev (fun k => capnpref10_Valid.f k a.f0 a.f1 a.f2 a.f3 a.f4) (tvalid a) := by
  refine S25.ind (P := fun a => okT a → tsize a ≤ 4611686018427387904 → Ev (fun k => capnpref10_Valid.f k a.f0 a.f1 a.f2 a.f3 a.f4) (tvalid a)) (fun a ih hok hs => ?_) a
  have he := tsize_eq a
  have hl := length_tsizes a.f4
  have hx := AllT.here hok
  obtain ⟨C, hC⟩ : ∃ C : Bool, (a.f0 == 2 && a.f1 == 7) = C := ⟨_, rfl⟩
  have HV : tvalid a = (tvalids C a.f4 && topV a.f0 a.f1 a.f2 a.f3 a.f4.length) := by rw [tvalid_eq, hC]
  have yes : ∀ k, capnpref10_Valid.j1 (k + 1) true a.f0 a.f1 a.f2 a.f3 a.f4 = some false := fun k => by
    simp only [capnpref10_Valid.j1]; rw [if_pos trivial]
  have top : Ev (fun k => capnpref10_Valid.l0 k (a.f4.length : Int) a.f0 a.f1 a.f2 a.f3 a.f4) (topV a.f0 a.f1 a.f2 a.f3 a.f4.length) := by
    by_cases k0 : a.f0 = 0
    · refine Ev.step (f := fun _ => some (topV a.f0 a.f1 a.f2 a.f3 a.f4.length)) (fun k => ?_) (Ev.now _)
      simp only [capnpref10_Valid.l0]
      rw [if_neg (by omega), if_pos k0]
      unfold topV
      rw [if_pos k0]
      by_cases a1 : a.f1 = 0
      · by_cases a2 : a.f2 = 0
        · by_cases a3 : (a.f3.length : Int) = 0
          · rw [if_pos a1, if_pos a2, if_pos a3, a1, a2, a3]; rfl
          · rw [if_pos a1, if_pos a2, if_neg a3, a1, a2]
            have : ((a.f3.length : Int) == 0) = false := by simpa using a3
            rw [this]; rfl
        · rw [if_pos a1, if_neg a2, a1]
          have : (a.f2 == 0) = false := by simpa using a2
          rw [this]; rfl
      · rw [if_neg a1]
        have : (a.f1 == 0) = false := by simpa using a1
        rw [this]; rfl
    by_cases k1 : a.f0 = 1
    · refine Ev.step (f := fun _ => some (topV a.f0 a.f1 a.f2 a.f3 a.f4.length)) (fun k => ?_) (Ev.now _)
      simp only [capnpref10_Valid.l0]
      rw [if_neg (by omega), if_neg k0, if_pos k1]
      unfold topV
      rw [if_neg k0, if_pos k1]
      by_cases a1 : a.f1 = 0
      · by_cases a2 : a.f2 = 0
        · by_cases a3 : (a.f3.length : Int) % 8 = 0
          · by_cases a4 : (a.f3.length : Int) ≤ 524280
            · rw [if_pos a1, if_pos a2, if_pos a3, if_pos a4, a1, a2, a3, decide_eq_true a4]; rfl
            · rw [if_pos a1, if_pos a2, if_pos a3, if_neg a4, a1, a2, a3, decide_eq_false a4]; rfl
          · rw [if_pos a1, if_pos a2, if_neg a3, a1, a2]
            have : ((a.f3.length : Int) % 8 == 0) = false := by simpa using a3
            rw [this]; rfl
        · rw [if_pos a1, if_neg a2, a1]
          have : (a.f2 == 0) = false := by simpa using a2
          rw [this]; rfl
      · rw [if_neg a1]
        have : (a.f1 == 0) = false := by simpa using a1
        rw [this]; rfl
    by_cases k2 : a.f0 = 2
    · have bad : (a.f2 < 0 ∨ 536870911 < a.f2 ∨ a.f1 < 0 ∨ 7 < a.f1) → topV a.f0 a.f1 a.f2 a.f3 a.f4.length = false := fun h => by
        unfold topV; rw [if_neg k0, if_neg k1, if_pos k2, if_pos h]
      have go : ∀ b : Bool, (b = true → topV a.f0 a.f1 a.f2 a.f3 a.f4.length = false) → (b = false → Ev (fun k => capnpref10_Valid.j1 k false a.f0 a.f1 a.f2 a.f3 a.f4) (topV a.f0 a.f1 a.f2 a.f3 a.f4.length)) → Ev (fun k => capnpref10_Valid.j1 k b a.f0 a.f1 a.f2 a.f3 a.f4) (topV a.f0 a.f1 a.f2 a.f3 a.f4.length) := fun b h1 h2 => by
        cases b with
        | true => rw [h1 rfl]; exact Ev.step yes (Ev.now _)
        | false => exact h2 rfl
      by_cases a1 : a.f2 < 0
      · refine Ev.step (f := fun k => capnpref10_Valid.j1 k true a.f0 a.f1 a.f2 a.f3 a.f4) (fun k => ?_) (go true (fun _ => bad (.inl a1)) (fun h => by cases h))
        simp only [capnpref10_Valid.l0]
        rw [if_neg (by omega), if_neg k0, if_neg k1, if_pos k2, if_pos a1]
      by_cases a2 : 536870911 < a.f2
      · refine Ev.step (f := fun k => capnpref10_Valid.j1 k true a.f0 a.f1 a.f2 a.f3 a.f4) (fun k => ?_) (go true (fun _ => bad (.inr (.inl a2))) (fun h => by cases h))
        simp only [capnpref10_Valid.l0]
        rw [if_neg (by omega), if_neg k0, if_neg k1, if_pos k2, if_neg a1, if_pos a2]
      by_cases a3 : a.f1 < 0
      · refine Ev.step (f := fun k => capnpref10_Valid.j1 k true a.f0 a.f1 a.f2 a.f3 a.f4) (fun k => ?_) (go true (fun _ => bad (.inr (.inr (.inl a3)))) (fun h => by cases h))
        simp only [capnpref10_Valid.l0]
        rw [if_neg (by omega), if_neg k0, if_neg k1, if_pos k2, if_neg a1, if_neg (by omega), if_pos a3]
      refine Ev.step (f := fun k => capnpref10_Valid.j1 k (decide (a.f1 > 7)) a.f0 a.f1 a.f2 a.f3 a.f4) (fun k => ?_) (go _ (fun h => bad (.inr (.inr (.inr (of_decide_eq_true h))))) (fun h => ?_))
      · simp only [capnpref10_Valid.l0]
        rw [if_neg (by omega), if_neg k0, if_neg k1, if_pos k2, if_neg a1, if_neg (by omega), if_neg a3]
      have a4 : a.f1 ≤ 7 := by have := of_decide_eq_false h; omega
      have hT : topV a.f0 a.f1 a.f2 a.f3 a.f4.length = if 6 ≤ a.f1 then ((a.f3.length : Int) == 0) && ((a.f4.length : Int) == a.f2)
          else if ¬ a.f4.length = 0 ∨ ¬ (a.f3.length : Int) = bytesOf a.f1 a.f2 then false else decide (rL a.f1 a.f2 a.f3 a.f3.length = a.f3) := by
        unfold topV; rw [if_neg k0, if_neg k1, if_pos k2, if_neg (by omega)]
      rw [hT]
      by_cases a5 : 6 ≤ a.f1
      · rw [if_pos a5]
        refine Ev.step (f := fun _ => some (((a.f3.length : Int) == 0) && ((a.f4.length : Int) == a.f2))) (fun k => ?_) (Ev.now _)
        simp only [capnpref10_Valid.j1]
        rw [if_neg (by simp), if_pos (by omega)]
        by_cases a6 : (a.f3.length : Int) = 0
        · rw [if_pos a6, a6]; rfl
        · rw [if_neg a6]
          have : ((a.f3.length : Int) == 0) = false := by simpa using a6
          rw [this]; rfl
      · rw [if_neg a5]
        have no2 : (¬ a.f4.length = 0 ∨ ¬ (a.f3.length : Int) = bytesOf a.f1 a.f2) → Ev (fun k => capnpref10_Valid.j2 k true a.f0 a.f1 a.f2 a.f3 a.f4) (if ¬ a.f4.length = 0 ∨ ¬ (a.f3.length : Int) = bytesOf a.f1 a.f2 then false else decide (rL a.f1 a.f2 a.f3 a.f3.length = a.f3)) := fun h => by
          rw [if_pos h]
          refine Ev.step (fun k => ?_) (Ev.now _)
          simp only [capnpref10_Valid.j2]
          rw [if_pos trivial]
        by_cases a6 : a.f4.length = 0
        · refine Ev.step (f := fun k => capnpref10_Valid.j2 k ((a.f3.length : Int) != bytesOf a.f1 a.f2) a.f0 a.f1 a.f2 a.f3 a.f4) (fun k => ?_) ?_
          · simp only [capnpref10_Valid.j1]
            rw [if_neg (by simp), if_neg (by omega), if_pos (by omega), bytes_f _ _ (by omega) (by omega)]
            rfl
          · by_cases a7 : (a.f3.length : Int) = bytesOf a.f1 a.f2
            · have e7 : ((a.f3.length : Int) != bytesOf a.f1 a.f2) = false := by rw [a7]; simp
              rw [e7, if_neg (by rintro (h | h); exact h a6; exact h a7)]
              refine Ev.step (f := fun k => (capnpref06_Trim.f k a.f1 a.f2 a.f3).bind fun t => (capnpref01_Same.f k t a.f3).bind fun u => some u) (fun k => ?_) ?_
              · simp only [capnpref10_Valid.j2]
                rw [if_neg (by simp)]
              · refine Ev.bind (trim_ev a.f1 a.f2 (by omega) (by omega) a.f3 hx a.f3.length a7 (Nat.le_refl _)) ?_
                exact Ev.bind (same_ev _ _ (by rw [rL_length]; omega)) (Ev.now _)
            · have e7 : ((a.f3.length : Int) != bytesOf a.f1 a.f2) = true := by simpa using a7
              rw [e7]
              exact no2 (.inr a7)
        · refine Ev.step (f := fun k => capnpref10_Valid.j2 k true a.f0 a.f1 a.f2 a.f3 a.f4) (fun k => ?_) (no2 (.inl a6))
          simp only [capnpref10_Valid.j1]
          rw [if_neg (by simp), if_neg (by omega), if_neg (by omega)]
    · refine Ev.step (f := fun _ => some (topV a.f0 a.f1 a.f2 a.f3 a.f4.length)) (fun k => ?_) (Ev.now _)
      simp only [capnpref10_Valid.l0]
      rw [if_neg (by omega), if_neg k0, if_neg k1, if_neg k2]
      unfold topV
      rw [if_neg k0, if_neg k1, if_neg k2]
  have loop : ∀ d j : Nat, a.f4.length - j = d → j ≤ a.f4.length → tvalids C (a.f4.take j) = true → Ev (fun k => capnpref10_Valid.l0 k (j : Int) a.f0 a.f1 a.f2 a.f3 a.f4) (tvalid a) := by
    intro d
    induction d with
    | zero =>
      intro j hd hj ht
      obtain rfl : j = a.f4.length := by omega
      rw [List.take_length] at ht
      rw [HV, ht, Bool.true_and]
      exact top
    | succ d ihd =>
      intro j hd hj ht
      have hlt : j < a.f4.length := by omega
      have hmem : a.f4[j] ∈ a.f4 := List.getElem_mem hlt
      have hk := tsize_kid hmem
      have ha := ih _ hmem (AllT.kids hok _ hmem) (by omega)
      have hst := tvalids_take C a.f4 j hlt
      have hbad := tvalids_bad C a.f4 j hlt
      have e2 : wrap64 ((j : Int) + 1) = ((j + 1 : Nat) : Int) := by rw [w64 (by omega) (by omega)]; omega
      refine Ev.step (f := fun k => (capnpref10_Valid.f k a.f4[j].f0 a.f4[j].f1 a.f4[j].f2 a.f4[j].f3 a.f4[j].f4).bind fun t => if t = true then (if a.f0 = 2 then (if a.f1 = 7 then (if a.f4[j].f0 = 1 then capnpref10_Valid.l0 k (wrap64 ((j : Int) + 1)) a.f0 a.f1 a.f2 a.f3 a.f4 else some false) else capnpref10_Valid.l0 k (wrap64 ((j : Int) + 1)) a.f0 a.f1 a.f2 a.f3 a.f4) else capnpref10_Valid.l0 k (wrap64 ((j : Int) + 1)) a.f0 a.f1 a.f2 a.f3 a.f4) else some false) (fun k => ?_) ?_
      · simp only [capnpref10_Valid.l0]
        rw [if_pos (by omega), if_pos (by omega), rdT_at _ _ hlt]
      refine Ev.bind ha ?_
      cases hv : tvalid a.f4[j] with
      | false =>
        rw [HV, hbad (by rw [hv]; rfl), Bool.false_and]
        exact Ev.now _
      | true =>
        have cont : (!(C && a.f4[j].f0 != 1)) = true → Ev (fun k => capnpref10_Valid.l0 k (wrap64 ((j : Int) + 1)) a.f0 a.f1 a.f2 a.f3 a.f4) (tvalid a) := fun hc => by
          rw [e2]
          exact ihd (j + 1) (by omega) (by omega) (by rw [hst, ht, hv, hc]; rfl)
        by_cases b0 : a.f0 = 2
        · by_cases b1 : a.f1 = 7
          · have hCt : C = true := by rw [← hC, b0, b1]; rfl
            by_cases b2 : a.f4[j].f0 = 1
            · exact Ev.congr (fun k => by rw [if_pos rfl, if_pos b0, if_pos b1, if_pos b2]) (cont (by rw [b2]; simp))
            · have hf : tvalid a = false := by
                rw [HV, hbad (by rw [hv, hCt]; simpa using b2), Bool.false_and]
              rw [hf]
              exact Ev.congr (fun k => by rw [if_pos rfl, if_pos b0, if_pos b1, if_neg b2]) (Ev.now _)
          · have hCf : C = false := by rw [← hC, show (a.f1 == 7) = false by simpa using b1, Bool.and_false]
            exact Ev.congr (fun k => by rw [if_pos rfl, if_pos b0, if_neg b1]) (cont (by rw [hCf]; rfl))
        · have hCf : C = false := by rw [← hC, show (a.f0 == 2) = false by simpa using b0, Bool.false_and]
          exact Ev.congr (fun k => by rw [if_pos rfl, if_neg b0]) (cont (by rw [hCf]; rfl))
  refine Ev.step (f := fun k => capnpref10_Valid.l0 k 0 a.f0 a.f1 a.f2 a.f3 a.f4) (fun k => by simp only [capnpref10_Valid.f]) ?_
  exact loop a.f4.length 0 (by omega) (by omega) (by simp [tvalids])
end Go.Proofs.Ytmbockhcmhghlaa.Pr
end
section
namespace Go.Proofs.Ytmbockhcmhghlaa.Pr
open Go.RowKit Go.Proofs.YtmbockhcmhghlaaW.PrintWords Go.Proofs.YtmbockhcmhghlaaW.PrintLast Go.Proofs.YtmbockhcmhghlaaW.PrintMore
set_option linter.unusedVariables false
set_option linter.unusedSimpArgs false
theorem copy_ev (a : S25) : tsize a ≤ 1000000000000 → Ev (fun k => capnpref10_Copy.f k a.f0 a.f1 a.f2 a.f3 a.f4) (a.f0, a.f1, a.f2, a.f3, a.f4) := by
  refine S25.ind (P := fun a => tsize a ≤ 1000000000000 → Ev (fun k => capnpref10_Copy.f k a.f0 a.f1 a.f2 a.f3 a.f4) (a.f0, a.f1, a.f2, a.f3, a.f4)) (fun a ih hs => ?_) a
  have he := tsize_eq a
  have hl := length_tsizes a.f4
  have loop : ∀ d j : Nat, a.f4.length - j = d → j ≤ a.f4.length → Ev (fun k => capnpref10_Copy.l0 k (j : Int) a.f0 a.f1 a.f2 a.f3 a.f4 a.f0 a.f1 a.f2 a.f3 (a.f4.take j)) (a.f0, a.f1, a.f2, a.f3, a.f4) := by
    intro d
    induction d with
    | zero =>
      intro j hd hj
      refine Ev.step (f := fun _ => some (a.f0, a.f1, a.f2, a.f3, a.f4)) (fun k => ?_) (Ev.now _)
      simp only [capnpref10_Copy.l0]
      rw [if_neg (by omega), List.take_of_length_le (by omega)]
    | succ d ihd =>
      intro j hd hj
      have hlt : j < a.f4.length := by omega
      have hk := tsize_kid (List.getElem_mem hlt : a.f4[j] ∈ a.f4)
      have hn := ihd (j + 1) (by omega) (by omega)
      rw [take_one _ _ hlt, show ((j + 1 : Nat) : Int) = (j : Int) + 1 by omega] at hn
      refine Ev.step (f := fun k => (capnpref10_Copy.f k a.f4[j].f0 a.f4[j].f1 a.f4[j].f2 a.f4[j].f3 a.f4[j].f4).bind fun bt => if (a.f4.take j).length < 1954687338268 then capnpref10_Copy.l0 k (wrap64 ((j : Int) + 1)) a.f0 a.f1 a.f2 a.f3 a.f4 a.f0 a.f1 a.f2 a.f3 (a.f4.take j ++ [(⟨bt.1, bt.2.1, bt.2.2.1, bt.2.2.2.1, bt.2.2.2.2⟩ : S25)]) else none) (fun k => ?_) ?_
      · simp only [capnpref10_Copy.l0]
        rw [if_pos (by omega), if_pos (by omega), rdT_at _ _ hlt]
      · refine Ev.bind (ih _ (List.getElem_mem hlt) (by omega)) ?_
        rw [w64 (by omega) (by omega)]
        exact Ev.congr (fun k => by rw [if_pos (by simp; omega)]; dsimp only; rw [S25.eta]) hn
  refine Ev.step (f := fun k => capnpref10_Copy.l0 k 0 a.f0 a.f1 a.f2 a.f3 a.f4 a.f0 a.f1 a.f2 a.f3 []) (fun k => ?_) (loop a.f4.length 0 (by omega) (by omega))
  simp only [capnpref10_Copy.f, Option.bind_some, List.nil_append, List.length_nil]
  rw [if_pos (by omega)]
end Go.Proofs.Ytmbockhcmhghlaa.Pr
end
section
namespace Go.Proofs.Ytmbockhcmhghlaa.Pr
open Go.RowKit Go.Proofs.YtmbockhcmhghlaaW.PrintWords Go.Proofs.YtmbockhcmhghlaaW.PrintLast Go.Proofs.YtmbockhcmhghlaaW.PrintMore
set_option linter.unusedVariables false
set_option linter.unusedSimpArgs false
def twords (d : List Int) : Nat := (keptN zeroB d + 7) / 8
def cutD (a : S25) : List Int := if a.f0 = 1 then a.f3.take (8 * twords a.f3) else a.f3
def cutK (a : S25) : List S25 := if a.f0 = 1 then a.f4.take (keptN nullN a.f4) else a.f4
mutual
def ttrim : S25 → S25
  | ⟨k, e, n, d, l⟩ => ⟨k, e, n, if k = 1 then d.take (8 * twords d) else d, if k = 1 then (ttrims l).take (keptN nullN l) else ttrims l⟩
def ttrims : List S25 → List S25
  | [] => []
  | x :: l => ttrim x :: ttrims l
end
theorem ttrims_eq : ∀ l : List S25, ttrims l = l.map ttrim
  | [] => rfl
  | x :: l => by simp [ttrims, ttrims_eq l]
theorem ttrim_eq (a : S25) : ttrim a = ⟨a.f0, a.f1, a.f2, cutD a, (cutK a).map ttrim⟩ := by
  cases a with
  | mk k e n d l =>
    simp only [ttrim, cutD, cutK, ttrims_eq]
    split <;> simp [List.map_take]
theorem cutK_sub {a x : S25} (h : x ∈ cutK a) : x ∈ a.f4 := by
  unfold cutK at h
  split at h
  · exact List.mem_of_mem_take h
  · exact h
theorem cutK_len (a : S25) : (cutK a).length ≤ a.f4.length := by
  unfold cutK
  split
  · simp; omega
  · omega
theorem cutD_len (a : S25) : (cutD a).length ≤ a.f3.length := by
  unfold cutD
  split
  · simp; omega
  · omega
def wordsT : S25 → Prop := AllT fun a => a.f0 = 1 → a.f3.length % 8 = 0
theorem valid_words (a : S25) : tvalid a = true → wordsT a := by
  refine S25.ind (P := fun a => tvalid a = true → wordsT a) (fun a ih h => ?_) a
  rw [tvalid_eq, Bool.and_eq_true] at h
  refine .mk (fun h1 => ?_) (fun x hx => ih x hx ((tvalids_all _ _).1 h.1 x hx).1)
  have h2 := h.2
  unfold topV at h2
  rw [if_neg (by omega), if_pos h1] at h2
  simp only [Bool.and_eq_true, beq_iff_eq] at h2
  omega
theorem twords_le (d : List Int) (h : d.length % 8 = 0) : 8 * twords d ≤ d.length := by
  have := keptN_le zeroB d
  unfold twords; omega
theorem twords_f (d : List Int) (h : d.length ≤ 1000000000000) : trim_Words.f d = some (twords d : Int) := by
  unfold trim_Words.f twords
  rw [if_pos (by omega)]
  congr 1
  omega
theorem tptrs_f (l : List S25) : trim_Pointers.f l = some (keptN nullN l : Int) := rfl
def cellsT (a : S25) : Int × Int × Int × List Int × (List S25) := (a.f0, a.f1, a.f2, a.f3, a.f4)
theorem mkT (a : S25) : (⟨(cellsT a).1, (cellsT a).2.1, (cellsT a).2.2.1, (cellsT a).2.2.2.1, (cellsT a).2.2.2.2⟩ : S25) = a := by cases a; rfl
theorem take_map {α β : Type} (f : α → β) (l : List α) (j : Nat) (h : j < l.length) : (l.take j).map f ++ [f l[j]] = (l.take (j + 1)).map f := by
  rw [take_one l j h, List.map_append]; rfl
theorem trim_loop (L : List S25) (hL : L.length ≤ 1000000000000) (hm : ∀ x ∈ L, Ev (fun k => trim_Trim.f k x.f0 x.f1 x.f2 x.f3 x.f4) (cellsT (ttrim x))) (e n : Int) (kd : Int) (D : List Int) :
    Ev (fun k => trim_Trim.l0 k L (L.length : Int) 0 kd e n D []) (kd, e, n, D, L.map ttrim) := by
  have loop : ∀ d j : Nat, L.length - j = d → j ≤ L.length → Ev (fun k => trim_Trim.l0 k L (L.length : Int) (j : Int) kd e n D ((L.take j).map ttrim)) (kd, e, n, D, L.map ttrim) := by
    intro d
    induction d with
    | zero =>
      intro j hd hj
      refine Ev.step (f := fun _ => some (kd, e, n, D, L.map ttrim)) (fun k => ?_) (Ev.now _)
      simp only [trim_Trim.l0]
      rw [if_neg (by omega), List.take_of_length_le (by omega)]
    | succ d ih =>
      intro j hd hj
      have hlt : j < L.length := by omega
      have hn := ih (j + 1) (by omega) (by omega)
      rw [← take_map _ _ _ hlt, show ((j + 1 : Nat) : Int) = (j : Int) + 1 by omega] at hn
      refine Ev.step (f := fun k => (trim_Trim.f k L[j].f0 L[j].f1 L[j].f2 L[j].f3 L[j].f4).bind fun bt => if ((L.take j).map ttrim).length < 1954687338268 then trim_Trim.l0 k L (L.length : Int) (wrap64 ((j : Int) + 1)) kd e n D ((L.take j).map ttrim ++ [(⟨bt.1, bt.2.1, bt.2.2.1, bt.2.2.2.1, bt.2.2.2.2⟩ : S25)]) else none) (fun k => ?_) ?_
      · simp only [trim_Trim.l0]
        rw [if_pos (by omega), if_pos (by omega), if_pos (by omega), rdT_at _ _ hlt]
      · refine Ev.bind (hm _ (List.getElem_mem hlt)) ?_
        rw [w64 (by omega) (by omega)]
        exact Ev.congr (fun k => by rw [if_pos (by simp; omega), mkT]) hn
  exact loop L.length 0 (by omega) (by omega)
theorem ttrim_ev (a : S25) : wordsT a → tsize a ≤ 1000000000000 → Ev (fun k => trim_Trim.f k a.f0 a.f1 a.f2 a.f3 a.f4) (cellsT (ttrim a)) := by
  refine S25.ind (P := fun a => wordsT a → tsize a ≤ 1000000000000 → Ev (fun k => trim_Trim.f k a.f0 a.f1 a.f2 a.f3 a.f4) (cellsT (ttrim a))) (fun a ih hw hs => ?_) a
  have he := tsize_eq a
  have hl := length_tsizes a.f4
  have hm : ∀ x ∈ a.f4, Ev (fun k => trim_Trim.f k x.f0 x.f1 x.f2 x.f3 x.f4) (cellsT (ttrim x)) := fun x hx => ih x hx (AllT.kids hw x hx) (by have := tsize_kid hx; omega)
  have hc : cellsT (ttrim a) = (a.f0, a.f1, a.f2, cutD a, (cutK a).map ttrim) := by unfold cellsT; rw [ttrim_eq]
  have hj : Ev (fun k => trim_Trim.j0 k (cutD a) (cutK a) a.f0 a.f1 a.f2) (cellsT (ttrim a)) := by
    rw [hc]
    have hcl := cutD_len a
    have hck := cutK_len a
    refine Ev.step (f := fun k => trim_Trim.l0 k (cutK a) ((cutK a).length : Int) 0 a.f0 a.f1 a.f2 (cutD a) []) (fun k => ?_) (trim_loop (cutK a) (by omega) (fun x hx => hm x (cutK_sub hx)) _ _ _ _)
    simp only [trim_Trim.j0]
    rw [if_pos (by simp; omega), List.nil_append]
  by_cases h0 : a.f0 = 1
  · have hlen := AllT.here hw h0
    have hwl := twords_le a.f3 hlen
    have hkl := keptN_le nullN a.f4
    refine Ev.step (f := fun k => trim_Trim.j0 k (cutD a) (cutK a) a.f0 a.f1 a.f2) (fun k => ?_) hj
    simp only [trim_Trim.f]
    rw [if_pos h0, twords_f _ (by omega), Option.bind_some, w64 (by omega) (by omega), if_pos (by omega), if_pos (by omega), tptrs_f, Option.bind_some, if_pos (by omega), if_pos (by omega)]
    unfold cutD cutK
    rw [if_pos h0, if_pos h0]
    have e1 : (8 * (twords a.f3 : Int)).toNat = 8 * twords a.f3 := by omega
    rw [e1, Int.toNat_natCast]
  · refine Ev.step (f := fun k => trim_Trim.j0 k (cutD a) (cutK a) a.f0 a.f1 a.f2) (fun k => ?_) hj
    simp only [trim_Trim.f]
    unfold cutD cutK
    rw [if_neg h0, if_neg h0, if_neg h0]
end Go.Proofs.Ytmbockhcmhghlaa.Pr
end
section
namespace Go.Proofs.Ytmbockhcmhghlaa.Pr
open Go.RowKit Go.Proofs.YtmbockhcmhghlaaW.PrintWords Go.Proofs.YtmbockhcmhghlaaW.PrintLast Go.Proofs.YtmbockhcmhghlaaW.PrintMore
set_option linter.unusedVariables false
set_option linter.unusedSimpArgs false
def U8Row (W : World) (lo hi : Nat) (v : Value) (n : Nat) : Prop :=
  (v = .slice none 0 0 ∧ n = 0) ∨ ∃ g c vals, v = .slice (some ⟨g, 0, none⟩) n c ∧ n ≤ c ∧ n ≤ 9223372036854775807 ∧ lo ≤ g ∧ g < hi ∧ W.heap[g]? = some (.cells vals 5 (0, 0)) ∧ ∀ j, j < n → ∃ x : Int, vals[j]? = some (.int .u8 x)
def KRow (W : World) (lo hi : Nat) (v : Value) (n : Nat) : Prop :=
  (v = .slice none 0 0 ∧ n = 0) ∨ ∃ g c vals, v = .slice (some ⟨g, 0, none⟩) n c ∧ n ≤ c ∧ lo ≤ g ∧ g < hi ∧ W.heap[g]? = some (.cells vals 25 (0, 0)) ∧ n * 5 ≤ vals.size ∧ ∀ j, j < n → ∃ v3 n3, vals[j * 5 + 3]? = some v3 ∧ U8Row W lo hi v3 n3
theorem cur_get {cur : Array Value} {n : Nat} {xs : List Value} (h : cur.toList.take n = xs) {j : Nat} (hj : j < n) : cur[j]? = xs[j]? := by
  subst h
  rw [List.getElem?_take_of_lt hj, Array.getElem?_toList]
theorem u8_of_R {w : World} {base : Nat} {ok : Nat → Prop} {v : Value} {xs : List Int} (h : (Kd.int .u8).R 5 w base ok v xs) (hs : base ≤ w.heap.size) : U8Row w base w.heap.size v xs.length := by
  obtain ⟨_, _, _, _, hC⟩ := Kd.R_reads h
  obtain ⟨_, inner, ho, hr⟩ := h
  rcases ho.2 with ⟨rfl, h0⟩ | ⟨g, cap, cur, rfl, hb, hg, hl, _, hz, ht⟩
  · exact .inl ⟨rfl, h0⟩
  · refine .inr ⟨g, cap, cur, rfl, hl, hC.2.1, hb, blk_lt hg, hg, fun j hj => ?_⟩
    have hp := hr.2 j _ (List.getElem?_eq_getElem hj)
    have hp' : (inner.drop (j * 1)).take 1 = [.int .u8 xs[j]] := hp
    have hlen : inner.length = xs.length * 1 := hr.1
    rw [cur_get ht (show j < xs.length * 1 by omega)]
    refine ⟨xs[j], ?_⟩
    have h0 : ((inner.drop (j * 1)).take 1)[0]? = some (.int .u8 xs[j]) := by rw [hp']; rfl
    rw [List.getElem?_take_of_lt (by omega), List.getElem?_drop, Nat.mul_one, Nat.add_zero] at h0
    exact h0
theorem k_of_R {w : World} {base : Nat} {ok : Nat → Prop} {v : Value} {xs : List S25} (h : k25.R 25 w base ok v xs) (hs : base ≤ w.heap.size) : KRow w base w.heap.size v xs.length := by
  obtain ⟨_, inner, ho, hr⟩ := h
  rcases ho.2 with ⟨rfl, h0⟩ | ⟨g, cap, cur, rfl, hb, hg, hl, _, hz, ht⟩
  · exact .inl ⟨rfl, h0⟩
  · have hlen : inner.length = xs.length * 5 := hr.1
    have hsz : cur.size = cap * 5 := hz
    have ht' : cur.toList.take (xs.length * 5) = inner := ht
    refine .inr ⟨g, cap, cur, rfl, hl, hb, blk_lt hg, hg, by omega, fun j hj => ?_⟩
    have hp := hr.2 j _ (List.getElem?_eq_getElem hj)
    obtain ⟨v3, v4, hc, hR3, _⟩ := k25_openM hp
    have hc' : (inner.drop (j * 5)).take 5 = [.int .i64 xs[j].f0, .int .i64 xs[j].f1, .int .i64 xs[j].f2, v3, v4] := hc
    refine ⟨v3, xs[j].f3.length, ?_, u8_of_R hR3 hs⟩
    have h0 : ((inner.drop (j * 5)).take 5)[3]? = some v3 := by rw [hc']; rfl
    rw [List.getElem?_take_of_lt (by omega), List.getElem?_drop] at h0
    rw [cur_get ht' (show j * 5 + 3 < xs.length * 5 by omega)]
    exact h0
section
variable {W W' : World} {lo hi n g : Nat} {v : Value}
theorem U8Row.same (h : U8Row W lo hi v n) (hk : ∀ k, lo ≤ k → k < hi → (∃ vals, W.heap[k]? = some (.cells vals 5 (0, 0))) → W'.heap[k]? = W.heap[k]?) : U8Row W' lo hi v n := by
  rcases h with h | ⟨g, c, vals, rfl, h1, h2, h3, h4, h5, h6⟩
  · exact .inl h
  · exact .inr ⟨g, c, vals, rfl, h1, h2, h3, h4, (hk g h3 h4 ⟨_, h5⟩).trans h5, h6⟩
theorem KRow.same (h : KRow W lo hi v n) (hk : ∀ k, lo ≤ k → k < hi → W'.heap[k]? = W.heap[k]?) : KRow W' lo hi v n := by
  rcases h with h | ⟨g, c, vals, rfl, h1, h3, h4, h5, h6, h7⟩
  · exact .inl h
  · refine .inr ⟨g, c, vals, rfl, h1, h3, h4, (hk g h3 h4).trans h5, h6, fun j hj => ?_⟩
    obtain ⟨v3, n3, e, hu⟩ := h7 j hj
    exact ⟨v3, n3, e, hu.same fun k a b _ => hk k a b⟩
theorem U8Row.put (h : U8Row W lo hi v n) (j : Nat) (y : Int) {vals : Array Value} (hg : W.heap[g]? = some (.cells vals 5 (0, 0))) : U8Row (W.setCell ⟨g, j, none⟩ (.int .u8 y)) lo hi v n := by
  rcases h with h | ⟨g', c, vals', rfl, h1, h2, h3, h4, h5, h6⟩
  · exact .inl h
  · by_cases he : g' = g
    · subst he
      rw [hg] at h5
      injection h5 with h5
      injection h5 with h5
      subst h5
      refine .inr ⟨g', c, _, rfl, h1, h2, h3, h4, blk_set hg j _, fun i hi => ?_⟩
      obtain ⟨x, hx⟩ := h6 i hi
      by_cases hij : j = i
      · subst hij
        exact ⟨y, by rw [Array.getElem?_setIfInBounds_self_of_lt (Array.getElem?_eq_some_iff.1 hx).1]⟩
      · exact ⟨x, by rw [Array.getElem?_setIfInBounds_ne hij]; exact hx⟩
    · exact .inr ⟨g', c, vals', rfl, h1, h2, h3, h4, blk_far h5 (p := ⟨g, j, none⟩) he _, h6⟩
theorem KRow.put (h : KRow W lo hi v n) (j : Nat) (y : Int) {vals : Array Value} (hg : W.heap[g]? = some (.cells vals 5 (0, 0))) : KRow (W.setCell ⟨g, j, none⟩ (.int .u8 y)) lo hi v n := by
  rcases h with h | ⟨g', c, vals', rfl, h1, h3, h4, h5, h6, h7⟩
  · exact .inl h
  · refine .inr ⟨g', c, vals', rfl, h1, h3, h4, blk_far h5 (p := ⟨g, j, none⟩) (blk_ne h5 hg (by decide)) _, h6, fun i hi => ?_⟩
    obtain ⟨v3, n3, e, hu⟩ := h7 i hi
    exact ⟨v3, n3, e, hu.put j y hg⟩
theorem U8Row.far (h : U8Row W lo hi v n) {vals : Array Value} (hg : W.heap[g]? = some (.cells vals 25 (0, 0))) (hk : ∀ k, k ≠ g → W'.heap[k]? = W.heap[k]?) : U8Row W' lo hi v n :=
  h.same fun k _ _ ⟨_, e⟩ => hk k (blk_ne e hg (by decide))
theorem KRow.write (h : KRow W lo hi v n) {vals vals' : Array Value} (hg : W.heap[g]? = some (.cells vals 25 (0, 0))) (hg' : W'.heap[g]? = some (.cells vals' 25 (0, 0))) (hk : ∀ k, k ≠ g → W'.heap[k]? = W.heap[k]?) (hsz : vals'.size = vals.size)
    (hv : ∀ j, vals'[j * 5 + 3]? = vals[j * 5 + 3]? ∨ vals'[j * 5 + 3]? = some (.slice none 0 0)) : KRow W' lo hi v n := by
  rcases h with h | ⟨g', c, cs, rfl, h1, h3, h4, h5, h6, h7⟩
  · exact .inl h
  · by_cases he : g' = g
    · subst he
      rw [hg] at h5
      injection h5 with h5
      injection h5 with h5
      subst h5
      refine .inr ⟨g', c, _, rfl, h1, h3, h4, hg', by omega, fun i hi => ?_⟩
      rcases hv i with e | e
      · obtain ⟨v3, n3, e3, hu⟩ := h7 i hi
        exact ⟨v3, n3, e.trans e3, hu.far hg hk⟩
      · exact ⟨_, 0, e, .inl ⟨rfl, rfl⟩⟩
    · refine .inr ⟨g', c, cs, rfl, h1, h3, h4, (hk g' he).trans h5, h6, fun i hi => ?_⟩
      obtain ⟨v3, n3, e3, hu⟩ := h7 i hi
      exact ⟨v3, n3, e3, hu.far hg hk⟩
theorem KRow.slice (h : KRow W lo hi v n) : ∃ A c, v = .slice A n c := by
  rcases h with ⟨rfl, rfl⟩ | ⟨g, c, _, rfl, _⟩
  · exact ⟨_, _, rfl⟩
  · exact ⟨_, _, rfl⟩
theorem U8Row.slice (h : U8Row W lo hi v n) : ∃ A c, v = .slice A n c := by
  rcases h with ⟨rfl, rfl⟩ | ⟨g, c, _, rfl, _⟩
  · exact ⟨_, _, rfl⟩
  · exact ⟨_, _, rfl⟩
end
def KInv (W1 : World) (hi : Nat) (bt : Array Value) (v3 : Value) (n3 : Nat) (v4 : Value) (n4 : Nat) (W : World) : Prop :=
  Below W1.heap.size W1 W ∧ W1.heap.size ≤ hi ∧ W.heap[hi]? = some (.cells bt 25 (0, 0)) ∧ U8Row W W1.heap.size hi v3 n3 ∧ KRow W W1.heap.size hi v4 n4
theorem KInv.put {W1 : World} {hi : Nat} {bt : Array Value} {v3 v4 : Value} {n3 n4 : Nat} {W : World} (h : KInv W1 hi bt v3 n3 v4 n4 W) {g : Nat} {vals : Array Value} (hg : W.heap[g]? = some (.cells vals 5 (0, 0))) (hlo : W1.heap.size ≤ g) (j : Nat) (y : Int) :
    KInv W1 hi bt v3 n3 v4 n4 (W.setCell ⟨g, j, none⟩ (.int .u8 y)) :=
  ⟨h.1.setCell (p := ⟨g, j, none⟩) hlo _, h.2.1, blk_far h.2.2.1 (p := ⟨g, j, none⟩) (blk_ne h.2.2.1 hg (by decide)) _, h.2.2.2.1.put j y hg, h.2.2.2.2.put j y hg⟩
theorem KInv.write {W1 : World} {hi : Nat} {bt : Array Value} {v3 v4 : Value} {n3 n4 : Nat} {W : World} (h : KInv W1 hi bt v3 n3 v4 n4 W) {g : Nat} (hg : ∃ vals : Array Value, W.heap[g]? = some (.cells vals 25 (0, 0)) ∧ n4 * 5 ≤ vals.size) (hlo : W1.heap.size ≤ g) (hhi : g < hi) (i : Nat) (a b c : Int) :
    KInv W1 hi bt v3 n3 v4 n4 (((((W.setCell ⟨g, i * 5, none⟩ (.int .i64 a)).setCell ⟨g, i * 5 + 1, none⟩ (.int .i64 b)).setCell ⟨g, i * 5 + 2, none⟩ (.int .i64 c)).setCell ⟨g, i * 5 + 3, none⟩ (.slice none 0 0)).setCell ⟨g, i * 5 + 4, none⟩ (.slice none 0 0)) := by
  obtain ⟨vals, hg, _⟩ := hg
  have b1 := blk_set hg (i * 5) (.int .i64 a)
  have b2 := blk_set b1 (i * 5 + 1) (.int .i64 b)
  have b3 := blk_set b2 (i * 5 + 2) (.int .i64 c)
  have b4 := blk_set b3 (i * 5 + 3) (.slice none 0 0)
  have b5 := blk_set b4 (i * 5 + 4) (.slice none 0 0)
  have hk : ∀ k, k ≠ g → (((((W.setCell ⟨g, i * 5, none⟩ (.int .i64 a)).setCell ⟨g, i * 5 + 1, none⟩ (.int .i64 b)).setCell ⟨g, i * 5 + 2, none⟩ (.int .i64 c)).setCell ⟨g, i * 5 + 3, none⟩ (.slice none 0 0)).setCell ⟨g, i * 5 + 4, none⟩ (.slice none 0 0)).heap[k]? = W.heap[k]? := fun k hk => by
    rw [Below.heap_setCell _ _ _ k hk, Below.heap_setCell _ _ _ k hk, Below.heap_setCell _ _ _ k hk, Below.heap_setCell _ _ _ k hk, Below.heap_setCell _ _ _ k hk]
  refine ⟨((((h.1.setCell (p := ⟨g, i * 5, none⟩) hlo _).setCell (p := ⟨g, i * 5 + 1, none⟩) hlo _).setCell (p := ⟨g, i * 5 + 2, none⟩) hlo _).setCell (p := ⟨g, i * 5 + 3, none⟩) hlo _).setCell (p := ⟨g, i * 5 + 4, none⟩) hlo _, h.2.1, (hk hi (by omega)).trans h.2.2.1, h.2.2.2.1.far hg hk, h.2.2.2.2.write hg b5 hk (by simp) fun j => ?_⟩
  by_cases hij : i = j
  · subst hij
    rw [Array.getElem?_setIfInBounds_ne (by omega)]
    by_cases hb : i * 5 + 3 < vals.size
    · right
      rw [Array.getElem?_setIfInBounds_self_of_lt (by simpa using hb)]
    · left
      rw [Array.getElem?_eq_none (by simp; omega), Array.getElem?_eq_none (by omega)]
  · left
    rw [Array.getElem?_setIfInBounds_ne (by omega), Array.getElem?_setIfInBounds_ne (by omega), Array.getElem?_setIfInBounds_ne (by omega), Array.getElem?_setIfInBounds_ne (by omega), Array.getElem?_setIfInBounds_ne (by omega)]
set_option maxHeartbeats 2000000 in
theorem keeps_calls (x0 x1 x2 : Int) (l3 : List Int) (l4 : List S25) (A3 : Option Addr) (c3 : Nat) (A4 : Option Addr) (c4 : Nat) (w : World) (hok : okT ⟨x0, x1, x2, l3, l4⟩) (hs : tsize ⟨x0, x1, x2, l3, l4⟩ ≤ 2000000)
    (hr3 : Kd.C (Kd.int .u8) w A3 l3.length l3) (hc3 : l3.length ≤ c3) (hr4 : Kd.C k25 w A4 l4.length l4) (hc4 : l4.length ≤ c4) :
    Calls Try.prog 7 #[.agg #[.int .i64 x0, .int .i64 x1, .int .i64 x2, .slice A3 l3.length c3, .slice A4 l4.length c4]] w fun e w' => e = .returned (.bool true) ∧ Below w.heap.size w w' := by
  obtain ⟨kf, hf⟩ := (few_ev ⟨x0, x1, x2, l3, l4⟩ (by omega)).rounds
  obtain ⟨kv, hv⟩ := (valid_ev ⟨x0, x1, x2, l3, l4⟩ hok (by omega)).rounds
  have HF := Lib.hid hf; have HV := Lib.hid hv
  clear hf hv
  obtain ⟨bf, ef⟩ : ∃ b, Hid (tfew ⟨x0, x1, x2, l3, l4⟩ = b) := ⟨_, rfl⟩
  obtain ⟨bv, ev⟩ : ∃ b, Hid (tvalid ⟨x0, x1, x2, l3, l4⟩ = b) := ⟨_, rfl⟩
  rw [ef.out] at HF
  rw [ev.out] at HV
  have HR3 := Lib.hid (hr3)
  have HR4 := Lib.hid (hr4)
  have HB := Lib.hid (Below.refl w.heap.size w)
  clear hr3 hr4
  go_enter Try.func7, Try.ntmps7
  go_wp2_with fail
  refine calls_at (fun W0 hW => ?_)
  have hb : Below w.heap.size w W0 := by rw [hW]; repeat (first | exact Below.refl _ _ | refine Below.alloc ?_ (by first | exact Nat.le_refl _ | (simp <;> omega)) _)
  have nBN : W0.heap[w.heap.size]? = some (.cells #[.int .i64 x0, .int .i64 x1, .int .i64 x2, .slice A3 l3.length c3, .slice A4 l4.length c4] 25 (0, 0)) := by rw [hW]; repeat (first | exact heap_alloc_new _ _ | exact blk_new _ _ _ (by simp) | refine blk_alloc ?_ _)
  clear hW
  replace HR3 := Lib.hid (Kd.C_below HR3.out hb)
  replace HR4 := Lib.hid (Kd.C_below HR4.out hb)
  replace HB := Lib.hid (below_step HB.out hb)
  clear hb
  have BN := Lib.hid nBN
  clear nBN
  refine (capnplaw11_awake.calls true _ rfl).mono ?_
  rintro e w1 ⟨rfl, hb⟩
  replace HR3 := Lib.hid (Kd.C_below HR3.out hb)
  replace HR4 := Lib.hid (Kd.C_below HR4.out hb)
  replace HB := Lib.hid (below_step HB.out hb)
  replace BN := Lib.hid (blk_below BN.out hb)
  clear hb
  have l_BN : w.heap.size < w1.heap.size := blk_lt BN.out
  have q_BN_0 : w1.cell? ⟨w.heap.size, 0, none⟩ = some (.int .i64 x0) := (blk_cell BN.out 0).trans rfl
  have q_BN_1 : w1.cell? ⟨w.heap.size, 1, none⟩ = some (.int .i64 x1) := (blk_cell BN.out 1).trans rfl
  have q_BN_2 : w1.cell? ⟨w.heap.size, 2, none⟩ = some (.int .i64 x2) := (blk_cell BN.out 2).trans rfl
  have q_BN_3 : w1.cell? ⟨w.heap.size, 3, none⟩ = some (.slice A3 l3.length c3) := (blk_cell BN.out 3).trans rfl
  have q_BN_4 : w1.cell? ⟨w.heap.size, 4, none⟩ = some (.slice A4 l4.length c4) := (blk_cell BN.out 4).trans rfl
  go_wp2_with fail
  clear l_BN q_BN_0 q_BN_1 q_BN_2 q_BN_3 q_BN_4
  refine (capnpref10_Few.calls kf x0 x1 x2 A3 c3 l3 A4 c4 l4 bf _ HR3.out hc3 HR4.out hc4 HF.out).mono ?_
  rintro e w2 ⟨rfl, hb⟩
  replace HR3 := Lib.hid (Kd.C_below HR3.out hb)
  replace HR4 := Lib.hid (Kd.C_below HR4.out hb)
  replace HB := Lib.hid (below_step HB.out hb)
  replace BN := Lib.hid (blk_below BN.out hb)
  clear hb
  cases bf with
  | false =>
    have l_BN : w.heap.size < w2.heap.size := blk_lt BN.out
    have q_BN_0 : w2.cell? ⟨w.heap.size, 0, none⟩ = some (.int .i64 x0) := (blk_cell BN.out 0).trans rfl
    have q_BN_1 : w2.cell? ⟨w.heap.size, 1, none⟩ = some (.int .i64 x1) := (blk_cell BN.out 1).trans rfl
    have q_BN_2 : w2.cell? ⟨w.heap.size, 2, none⟩ = some (.int .i64 x2) := (blk_cell BN.out 2).trans rfl
    have q_BN_3 : w2.cell? ⟨w.heap.size, 3, none⟩ = some (.slice A3 l3.length c3) := (blk_cell BN.out 3).trans rfl
    have q_BN_4 : w2.cell? ⟨w.heap.size, 4, none⟩ = some (.slice A4 l4.length c4) := (blk_cell BN.out 4).trans rfl
    go_wp2_with fail
    clear l_BN q_BN_0 q_BN_1 q_BN_2 q_BN_3 q_BN_4
    refine (capnplaw11_awake.calls true _ rfl).mono ?_
    rintro e w3 ⟨rfl, hb⟩
    replace HR3 := Lib.hid (Kd.C_below HR3.out hb)
    replace HR4 := Lib.hid (Kd.C_below HR4.out hb)
    replace HB := Lib.hid (below_step HB.out hb)
    replace BN := Lib.hid (blk_below BN.out hb)
    clear hb
    have l_BN : w.heap.size < w3.heap.size := blk_lt BN.out
    have q_BN_0 : w3.cell? ⟨w.heap.size, 0, none⟩ = some (.int .i64 x0) := (blk_cell BN.out 0).trans rfl
    have q_BN_1 : w3.cell? ⟨w.heap.size, 1, none⟩ = some (.int .i64 x1) := (blk_cell BN.out 1).trans rfl
    have q_BN_2 : w3.cell? ⟨w.heap.size, 2, none⟩ = some (.int .i64 x2) := (blk_cell BN.out 2).trans rfl
    have q_BN_3 : w3.cell? ⟨w.heap.size, 3, none⟩ = some (.slice A3 l3.length c3) := (blk_cell BN.out 3).trans rfl
    have q_BN_4 : w3.cell? ⟨w.heap.size, 4, none⟩ = some (.slice A4 l4.length c4) := (blk_cell BN.out 4).trans rfl
    go_wp2
    go_ret
    exact ⟨rfl, HB.out⟩
  | true =>
    have l_BN : w.heap.size < w2.heap.size := blk_lt BN.out
    have q_BN_0 : w2.cell? ⟨w.heap.size, 0, none⟩ = some (.int .i64 x0) := (blk_cell BN.out 0).trans rfl
    have q_BN_1 : w2.cell? ⟨w.heap.size, 1, none⟩ = some (.int .i64 x1) := (blk_cell BN.out 1).trans rfl
    have q_BN_2 : w2.cell? ⟨w.heap.size, 2, none⟩ = some (.int .i64 x2) := (blk_cell BN.out 2).trans rfl
    have q_BN_3 : w2.cell? ⟨w.heap.size, 3, none⟩ = some (.slice A3 l3.length c3) := (blk_cell BN.out 3).trans rfl
    have q_BN_4 : w2.cell? ⟨w.heap.size, 4, none⟩ = some (.slice A4 l4.length c4) := (blk_cell BN.out 4).trans rfl
    go_wp2_with fail
    clear l_BN q_BN_0 q_BN_1 q_BN_2 q_BN_3 q_BN_4
    refine (capnpref10_Valid.calls kv x0 x1 x2 A3 c3 l3 A4 c4 l4 bv _ HR3.out hc3 HR4.out hc4 HV.out).mono ?_
    rintro e w3 ⟨rfl, hb⟩
    replace HR3 := Lib.hid (Kd.C_below HR3.out hb)
    replace HR4 := Lib.hid (Kd.C_below HR4.out hb)
    replace HB := Lib.hid (below_step HB.out hb)
    replace BN := Lib.hid (blk_below BN.out hb)
    clear hb
    cases bv with
    | false =>
      have l_BN : w.heap.size < w3.heap.size := blk_lt BN.out
      have q_BN_0 : w3.cell? ⟨w.heap.size, 0, none⟩ = some (.int .i64 x0) := (blk_cell BN.out 0).trans rfl
      have q_BN_1 : w3.cell? ⟨w.heap.size, 1, none⟩ = some (.int .i64 x1) := (blk_cell BN.out 1).trans rfl
      have q_BN_2 : w3.cell? ⟨w.heap.size, 2, none⟩ = some (.int .i64 x2) := (blk_cell BN.out 2).trans rfl
      have q_BN_3 : w3.cell? ⟨w.heap.size, 3, none⟩ = some (.slice A3 l3.length c3) := (blk_cell BN.out 3).trans rfl
      have q_BN_4 : w3.cell? ⟨w.heap.size, 4, none⟩ = some (.slice A4 l4.length c4) := (blk_cell BN.out 4).trans rfl
      go_wp2_with fail
      clear l_BN q_BN_0 q_BN_1 q_BN_2 q_BN_3 q_BN_4
      refine (capnplaw11_awake.calls true _ rfl).mono ?_
      rintro e w4 ⟨rfl, hb⟩
      replace HR3 := Lib.hid (Kd.C_below HR3.out hb)
      replace HR4 := Lib.hid (Kd.C_below HR4.out hb)
      replace HB := Lib.hid (below_step HB.out hb)
      replace BN := Lib.hid (blk_below BN.out hb)
      clear hb
      have l_BN : w.heap.size < w4.heap.size := blk_lt BN.out
      have q_BN_0 : w4.cell? ⟨w.heap.size, 0, none⟩ = some (.int .i64 x0) := (blk_cell BN.out 0).trans rfl
      have q_BN_1 : w4.cell? ⟨w.heap.size, 1, none⟩ = some (.int .i64 x1) := (blk_cell BN.out 1).trans rfl
      have q_BN_2 : w4.cell? ⟨w.heap.size, 2, none⟩ = some (.int .i64 x2) := (blk_cell BN.out 2).trans rfl
      have q_BN_3 : w4.cell? ⟨w.heap.size, 3, none⟩ = some (.slice A3 l3.length c3) := (blk_cell BN.out 3).trans rfl
      have q_BN_4 : w4.cell? ⟨w.heap.size, 4, none⟩ = some (.slice A4 l4.length c4) := (blk_cell BN.out 4).trans rfl
      go_wp2
      go_ret
      exact ⟨rfl, HB.out⟩
    | true =>
      have hw := valid_words ⟨x0, x1, x2, l3, l4⟩ ev.out
      obtain ⟨kc, hkc⟩ := (copy_ev ⟨x0, x1, x2, l3, l4⟩ (by omega)).rounds
      obtain ⟨kt, hkt⟩ := (ttrim_ev ⟨x0, x1, x2, l3, l4⟩ hw (by omega)).rounds
      obtain ⟨ke, hke⟩ := (equal_ev ⟨x0, x1, x2, l3, l4⟩ ⟨x0, x1, x2, l3, l4⟩ (by omega)).rounds
      rw [eqT_true rfl] at hke
      obtain ⟨T, hT⟩ : ∃ T, ttrim ⟨x0, x1, x2, l3, l4⟩ = T := ⟨_, rfl⟩
      rw [hT] at hkt
      have HKC := Lib.hid hkc; have HKT := Lib.hid hkt; have HKE := Lib.hid hke
      clear hkc hkt hke hT hw hok hs ef ev HF HV
      have l_BN : w.heap.size < w3.heap.size := blk_lt BN.out
      have q_BN_0 : w3.cell? ⟨w.heap.size, 0, none⟩ = some (.int .i64 x0) := (blk_cell BN.out 0).trans rfl
      have q_BN_1 : w3.cell? ⟨w.heap.size, 1, none⟩ = some (.int .i64 x1) := (blk_cell BN.out 1).trans rfl
      have q_BN_2 : w3.cell? ⟨w.heap.size, 2, none⟩ = some (.int .i64 x2) := (blk_cell BN.out 2).trans rfl
      have q_BN_3 : w3.cell? ⟨w.heap.size, 3, none⟩ = some (.slice A3 l3.length c3) := (blk_cell BN.out 3).trans rfl
      have q_BN_4 : w3.cell? ⟨w.heap.size, 4, none⟩ = some (.slice A4 l4.length c4) := (blk_cell BN.out 4).trans rfl
      go_wp2_with fail
      clear l_BN q_BN_0 q_BN_1 q_BN_2 q_BN_3 q_BN_4
      refine (capnpref10_Copy.calls kc x0 x1 x2 A3 c3 l3 A4 c4 l4 _ _ _ _ _ _ HR3.out hc3 HR4.out hc4 HKC.out).mono ?_
      rintro e w4 ⟨v3, v4, rfl, hR3, hR4, hb⟩
      replace HR3 := Lib.hid (Kd.C_below HR3.out hb)
      replace HR4 := Lib.hid (Kd.C_below HR4.out hb)
      replace HB := Lib.hid (below_step HB.out hb)
      replace BN := Lib.hid (blk_below BN.out hb)
      clear hb
      obtain ⟨D3, d3, rfl, hd3, hD3⟩ := Kd.R_reads hR3
      obtain ⟨D4, d4, rfl, hd4, hD4⟩ := Kd.R_reads hR4
      clear hR3 hR4
      have HD3 := Lib.hid (hD3)
      have HD4 := Lib.hid (hD4)
      clear hD3 hD4
      have l_BN : w.heap.size < w4.heap.size := blk_lt BN.out
      have q_BN_0 : w4.cell? ⟨w.heap.size, 0, none⟩ = some (.int .i64 x0) := (blk_cell BN.out 0).trans rfl
      have q_BN_1 : w4.cell? ⟨w.heap.size, 1, none⟩ = some (.int .i64 x1) := (blk_cell BN.out 1).trans rfl
      have q_BN_2 : w4.cell? ⟨w.heap.size, 2, none⟩ = some (.int .i64 x2) := (blk_cell BN.out 2).trans rfl
      have q_BN_3 : w4.cell? ⟨w.heap.size, 3, none⟩ = some (.slice A3 l3.length c3) := (blk_cell BN.out 3).trans rfl
      have q_BN_4 : w4.cell? ⟨w.heap.size, 4, none⟩ = some (.slice A4 l4.length c4) := (blk_cell BN.out 4).trans rfl
      go_wp2_with fail
      clear l_BN q_BN_0 q_BN_1 q_BN_2 q_BN_3 q_BN_4
      refine calls_at (fun W1 hW => ?_)
      have hb : Below w4.heap.size w4 W1 := by rw [hW]; repeat (first | exact Below.refl _ _ | refine Below.alloc ?_ (by first | exact Nat.le_refl _ | (simp <;> omega)) _)
      have nBO : W1.heap[w4.heap.size]? = some (.cells #[.int .i64 x0, .int .i64 x1, .int .i64 x2, .slice D3 l3.length d3, .slice D4 l4.length d4] 25 (0, 0)) := by rw [hW]; repeat (first | exact heap_alloc_new _ _ | exact blk_new _ _ _ (by simp) | refine blk_alloc ?_ _)
      clear hW
      replace HR3 := Lib.hid (Kd.C_below HR3.out hb)
      replace HR4 := Lib.hid (Kd.C_below HR4.out hb)
      replace HB := Lib.hid (below_step HB.out hb)
      replace HD3 := Lib.hid (Kd.C_below HD3.out hb)
      replace HD4 := Lib.hid (Kd.C_below HD4.out hb)
      replace BN := Lib.hid (blk_below BN.out hb)
      clear hb
      have BO := Lib.hid nBO
      clear nBO
      refine (trim_Trim.calls kt x0 x1 x2 (fun _ => True) D3 d3 l3 (fun _ => True) D4 d4 l4 _ _ _ _ _ _ (V_ints HD3.out hd3) (V_nodes HD4.out hd4) HKT.out).mono ?_
      rintro e w5 ⟨v3, v4, rfl, hR3, hR4, hb⟩
      have hU := u8_of_R hR3 hb.size
      have hK := k_of_R hR4 hb.size
      have hl3 : T.f3.length ≤ 9223372036854775807 := by obtain ⟨_, _, _, _, hE⟩ := Kd.R_reads hR3; exact hE.2.1
      have hl4 : T.f4.length ≤ 9223372036854775807 := by obtain ⟨_, _, _, _, hE⟩ := Kd.R_reads hR4; exact hE.2.1
      clear hR3 hR4 HKT HKC
      generalize T.f3.length = n3 at *
      generalize T.f4.length = n4 at *
      generalize T.f0 = t0 at *
      generalize T.f1 = t1 at *
      generalize T.f2 = t2 at *
      obtain ⟨E3, e3, rfl⟩ := hU.slice
      obtain ⟨E4, e4, rfl⟩ := hK.slice
      have HI := Lib.hid (show KInv W1 w5.heap.size #[.int .i64 t0, .int .i64 t1, .int .i64 t2, .slice E3 n3 e3, .slice E4 n4 e4] (.slice E3 n3 e3) n3 (.slice E4 n4 e4) n4 (w5.alloc (.cells #[.int .i64 t0, .int .i64 t1, .int .i64 t2, .slice E3 n3 e3, .slice E4 n4 e4] 25)) from ⟨hb.alloc hb.size _, hb.size, heap_alloc_new _ _, hU.same (fun k _ hk _ => Below.heap_alloc _ _ k hk), hK.same (fun k _ hk => Below.heap_alloc _ _ k hk)⟩)
      clear hb hU hK
      go_wp2_with fail
      go_loopw [5] (fun i wr => ∃ j : Nat, j ≤ n3 ∧ i = .int .i64 j ∧ KInv W1 w5.heap.size #[.int .i64 t0, .int .i64 t1, .int .i64 t2, .slice E3 n3 e3, .slice E4 n4 e4] (.slice E3 n3 e3) n3 (.slice E4 n4 e4) n4 wr) (fun i _ => n3 - (intOf i).toNat)
      case atStart => exact ⟨0, Nat.zero_le _, rfl, HI.out⟩
      case round =>
        clear HI
        obtain ⟨j, hj, rfl, hI⟩ := hrel
        have lT : w5.heap.size < wr.heap.size := blk_lt hI.2.2.1
        have q0 : wr.cell? ⟨w5.heap.size, 0, none⟩ = some (.int .i64 t0) := (blk_cell hI.2.2.1 0).trans rfl
        have q1 : wr.cell? ⟨w5.heap.size, 1, none⟩ = some (.int .i64 t1) := (blk_cell hI.2.2.1 1).trans rfl
        have q2 : wr.cell? ⟨w5.heap.size, 2, none⟩ = some (.int .i64 t2) := (blk_cell hI.2.2.1 2).trans rfl
        have q3 : wr.cell? ⟨w5.heap.size, 3, none⟩ = some (.slice E3 n3 e3) := (blk_cell hI.2.2.1 3).trans rfl
        have q4 : wr.cell? ⟨w5.heap.size, 4, none⟩ = some (.slice E4 n4 e4) := (blk_cell hI.2.2.1 4).trans rfl
        by_cases hlt : j < n3
        · rcases hI.2.2.2.1 with ⟨_, h0⟩ | ⟨g, c, vals, he, _, _, hlo, hhi, hg, hv⟩
          · omega
          · obtain ⟨x, hx⟩ := hv j hlt
            injection he with e1 e2 e3'
            subst e1 e3'
            have hc : wr.cell? ⟨g, j, none⟩ = some (.int .u8 x) := (blk_cell hg j).trans hx
            have hf := blk_frozen hg j
            have lg := blk_lt hg
            have HG := Lib.hid hg
            have HI := Lib.hid hI
            clear hI hg hv hx
            have hd : decide ((j : Int) < (n3 : Int)) = true := by simp; omega
            go_wp2
            go_roundw
            case rel => exact ⟨j + 1, by omega, by go_num, HI.out.put HG.out hlo j _⟩
            case measure => simp [intOf]; omega
        · have hd : decide ((j : Int) < (n3 : Int)) = false := by simp; omega
          have HI := Lib.hid hI
          clear hI
          go_wp2_with fail
          clear q0 q1 q2 q3 q4 lT hd
          go_loopw [6] (fun i wr => ∃ j : Nat, j ≤ n4 ∧ i = .int .i64 j ∧ KInv W1 w5.heap.size #[.int .i64 t0, .int .i64 t1, .int .i64 t2, .slice E3 n3 e3, .slice E4 n4 e4] (.slice E3 n3 e3) n3 (.slice E4 n4 e4) n4 wr) (fun i _ => n4 - (intOf i).toNat)
          case atStart => exact ⟨0, Nat.zero_le _, rfl, HI.out⟩
          case round =>
            clear HI
            clear hlt hj
            obtain ⟨i, hi, rfl, hI⟩ := hrel
            have lT : w5.heap.size < wr.heap.size := blk_lt hI.2.2.1
            have q0 : wr.cell? ⟨w5.heap.size, 0, none⟩ = some (.int .i64 t0) := (blk_cell hI.2.2.1 0).trans rfl
            have q1 : wr.cell? ⟨w5.heap.size, 1, none⟩ = some (.int .i64 t1) := (blk_cell hI.2.2.1 1).trans rfl
            have q2 : wr.cell? ⟨w5.heap.size, 2, none⟩ = some (.int .i64 t2) := (blk_cell hI.2.2.1 2).trans rfl
            have q3 : wr.cell? ⟨w5.heap.size, 3, none⟩ = some (.slice E3 n3 e3) := (blk_cell hI.2.2.1 3).trans rfl
            have q4 : wr.cell? ⟨w5.heap.size, 4, none⟩ = some (.slice E4 n4 e4) := (blk_cell hI.2.2.1 4).trans rfl
            by_cases hlt : i < n4
            · rcases hI.2.2.2.2 with ⟨_, h0⟩ | ⟨g, c, vals, he, _, hlo, hhi, hg, hsz, hv⟩
              · omega
              · obtain ⟨v5, n5, hx, hu⟩ := hv i hlt
                injection he with e1 e2 e3'
                subst e1 e3'
                obtain ⟨E5, e5, rfl⟩ := hu.slice
                have hn5 : n5 ≤ 9223372036854775807 := by rcases hu with ⟨_, h0⟩ | ⟨_, _, _, _, _, h2, _⟩ <;> omega
                have hd : decide ((i : Int) < (n4 : Int)) = true := by simp; omega
                have HJ := Lib.hid (show ∃ vals, wr.heap[g]? = some (.cells vals 25 (0, 0)) ∧ n4 * 5 ≤ vals.size ∧ vals[i * 5 + 3]? = some (.slice E5 n5 e5) from ⟨vals, hg, hsz, hx⟩)
                have HU5 := Lib.hid hu
                have HI := Lib.hid hI
                clear hI hg hsz hv hx hu
                go_wp2_with fail
                clear q0 q1 q2 q3 q4 lT hd
                go_loopw [7] (fun q wq => ∃ k : Nat, k ≤ n5 ∧ q = .int .i64 k ∧ KInv W1 w5.heap.size #[.int .i64 t0, .int .i64 t1, .int .i64 t2, .slice E3 n3 e3, .slice (some ⟨g, 0, none⟩) n4 e4] (.slice E3 n3 e3) n3 (.slice (some ⟨g, 0, none⟩) n4 e4) n4 wq ∧ (∃ vals, wq.heap[g]? = some (.cells vals 25 (0, 0)) ∧ n4 * 5 ≤ vals.size ∧ vals[i * 5 + 3]? = some (.slice E5 n5 e5)) ∧ U8Row wq W1.heap.size w5.heap.size (.slice E5 n5 e5) n5) (fun q _ => n5 - (intOf q).toNat)
                case atStart => exact ⟨0, Nat.zero_le _, rfl, HI.out, HJ.out, HU5.out⟩
                case round =>
                  clear HI HJ HU5
                  obtain ⟨k, hk, rfl, hI, ⟨vals, hg, hsz, hx⟩, hu⟩ := hrel
                  have lT : w5.heap.size < wr.heap.size := blk_lt hI.2.2.1
                  have q0 : wr.cell? ⟨w5.heap.size, 0, none⟩ = some (.int .i64 t0) := (blk_cell hI.2.2.1 0).trans rfl
                  have q1 : wr.cell? ⟨w5.heap.size, 1, none⟩ = some (.int .i64 t1) := (blk_cell hI.2.2.1 1).trans rfl
                  have q2 : wr.cell? ⟨w5.heap.size, 2, none⟩ = some (.int .i64 t2) := (blk_cell hI.2.2.1 2).trans rfl
                  have q3 : wr.cell? ⟨w5.heap.size, 3, none⟩ = some (.slice E3 n3 e3) := (blk_cell hI.2.2.1 3).trans rfl
                  have q4 : wr.cell? ⟨w5.heap.size, 4, none⟩ = some (.slice (some ⟨g, 0, none⟩) n4 e4) := (blk_cell hI.2.2.1 4).trans rfl
                  have lg : g < wr.heap.size := blk_lt hg
                  have hx' : wr.cell? ⟨g, i * 5 + 3, none⟩ = some (.slice E5 n5 e5) := (blk_cell hg _).trans hx
                  by_cases hlk : k < n5
                  · rcases hu with ⟨_, h0⟩ | ⟨g5, c5, vals5, he, _, _, hlo5, hhi5, hg5, hv5⟩
                    · omega
                    · have hu' : U8Row wr W1.heap.size w5.heap.size (.slice E5 n5 e5) n5 := .inr ⟨g5, c5, vals5, he, by assumption, by assumption, hlo5, hhi5, hg5, hv5⟩
                      obtain ⟨x, hy⟩ := hv5 k hlk
                      injection he with e1 e2 e3'
                      subst e1 e3'
                      have hc5 : wr.cell? ⟨g5, k, none⟩ = some (.int .u8 x) := (blk_cell hg5 k).trans hy
                      have hf5 := blk_frozen hg5 k
                      have lg5 := blk_lt hg5
                      have HG5 := Lib.hid hg5
                      have HJ := Lib.hid (show ∃ vals, wr.heap[g]? = some (.cells vals 25 (0, 0)) ∧ n4 * 5 ≤ vals.size ∧ vals[i * 5 + 3]? = some (.slice (some ⟨g5, 0, none⟩) n5 e5) from ⟨vals, hg, hsz, hx⟩)
                      have HU5 := Lib.hid hu'
                      have HI := Lib.hid hI
                      clear hI hg5 hv5 hy hg hsz hx hu'
                      have hd : decide ((k : Int) < (n5 : Int)) = true := by simp; omega
                      go_wp2
                      go_roundw
                      case rel =>
                        obtain ⟨vals, hg, hsz, hx⟩ := HJ.out
                        exact ⟨k + 1, by omega, by go_num, HI.out.put HG5.out hlo5 k _, ⟨vals, blk_far hg (p := ⟨g5, k, none⟩) (blk_ne hg HG5.out (by decide)) _, hsz, hx⟩, HU5.out.put k _ HG5.out⟩
                      case measure => simp [intOf]; omega
                  · have hd : decide ((k : Int) < (n5 : Int)) = false := by simp; omega
                    obtain ⟨u0, hu0⟩ : ∃ u, vals[i * 5]? = some u := ⟨_, Array.getElem?_eq_getElem (by omega)⟩
                    have hz0 : wr.cell? ⟨g, i * 5, none⟩ = some u0 := (blk_cell hg _).trans hu0
                    have hf0 := blk_frozen hg (i * 5)
                    obtain ⟨u1, hu1⟩ : ∃ u, vals[i * 5 + 1]? = some u := ⟨_, Array.getElem?_eq_getElem (by omega)⟩
                    have hz1 : wr.cell? ⟨g, i * 5 + 1, none⟩ = some u1 := (blk_cell hg _).trans hu1
                    have hf1 := blk_frozen hg (i * 5 + 1)
                    obtain ⟨u2, hu2⟩ : ∃ u, vals[i * 5 + 2]? = some u := ⟨_, Array.getElem?_eq_getElem (by omega)⟩
                    have hz2 : wr.cell? ⟨g, i * 5 + 2, none⟩ = some u2 := (blk_cell hg _).trans hu2
                    have hf2 := blk_frozen hg (i * 5 + 2)
                    have hf3 := blk_frozen hg (i * 5 + 3)
                    obtain ⟨u4, hu4⟩ : ∃ u, vals[i * 5 + 4]? = some u := ⟨_, Array.getElem?_eq_getElem (by omega)⟩
                    have hz4 : wr.cell? ⟨g, i * 5 + 4, none⟩ = some u4 := (blk_cell hg _).trans hu4
                    have hf4 := blk_frozen hg (i * 5 + 4)
                    have HG := Lib.hid (show ∃ vals, wr.heap[g]? = some (.cells vals 25 (0, 0)) ∧ n4 * 5 ≤ vals.size from ⟨vals, hg, hsz⟩)
                    have HI := Lib.hid hI
                    clear hI hg hsz hu hu0 hu1 hu2 hu4 hx
                    go_wp2
                    exact ⟨⟨i + 1, by omega, by go_num, HI.out.write HG.out hlo hhi i _ _ _⟩, by simp [intOf]; omega⟩
            · have hd : decide ((i : Int) < (n4 : Int)) = false := by simp; omega
              have hb := hI.1
              clear hI hi
              replace HR3 := Lib.hid (Kd.C_below HR3.out hb)
              replace HR4 := Lib.hid (Kd.C_below HR4.out hb)
              replace HB := Lib.hid (below_step HB.out hb)
              replace HD3 := Lib.hid (Kd.C_below HD3.out hb)
              replace HD4 := Lib.hid (Kd.C_below HD4.out hb)
              replace BN := Lib.hid (blk_below BN.out hb)
              replace BO := Lib.hid (blk_below BO.out hb)
              have HB2 := HB.out
              have l_BN : w.heap.size < wr.heap.size := blk_lt BN.out
              have q_BN_0 : wr.cell? ⟨w.heap.size, 0, none⟩ = some (.int .i64 x0) := (blk_cell BN.out 0).trans rfl
              have q_BN_1 : wr.cell? ⟨w.heap.size, 1, none⟩ = some (.int .i64 x1) := (blk_cell BN.out 1).trans rfl
              have q_BN_2 : wr.cell? ⟨w.heap.size, 2, none⟩ = some (.int .i64 x2) := (blk_cell BN.out 2).trans rfl
              have q_BN_3 : wr.cell? ⟨w.heap.size, 3, none⟩ = some (.slice A3 l3.length c3) := (blk_cell BN.out 3).trans rfl
              have q_BN_4 : wr.cell? ⟨w.heap.size, 4, none⟩ = some (.slice A4 l4.length c4) := (blk_cell BN.out 4).trans rfl
              have l_BO : w4.heap.size < wr.heap.size := blk_lt BO.out
              have q_BO_0 : wr.cell? ⟨w4.heap.size, 0, none⟩ = some (.int .i64 x0) := (blk_cell BO.out 0).trans rfl
              have q_BO_1 : wr.cell? ⟨w4.heap.size, 1, none⟩ = some (.int .i64 x1) := (blk_cell BO.out 1).trans rfl
              have q_BO_2 : wr.cell? ⟨w4.heap.size, 2, none⟩ = some (.int .i64 x2) := (blk_cell BO.out 2).trans rfl
              have q_BO_3 : wr.cell? ⟨w4.heap.size, 3, none⟩ = some (.slice D3 l3.length d3) := (blk_cell BO.out 3).trans rfl
              have q_BO_4 : wr.cell? ⟨w4.heap.size, 4, none⟩ = some (.slice D4 l4.length d4) := (blk_cell BO.out 4).trans rfl
              go_wp2_with fail
              clear l_BN q_BN_0 q_BN_1 q_BN_2 q_BN_3 q_BN_4 l_BO q_BO_0 q_BO_1 q_BO_2 q_BO_3 q_BO_4
              refine (capnpref10_Equal.calls ke x0 x1 x2 D3 d3 l3 D4 d4 l4 x0 x1 x2 A3 c3 l3 A4 c4 l4 true _ HD3.out hd3 HD4.out hd4 HR3.out hc3 HR4.out hc4 HKE.out).mono ?_
              rintro e w5 ⟨rfl, hb⟩
              replace HR3 := Lib.hid (Kd.C_below HR3.out hb)
              replace HR4 := Lib.hid (Kd.C_below HR4.out hb)
              replace HB := Lib.hid (below_step HB.out hb)
              replace HD3 := Lib.hid (Kd.C_below HD3.out hb)
              replace HD4 := Lib.hid (Kd.C_below HD4.out hb)
              replace BN := Lib.hid (blk_below BN.out hb)
              replace BO := Lib.hid (blk_below BO.out hb)
              clear hb
              go_wp2
              go_ret
              exact ⟨rfl, HB.out⟩
theorem keeps_true (n : S25) {A3 : Option Addr} {c3 : Nat} {A4 : Option Addr} {c4 : Nat} (w : World) (hok : okT n) (hs : tsize n ≤ 2000000) (hr3 : Kd.C (Kd.int .u8) w A3 n.f3.length n.f3) (hc3 : n.f3.length ≤ c3) (hr4 : Kd.C k25 w A4 n.f4.length n.f4) (hc4 : n.f4.length ≤ c4) :
    Calls Try.prog 7 #[.agg #[.int .i64 n.f0, .int .i64 n.f1, .int .i64 n.f2, .slice A3 n.f3.length c3, .slice A4 n.f4.length c4]] w fun e w' => e = .returned (.bool true) ∧ Below w.heap.size w w' := by
  cases n
  exact keeps_calls _ _ _ _ _ _ _ _ _ w hok hs hr3 hc3 hr4 hc4
end Go.Proofs.Ytmbockhcmhghlaa.Pr
end
section
namespace Go.Proofs.Ytmbockhcmhghlaa.Pr
open Go.RowKit Go.ChangeShapes Go.WideShapes Go.ChangeAt Go.Proofs.YtmbockhcmhghlaaW.PrintWords Go.Proofs.YtmbockhcmhghlaaW.PrintLast Go.Proofs.YtmbockhcmhghlaaW.PrintMore
set_option linter.unusedVariables false
set_option linter.unusedSimpArgs false
theorem byte_range {n : Int} (h : (Lit.int .u8 n).wf = true) : 0 ≤ n ∧ n ≤ 255 := by
  simpa [Lit.wf, IntKind.min, IntKind.max, IntKind.signed, IntKind.bits] using h
theorem cells_each {w : World} {base : Nat} {a : Addr} {n : Nat} {cs : List Value} (h : w.cells? base a n = some cs) : cs.length = n ∧ ∀ (i : Nat) (u : Value), cs[i]? = some u → w.cell? (a.add i) = some u := by
  unfold World.cells? at h
  split at h
  · have hl := mapM_some_length h
    refine ⟨by simpa using hl, fun i u hu => ?_⟩
    have hi : i < n := by
      have := (List.getElem?_eq_some_iff.1 hu).1
      simp at hl; omega
    have := mapM_some_get h i i (by simp [hi])
    rw [this, hu]
  · cases h
section
variable {H : Type} {enc : TypeId × Value → H} {w : World} {base : Nat} {held : Bool}
theorem bulk_bytes {fuel : Nat} {cs : List Value} {x : DataW H × List MemPlace} (h : DataW.trod enc Try.prog w base (fun _ => true) held fuel 22 cs = some x) :
    ∃ (A : Option Addr) (c : Nat) (xs : List Int), cs = [.slice A xs.length c] ∧ xs.length ≤ c ∧ (Kd.int .u8).C w A xs.length xs ∧ (∀ n ∈ xs, 0 ≤ n ∧ n ≤ 255) ∧ xs.length + 1 ≤ Rows.uptoBulk x.1 := by
  rcases open_ints Try.underlying22 Try.underlying5 (by kernel_rfl) h with ⟨rfl, rfl⟩ | ⟨ad, len, cap, zs, rfl, hb, hle, hm, hz, rfl, hcell, hwz⟩
  · exact ⟨none, 0, [], rfl, Nat.le_refl _, Kd.C_nil _ _, by simp, by simp [Rows.uptoBulk]⟩
  · have hzl : zs.length = cap := by simpa using hz
    have htl : (zs.take len).length = len := by simp; omega
    have hlits : ∀ l : List Int, Rows.uptoBulkAll (lits (H := H) .u8 l) = l.length := fun l => by
      induction l with
      | nil => simp [lits, Rows.uptoBulkAll]
      | cons y l ih =>
        simp only [lits, List.map_cons, Rows.uptoBulkAll, Rows.uptoBulk, List.length_cons] at ih ⊢
        omega
    refine ⟨some ad, cap, zs.take len, by rw [htl], by omega, ⟨rfl, by rw [htl]; simp only [maxLen] at hm; omega, fun hp => ⟨ad, rfl, fun j p hj => ⟨[.int .u8 p], rfl, rfl, fun i u hu => ?_⟩⟩⟩, fun n hn => byte_range (hwz n (List.mem_of_mem_take hn)), ?_⟩
    · match i with
      | 0 =>
        obtain rfl : Value.int .u8 p = u := by simpa using hu
        have hjl := (List.getElem?_eq_some_iff.1 hj).1
        rw [htl] at hjl
        have := hcell j (by omega)
        rw [List.getElem?_take_of_lt hjl] at hj
        rw [List.getD_eq_getElem?_getD, hj] at this
        show w.cell? (ad.add (j * 1 + 0)) = _
        rw [Nat.mul_one, Nat.add_zero]
        exact this
      | i + 1 => simp at hu
    · simp only [Rows.uptoBulk, hlits]
      omega
theorem sizes_bulk : ∀ (L : List S25) (ds : List (DataW H)), L.length = ds.length → (∀ (i : Nat) (x : S25) (d : DataW H), L[i]? = some x → ds[i]? = some d → tsize x ≤ Rows.uptoBulk d) → tsizes L ≤ Rows.uptoBulkAll ds
  | [], _, _, _ => by simp [tsizes]
  | x :: L, [], h, _ => by simp at h
  | x :: L, d :: ds, h, hx => by
    have h1 := hx 0 x d rfl rfl
    have h2 := sizes_bulk L ds (by simpa using h) (fun i y e h1 h2 => hx (i + 1) y e (by simpa using h1) (by simpa using h2))
    simp only [tsizes, Rows.uptoBulkAll]; omega
theorem open_node : ∀ (fuel : Nat) (cs : List Value) (x : DataW H × List MemPlace), DataW.trod enc Try.prog w base (fun _ => true) held fuel 25 cs = some x → ∃ a : S25, k25.K w a cs ∧ okT a ∧ tsize a ≤ Rows.uptoBulk x.1 := by
  intro fuel
  induction fuel using Nat.strongRecOn with
  | _ fuel ih =>
  intro cs x h
  obtain ⟨xs, n, rfl, rfl, hl, hlen, hf⟩ := DataW.trod_struct Try.underlying25 h
  have z25 : Try.prog.cellsOf 25 = 5 := by kernel_rfl
  have z3 : Try.prog.cellsOf 3 = 1 := by kernel_rfl
  have zb : Try.prog.cellsOf 22 = 1 := by kernel_rfl
  have zn : Try.prog.cellsOf 23 = 1 := by kernel_rfl
  rw [z25] at hl
  match xs, hlen, cs, hl with
  | [y0, y1, y2, y3, y4], _, [c0, c1, c2, c3, c4], _ =>
  have h0 : DataW.trod enc Try.prog w base (fun _ => true) held n 3 [c0] = some y0 := by simpa [z3] using hf 0 _ rfl
  have h1 : DataW.trod enc Try.prog w base (fun _ => true) held n 3 [c1] = some y1 := by simpa [z3] using hf 1 _ rfl
  have h2 : DataW.trod enc Try.prog w base (fun _ => true) held n 3 [c2] = some y2 := by simpa [z3] using hf 2 _ rfl
  have h3 : DataW.trod enc Try.prog w base (fun _ => true) held n 22 [c3] = some y3 := by simpa [zb] using hf 3 _ rfl
  have h4 : DataW.trod enc Try.prog w base (fun _ => true) held n 23 [c4] = some y4 := by simpa [zn] using hf 4 _ rfl
  obtain ⟨n0, e0, rfl, _⟩ := DataW.trod_int Try.underlying3 h0
  obtain ⟨n1, e1, rfl, _⟩ := DataW.trod_int Try.underlying3 h1
  obtain ⟨n2, e2, rfl, _⟩ := DataW.trod_int Try.underlying3 h2
  obtain ⟨A3, k3, zs, e3, l3, g3, hzb, hb3⟩ := bulk_bytes h3
  simp only [List.cons.injEq, and_true] at e0 e1 e2 e3
  subst e0 e1 e2 e3
  have kids : ∃ (A : Option Addr) (c : Nat) (L : List S25), c4 = .slice A L.length c ∧ L.length ≤ c ∧ k25.C w A L.length L ∧ (∀ a ∈ L, okT a) ∧ tsizes L ≤ Rows.uptoBulk y4.1 := by
    rcases DataW.trod_slice Try.underlying23 h4 with ⟨e4, rfl⟩ | ⟨ad, len, cap, elems, rest, m, rfl, e4, rfl, hb, hle, hmax, hel0, hel, _, _⟩
    · simp only [List.cons.injEq, and_true] at e4
      exact ⟨none, 0, [], e4, Nat.le_refl _, Kd.C_nil _ _, by simp, by simp [tsizes]⟩
    · simp only [List.cons.injEq, and_true] at e4
      have each : ∀ i, i < len → ∃ (cs' : List Value) (a : S25), (∀ (j : Nat) (u : Value), cs'[j]? = some u → w.cell? ((ad.add (i * 5)).add j) = some u) ∧ cs'.length = 5 ∧ k25.K w a cs' ∧ okT a ∧ ∀ d, (elems.map (·.1))[i]? = some d → tsize a ≤ Rows.uptoBulk d := fun i hi => by
        have hq := hel i hi
        rw [z25, List.getElem?_eq_getElem (by omega)] at hq
        obtain ⟨cs', hc, ht⟩ := Option.bind_eq_some_iff.1 hq
        obtain ⟨a, hK, hok, hsz⟩ := ih m (by omega) cs' _ ht
        obtain ⟨hlc, hcc⟩ := cells_each hc
        refine ⟨cs', a, hcc, hlc, hK, hok, fun d hd => ?_⟩
        rw [List.getElem?_map, List.getElem?_eq_getElem (by omega)] at hd
        obtain rfl : elems[i].1 = d := by simpa using hd
        exact hsz
      classical
      let f : Nat → S25 := fun i => if hi : i < len then (each i hi).choose_spec.choose else ⟨0, 0, 0, [], []⟩
      have hfs : ∀ i (hi : i < len), f i = (each i hi).choose_spec.choose := fun i hi => dif_pos hi
      have hL : ((List.range len).map f).length = len := by simp
      have hget : ∀ (j : Nat) (p : S25), ((List.range len).map f)[j]? = some p → ∃ hj : j < len, p = (each j hj).choose_spec.choose := fun j p hp => by
        have hj : j < len := by have := (List.getElem?_eq_some_iff.1 hp).1; rwa [hL] at this
        refine ⟨hj, ?_⟩
        rw [← hfs j hj]
        simp [hj] at hp
        exact hp.symm
      refine ⟨some ad, cap, (List.range len).map f, by rw [hL]; exact e4, by rw [hL]; exact hle, ⟨rfl, by rw [hL]; simp only [maxLen] at hmax; omega, fun hp => ⟨ad, rfl, fun j p hj => ?_⟩⟩, fun a ha => ?_, ?_⟩
      · obtain ⟨hjl, rfl⟩ := hget j p hj
        obtain ⟨hc, hlc, hK, _⟩ := (each j hjl).choose_spec.choose_spec
        refine ⟨(each j hjl).choose, hlc, hK, fun i u hu => ?_⟩
        have := hc i u hu
        rw [Addr.add_add] at this
        exact this
      · obtain ⟨j, hj⟩ := List.getElem?_of_mem ha
        obtain ⟨hjl, rfl⟩ := hget j a hj
        exact (each j hjl).choose_spec.choose_spec.2.2.2.1
      · refine Nat.le_trans (sizes_bulk _ (elems.map (·.1)) (by simp; omega) fun i x d hx hd => ?_) (by simp only [Rows.uptoBulk]; omega)
        obtain ⟨hjl, rfl⟩ := hget i x hx
        exact (each i hjl).choose_spec.choose_spec.2.2.2.2 d hd
  obtain ⟨A4, k4, L, rfl, l4, g4, hLok, hb4⟩ := kids
  refine ⟨⟨n0, n1, n2, zs, L⟩, k25_mk w ⟨n0, n1, n2, zs, L⟩ l3 g3 l4 g4, .mk hzb hLok, ?_⟩
  simp only [tsize, Rows.uptoBulk, Rows.uptoBulkAll, List.map_cons, List.map_nil]
  omega
end
end Go.Proofs.Ytmbockhcmhghlaa.Pr
end
section
namespace Go.Proofs.Ytmbockhcmhghlaa.trimKeeps
open Go.ChangeShapes Go.WideShapes Go.ChangeAt Go.RowKit Go.Joins Go.Proofs.Ytmbockhcmhghlaa.Pr
set_option linter.unusedVariables false
set_option linter.unusedSimpArgs false
theorem own : ownKnob Try.prog.godebug = none := by kernel_rfl
theorem laidOut : laidOutB Try.prog = true := by kernel_rfl
theorem contract (H : Type) (enc : TypeId × Value → H) (W : World) (base : Nat) (args : Array Value) (ds gs : List (DataW H)) (before : List MemPlace)
    (hval0 : ∀ (j : Nat) t v, Try.f7.params[j]? = some t → args[j]? = some v → Value.okWide Try.prog W .any base t v)
    (hW : DataW.Whole enc Try.prog Try.f7.params.toList Rows.trimKeepsSpec.vars false W args.toList ds gs before) (hbulk : Rows.uptoSmall H (ds ++ gs) = true) :
    Calls Try.prog 7 args W fun e W' => ∃ v, e = .returned v ∧ Rows.trimKeepsSpec.post enc Try.prog Try.f7 false true false false W args v W' := by
  have hval : ∀ (j : Nat) t v, Try.f7.params[j]? = some t → args[j]? = some v → Value.okWide Try.prog W .any base t v := hval0
  have hW' := hW
  obtain ⟨p, q, hA0, hV, rfl, hfz, hnd⟩ := hW
  have hA : DataW.TrodAll enc Try.prog W 0 (fun _ => true) true Try.f7.params.toList args.toList ds p := hA0
  rw [Try.params7] at hA hval
  obtain ⟨v0, vs0, d0, ds0, p0, q0, hargs, rfl, rfl, h0, r0⟩ := trodAll_cons hA
  obtain ⟨rfl, rfl, rfl⟩ := trodAll_nil r0
  obtain rfl : args = #[v0] := by cases args; simp_all
  obtain ⟨rfl, rfl⟩ := trodVars_none hV
  have k0 := h0
  have lt0 : ∀ x ∈ p0, x.block < W.heap.size := by obtain ⟨m, hm⟩ := k0; exact DataW.trod_lt m _ _ _ hm
  obtain ⟨cs0, rfl, hn0⟩ := okWide_struct Try.underlying25 (hval 0 25 v0 rfl rfl)
  obtain ⟨fuel0, hf0⟩ := h0
  obtain ⟨a0, K0, ok0, sz0⟩ := open_node _ _ _ hf0
  obtain ⟨A0_3, c0_3, A0_4, c0_4, e0, l0_3, g0_3, l0_4, g0_4⟩ := k25_open K0
  obtain rfl : cs0 = #[.int .i64 a0.f0, .int .i64 a0.f1, .int .i64 a0.f2, .slice A0_3 a0.f3.length c0_3, .slice A0_4 a0.f4.length c0_4] := by
    have e' : cs0.toList = _ := e0
    rw [← Array.toArray_toList (xs := cs0), e']
  clear K0 e0 hf0 hn0
  have sz0 : tsize a0 ≤ Rows.uptoBulk d0 := sz0
  have hk : Rows.uptoBulk d0 ≤ 1048576 := by have h := of_decide_eq_true hbulk; simp only [Rows.uptoBulkAll, List.nil_append, List.append_nil, List.cons_append] at h; omega
  clear hA0 hval0
  refine (keeps_true a0 W ok0 (by omega) g0_3 l0_3 g0_4 l0_4).mono fun e W' ⟨he, bel⟩ => ?_
  subst he
  exact ⟨_, rfl, _, _, _, [], _, [], hW', trodAll_mk1 (shut_bool Try.underlying4 _), (trodAll_cons_mk (Below.trod laidOut (by kernel_rfl) (of_decide_eq_true (by kernel_rfl)) k0 bel lt0) trodAll_mk0), rfl, bel.frame _, fun h => by cases h⟩
set_option maxRecDepth 100000 in
theorem lifted (os : Os) (started : os.Started) (H : Type) (enc : TypeId × Value → H) (F : Stop.Interp) :
    ReturnsInHanded {} Try.checked os 7 .any ((Rows.OpenSpec.upto Rows.trimKeepsSpec).pre6 enc Try.prog Try.f7 Rows.trimKeepsUptoRow.domain false) (((Rows.OpenSpec.upto Rows.trimKeepsSpec).at F).post enc Try.prog Try.f7 false true false false) := by
  refine returnsInHanded_of_cond (C := Try.checked) (s := (Rows.OpenSpec.upto Rows.trimKeepsSpec)) (k := Rows.uptoSmall) rfl own started (by kernel_rfl) Try.func7
    (OpenSpec.witness (enc := enc) (C := Try.checked) (s := (Rows.OpenSpec.upto Rows.trimKeepsSpec)) (k := Rows.uptoSmall) rfl false ⟨#[], #[.agg #[.int .i64 0, .int .i64 0, .int .i64 0, .slice none 0 0, .slice none 0 0]], []⟩ 8 (by kernel_rfl) (by kernel_rfl) (by kernel_rfl)
      (x := ([.agg [.lit (.int .i64 0), .lit (.int .i64 0), .lit (.int .i64 0), .nil, .nil]], [], [])) (by kernel_rfl) rfl (by kernel_rfl)) ?_
  intro W base args ds gs before hval hW _ hk _
  exact contract H enc W base args ds gs before hval hW hk
theorem over : Rows.trimKeepsUptoRow.holds Try.pinned (Rows.OpenSpec.upto Rows.trimKeepsSpec) :=
  OpenClaim.holds_of_cond 7 Try.f7 rfl rfl rfl rfl rfl rfl rfl ⟨rfl, rfl, rfl, rfl, rfl⟩ rfl rfl rfl rfl rfl (by kernel_rfl) Try.func7 (by kernel_rfl)
    (of_decide_eq_true (by kernel_rfl)) (by unfold Func.isWrapper; first | (rw [if_pos (by decide +kernel)]; kernel_rfl) | (rw [if_neg (by decide +kernel)]; exact ⟨rfl, rfl⟩))
    (fun os started H enc _ F => lifted os started H enc F)
theorem proved : Rows.TrimKeepsUptoSaid := over
#print axioms proved
end Go.Proofs.Ytmbockhcmhghlaa.trimKeeps
namespace Go.Proofs.Ytmbockhcmhghlaa
theorem trimKeeps_holds : Rows.TrimKeepsUptoSaid := trimKeeps.proved
end Go.Proofs.Ytmbockhcmhghlaa
end
