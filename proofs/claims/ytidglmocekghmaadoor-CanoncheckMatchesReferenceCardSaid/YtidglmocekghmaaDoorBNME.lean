/- For every list of words and all limits the checker answers as the reference: the law answers true and leaves its arguments as they were. The listed variables: the table of decoders, the elements' sizes. -/
import Derived.Test.YtidglmocekghmaaDoorBNMD
import Derived.Test.YtidglmocekghmaaDoorBNMG
import Derived.Test.YtidglmocekghmaaDoorBNMH
import Derived.Test.YtidglmocekghmaaDoorBNMI
import Derived.Test.YtidglmocekghmaaDoorBNMJ
import Derived.ArgAppend
import Derived.Below
import Derived.BigQuiet
import Derived.ChangeOld
import Derived.ChangeSlices
import Derived.Deep.AppendLies
import Derived.Deep.CutBlock
import Derived.Deep.DeepCutAuto
import Derived.Deep.DeepHandedRow
import Derived.Deep.Draws
import Derived.Deep.LoopGhost
import Derived.Deep.OwnRows
import Derived.Deep.QuietTactic
import Derived.Deep.RegionHeld3
import Derived.Defers
import Derived.IntWalk
import Derived.JoinedCond
import Derived.KernelRfl
import Derived.LaidHandle
import Derived.LaidMore
import Derived.Laws.AppendOwn
import Derived.Laws.BitsLemmas
import Derived.Laws.BytesArg
import Derived.Laws.IdiomCopy
import Derived.Laws.MakeOwn
import Derived.Laws.OwnMore
import Derived.Laws.Pointers
import Derived.Laws.Rows
import Derived.Laws.Slices
import Derived.Laws.StructEq
import Derived.Lib.AppendStr
import Derived.Lib.ConvBytes
import Derived.Lib.Hide
import Derived.Lib.JoinLaws
import Derived.Lib.LaidTab
import Derived.Lib.SmallJoins
import Derived.Maps.AppendAt
import Derived.Maps.Keyed
import Derived.OpenShut
import Derived.OrdersHeld
import Derived.Outline
import Derived.OwnWalk
import Derived.ProofKit
import Derived.RangeFuncBox
import Derived.Recover
import Derived.RowKit
import Derived.RowKit3
import Derived.ShutString
import Derived.SizedLaws
import Derived.Tactics
import Derived.Test.YtidglmocekghmaaDoorCards
import Derived.Test.YtidglmocekghmaaDoorProg
import Derived.Test.YtidglmocekghmaaDoorTie
import Derived.WalkKit
import Derived.WalkLawsBesides
import Derived.WalkSpells
import Derived.WideKeyElems2
import Derived.WideLaws
set_option linter.unusedVariables false
set_option linter.unusedSimpArgs false
section
namespace Go.Proofs.YtidglmocekghmaaDoor.Pr
open Go.RowKit Go.Proofs.YtidglmocekghmaaDoorW.PrintWords Go.Proofs.YtidglmocekghmaaDoorW.PrintLast Go.Proofs.YtidglmocekghmaaDoorW.PrintMore
set_option linter.unusedVariables false
structure EnvS (w : World) (ad : Addr) (cp : Nat) (s : List Int) : Prop where
  rd : (Kd.int .u64).C w (some ad) s.length s
  le : s.length ≤ cp
  len : s.length ≤ 17592186040320
  ok : ∀ x ∈ s, 0 ≤ x ∧ x < 18446744073709551616
theorem EnvS.below {w w' : World} {ad : Addr} {cp : Nat} {s : List Int} (h : EnvS w ad cp s) (hb : Below w.heap.size w w') : EnvS w' ad cp s := ⟨Kd.C_below h.rd hb, h.le, h.len, h.ok⟩
theorem EnvS.at_ {w : World} {ad : Addr} {cp : Nat} {s : List Int} (h : EnvS w ad cp s) (i : Nat) (hi : i < s.length) : AtS w ad i (wd s i) := by
  obtain ⟨a0, c, e0, _, hK, hcc⟩ := Kd.C_get h.rd (0 : Int) i (by omega) (Int.ofNat_lt.2 hi)
  obtain rfl : c = [.int .u64 (wd s i)] := hK
  injection e0 with e0
  subst e0
  have := hcc 0 _ rfl
  simpa [Kd.int, Kd.scalar] using this
theorem EnvS.wd_bd {w : World} {ad : Addr} {cp : Nat} {s : List Int} (h : EnvS w ad cp s) (i : Nat) (hi : i < s.length) : 0 ≤ wd s i ∧ wd s i < 18446744073709551616 := h.ok _ (by
  unfold wd
  rw [List.getD_eq_getElem?_getD, List.getElem?_eq_getElem hi]
  exact List.getElem_mem hi)
def Okv (s : List Int) (f a : Nat) : Prop := ∃ m : Nat, (valR [s] f 0 a m).2.2 = 0
def VisS (f : Nat) : Prop := ∀ (ad : Addr) (cp : Nat) (s : List Int) (nx a : Nat) (w : World), EnvS w ad cp s → a < s.length → nx ≤ s.length → Okv s f a → Vi ad s.length cp nx a w (visI (visV s f a nx))
theorem vis_bd {s : List Int} {f a nx r : Nat} (h : Okv s f a) (ha : a < s.length) (hn : nx ≤ s.length) (hr : visV s f a nx = some r) : r ≤ s.length := by
  obtain ⟨m, hm⟩ := h
  have h1 := agr_vis s f a nx m ha hn
  rw [if_pos hm, hr] at h1
  exact (visM_in s f a nx m _ h1 hn).2.1
theorem vptrs_bd {V : Nat → Nat → Option Nat} {n : Nat} : ∀ {p i e r : Nat}, (∀ j, j < p → ∀ e, e ≤ n → ∀ r, V (i + j) e = some r → r ≤ n) → e ≤ n → vptrs V p i e = some r → r ≤ n
  | 0, i, e, r, _, he, h => by
    simp only [vptrs, Option.some.injEq] at h
    omega
  | p + 1, i, e, r, hV, he, h => by
    rw [vptrs] at h
    cases hq : V i e with
    | none => rw [hq] at h; cases h
    | some q =>
      rw [hq] at h
      exact vptrs_bd (p := p) (i := i + 1) (e := q) (fun j hj e he r hr => hV (j + 1) (by omega) e he r (by rw [show i + (j + 1) = i + 1 + j by omega]; exact hr)) (hV 0 (by omega) e he q hq) h
theorem kidsR_ok {v : Int → Int → Tr} (hs : Sinks v) : ∀ (n : Nat) (a m : Int), 0 ≤ m → (kidsR v n a m).2.2 = 0 → ∀ i : Nat, i < n → ∃ m' : Nat, (v (a + i) m').2.2 = 0
  | 0, _, _, _, _, i, hi => by omega
  | n + 1, a, m, hm, h, i, hi => by
    revert h
    unfold kidsR
    split
    · rename_i he
      intro h
      exact (he h).elim
    · rename_i he
      intro h
      match i with
      | 0 => exact ⟨m.toNat, by rw [show ((m.toNat : Nat) : Int) = m by omega]; simpa using he⟩
      | i + 1 =>
        obtain ⟨m', hm'⟩ := kidsR_ok hs n (a + 1) _ (hs a m hm).1 h i (by omega)
        exact ⟨m', by rw [show a + ((i + 1 : Nat) : Int) = a + 1 + i by omega]; exact hm'⟩
theorem ok_obj {s : List Int} {f a m : Nat} (ha : a < s.length) (h0 : wd s a ≠ 0) (hk : kindW (wd s a) ≠ 2) (h : (valR [s] (f + 1) 0 a m).2.2 = 0) : (objG [s] 0 a).2 = 0 ∧ 0 ≤ (m : Int) - (objG [s] 0 a).1.c ∧ (bodR [s] (valR [s] f) (objG [s] 0 a).1 ((m : Int) - (objG [s] 0 a).1.c)).2.2 = 0 := by
  rw [valR_obj ha h0 hk] at h
  by_cases h1 : (objG [s] 0 a).2 ≠ 0
  · rw [if_pos h1] at h
    exact (h1 h).elim
  · rw [if_neg h1] at h
    by_cases h2 : (m : Int) < (objG [s] 0 a).1.c
    · rw [if_pos h2] at h
      simp at h
    · rw [if_neg h2] at h
      exact ⟨by simpa using h1, by omega, h⟩
theorem viss_of {f : Nat} (IH : VisS f) {ad : Addr} {cp : Nat} {s : List Int} {w : World} (hE : EnvS w ad cp s) (i p e : Nat) (hi : i + p ≤ s.length) (he : e ≤ s.length) (ho : ∀ j, j < p → Okv s f (i + j)) : Vs ad s.length cp w e i p (visI (vptrs (visV s f) p i e)) := by
  intro e' i' k' w' hb h1 h2 h3
  subst h1 h2 h3
  refine Lib.hid (viss_any ad s.length cp e i p (visV s f) w' hE.len hi he (fun j hj e he r hr => vis_bd (ho j hj) (by omega) he hr) (fun j hj e he w2 hb2 => Lib.hid ?_))
  have := IH ad cp s e (i + j) w2 ((hE.below hb).below hb2) (by omega) he (ho j hj)
  rw [show ((i : Int) + j) = ((i + j : Nat) : Int) by omega]
  exact this
theorem str_ok {s : List Int} {f a nx d p : Nat} (ha : a < s.length) (h0 : wd s a ≠ 0) (hk : kindW (wd s a) = 0) (hd : dataW (wd s a) = d) (hp : ptrsW (wd s a) = p) (hst : (a : Int) + 1 + offW (wd s a) = nx) (h : Okv s (f + 1) a) : nx + (d + p) ≤ s.length ∧ ∀ j, j < p → Okv s f (nx + d + j) := by
  obtain ⟨m, hm⟩ := h
  obtain ⟨h1, h2, h3⟩ := ok_obj ha h0 (by omega) hm
  have hO : objG [s] 0 a = if inG [s] 0 (nx : Int) ((d : Int) + p) = true then (⟨1, 0, nx, d, p, 0, 0, (d : Int) + p⟩, 0) else (Ob.z, 2) := by
    unfold objG desM
    rw [folM_one ha (by omega)]
    simp only [pO, pD, pP, hk, hd, hp, h0, hst, ne_eq, not_true_eq_false, if_false, if_true, show ((0 : Int) = 3) = False by simp, show ((0 : Int) ≤ 1) = True by simp]
  by_cases hi : inG [s] 0 (nx : Int) ((d : Int) + p) = true
  · rw [if_pos hi] at hO
    rw [hO] at h2 h3
    rw [inG_one, decide_eq_true_eq] at hi
    refine ⟨by omega, fun j hj => ?_⟩
    unfold bodR at h3
    rw [if_pos rfl, strR_2] at h3
    dsimp only at h3 h2
    rw [Int.toNat_natCast] at h3
    obtain ⟨m', hm'⟩ := kidsR_ok (valR_sinks [s] f 0) p _ _ h2 h3 j hj
    exact ⟨m', by rw [show ((nx + d + j : Nat) : Int) = (nx : Int) + d + j by omega]; exact hm'⟩
  · rw [if_neg hi] at hO
    rw [hO] at h1
    simp at h1
theorem lst_ok {s : List Int} {f a nx c n : Nat} (ha : a < s.length) (h0 : wd s a ≠ 0) (hk : kindW (wd s a) = 1) (he : elemW (wd s a) ≠ 7) (hc : cntW (wd s a) = c) (hw : wordsE (elemW (wd s a)) c = n) (hst : (a : Int) + 1 + offW (wd s a) = nx) (h : Okv s (f + 1) a) : nx + n ≤ s.length ∧ (elemW (wd s a) = 6 → ∀ j, j < c → Okv s f (nx + j)) := by
  obtain ⟨m, hm⟩ := h
  obtain ⟨h1, h2, h3⟩ := ok_obj ha h0 (by omega) hm
  have hO : objG [s] 0 a = if inG [s] 0 (nx : Int) n = true then (⟨2, 0, nx, 0, 0, elemW (wd s a), c, n⟩, 0) else (Ob.z, 2) := by
    unfold objG desM
    rw [folM_one ha (by omega)]
    simp only [pO, pD, pP, pE, pC, hk, hc, h0, hst, hw, he, ne_eq, not_true_eq_false, not_false_eq_true, if_false, if_true, show ((1 : Int) = 3) = False by simp, show ((1 : Int) = 0) = False by simp, show ((1 : Int) ≤ 1) = True by simp]
    by_cases hi : inG [s] 0 (nx : Int) n = true <;> simp [hi]
  by_cases hi : inG [s] 0 (nx : Int) n = true
  · rw [if_pos hi] at hO
    rw [hO] at h2 h3
    rw [inG_one, decide_eq_true_eq] at hi
    refine ⟨by omega, fun h6 j hj => ?_⟩
    unfold bodR at h3
    dsimp only at h3 h2
    rw [if_neg (by omega), if_neg (by omega), if_pos h6, Int.toNat_natCast] at h3
    have h4 : (kidsR (valR [s] f 0) c (nx : Int) ((m : Int) - n)).2.2 = 0 := by
      revert h3
      split
      · exact fun h => h
      · rename_i hh
        intro _
        simpa using hh
    obtain ⟨m', hm'⟩ := kidsR_ok (valR_sinks [s] f 0) c _ _ h2 h4 j hj
    exact ⟨m', by rw [show ((nx + j : Nat) : Int) = (nx : Int) + j by omega]; exact hm'⟩
  · rw [if_neg hi] at hO
    rw [hO] at h1
    simp at h1
theorem cmp_ok {s : List Int} {f a nx c : Nat} (ha : a < s.length) (h0 : wd s a ≠ 0) (hk : kindW (wd s a) = 1) (he : elemW (wd s a) = 7) (hc : cntW (wd s a) = c) (hst : (a : Int) + 1 + offW (wd s a) = nx) (h : Okv s (f + 1) a) :
    nx + (c + 1) ≤ s.length ∧ ∃ (d p k : Nat) (cost : Int), dataW (wd s nx) = d ∧ ptrsW (wd s nx) = p ∧ offW (wd s nx) = k ∧ k * (d + p) ≤ c ∧ objG [s] 0 a = (⟨2, 0, (nx : Int) + 1, d, p, 7, k, cost⟩, 0) ∧ ∀ i, i < k → ∀ j, j < p → Okv s f (nx + 1 + i * (d + p) + d + j) := by
  obtain ⟨m, hm⟩ := h
  obtain ⟨h1, h2, h3⟩ := ok_obj ha h0 (by omega) hm
  have hI : inG [s] 0 (nx : Int) ((c : Int) + 1) = decide (nx + (c + 1) ≤ s.length) := by rw [inG_one]; congr 1; simp only [eq_iff_iff]; omega
  have hW : wordsE 7 (c : Int) = (c : Int) + 1 := rfl
  have hO : objG [s] 0 a = if nx + (c + 1) ≤ s.length then tagM 0 nx 7 ((c : Int) + 1) c (wdG [s] 0 nx) else (Ob.z, 2) := by
    unfold objG desM
    rw [folM_one ha (by omega)]
    simp only [pO, pD, pP, pE, pC, hk, he, hc, h0, hst, hW, hI, ne_eq, not_true_eq_false, if_false, if_true, show ((1 : Int) = 3) = False by simp, show ((1 : Int) = 0) = False by simp, show ((1 : Int) ≤ 1) = True by simp, decide_eq_false_iff_not]
    by_cases h3 : nx + (c + 1) ≤ s.length <;> simp [h3]
  by_cases hn : nx + (c + 1) ≤ s.length
  · rw [if_pos hn, wdG_one (by omega) (by omega), Int.toNat_natCast] at hO
    refine ⟨hn, ?_⟩
    generalize wd s nx = t at *
    obtain ⟨d, hd⟩ := Int.eq_ofNat_of_zero_le (dataW_bd t).1
    obtain ⟨p, hp⟩ := Int.eq_ofNat_of_zero_le (ptrsW_bd t).1
    rw [hO] at h1
    revert h1
    have hO2 := hO
    revert hO2
    unfold tagM
    split
    · intro _ h1; simp at h1
    rename_i hkt
    have hkt : kindW t = 0 := by omega
    have hpo : pO t = offW t := by unfold pO; rw [if_pos (by omega)]
    have hpd : pD t = d := by unfold pD; rw [if_pos hkt, hd]
    have hpp : pP t = p := by unfold pP; rw [if_pos hkt, hp]
    rw [hpo, hpd, hpp]
    split
    · intro _ h1; simp at h1
    rename_i ho
    obtain ⟨k, hk1⟩ := Int.eq_ofNat_of_zero_le (show 0 ≤ offW t by omega)
    rw [hk1]
    split
    · intro _ h1; simp at h1
    rename_i hkc
    have hkc' : k * (d + p) ≤ c := by
      have h5 : (k : Int) * ((d : Int) + p) ≤ c := by omega
      exact_mod_cast h5
    have fin : ∀ cost : Int, objG [s] 0 a = (⟨2, 0, (nx : Int) + 1, d, p, 7, k, cost⟩, 0) → ∃ (d' p' k' : Nat) (cost : Int), dataW t = d' ∧ ptrsW t = p' ∧ offW t = k' ∧ k' * (d' + p') ≤ c ∧ objG [s] 0 a = (⟨2, 0, (nx : Int) + 1, d', p', 7, k', cost⟩, 0) ∧ ∀ i, i < k' → ∀ j, j < p' → Okv s f (nx + 1 + i * (d' + p') + d' + j) := by
      intro cost hO3
      refine ⟨d, p, k, cost, hd, hp, hk1, hkc', hO3, fun i hi j hj => ?_⟩
      rw [hO3] at h3 h2
      unfold bodR at h3
      dsimp only at h3 h2
      rw [if_neg (by omega), if_neg (by omega), if_neg (by omega), Int.toNat_natCast, elsR_kids] at h3
      have h4 : (kidsR (fun i m => strR [s] (valR [s] f) (elG ⟨2, 0, (nx : Int) + 1, d, p, 7, k, cost⟩ i) m) k 0 ((m : Int) - cost)).2.2 = 0 := by
        revert h3
        split
        · exact fun h => h
        · rename_i hh
          intro _
          simpa using hh
      obtain ⟨m1, hm1⟩ := kidsR_ok (v := fun i m => strR [s] (valR [s] f) (elG ⟨2, 0, (nx : Int) + 1, d, p, 7, k, cost⟩ i) m) (fun i m h => strR_sinks [s] (valR_sinks [s] f) _ m h) k 0 _ h2 h4 i hi
      rw [Int.zero_add, strR_2] at hm1
      unfold elG at hm1
      dsimp only at hm1
      rw [Int.toNat_natCast] at hm1
      obtain ⟨m2, hm2⟩ := kidsR_ok (valR_sinks [s] f 0) p _ _ (by omega) hm1 j hj
      refine ⟨m2, ?_⟩
      rw [show ((nx + 1 + i * (d + p) + d + j : Nat) : Int) = (nx : Int) + 1 + (i : Int) * ((d : Int) + p) + d + j by push_cast; rfl]
      exact hm2
    split
    · intro hO2 _
      obtain ⟨d', p', k', cost, e1, e2, e3, e4, e5, e6⟩ := fin _ hO2
      exact ⟨d', p', k', cost, e1, e2, hk1.symm.trans e3, e4, e5, e6⟩
    · intro hO2 _
      obtain ⟨d', p', k', cost, e1, e2, e3, e4, e5, e6⟩ := fin _ hO2
      exact ⟨d', p', k', cost, e1, e2, hk1.symm.trans e3, e4, e5, e6⟩
  · rw [if_neg hn] at hO
    rw [hO] at h1
    simp at h1
theorem C_at {w : World} {ad ad' : Addr} {s : List Int} (h : (Kd.int .u64).C w (some ad) s.length s) (k n : Nat) (hk : k + n ≤ s.length) (ha : ad' = ad.add k ∨ n = 0) : (Kd.int .u64).C w (some ad') ((s.drop k).take n).length ((s.drop k).take n) := by
  have hl : ((s.drop k).take n).length = n := by rw [List.length_take, List.length_drop]; omega
  rcases ha with rfl | rfl
  · rw [hl]
    exact C_drop h k n hk
  · exact ⟨rfl, by simp, fun h => by simp at h⟩
theorem bytesE_fit (e c : Int) (n : Nat) (c0 : 0 ≤ c) (he : e ≠ 7) (hw : wordsE e c = n) : (bytesE e c).toNat ≤ 8 * n := by
  have h1 := Int.mul_nonneg (bitsE_bd e).1 c0
  unfold wordsE at hw
  rw [if_neg he] at hw
  unfold bytesE
  generalize bitsE e * c = b at *
  omega
theorem visI_some (n : Nat) : visI (some n) = (n : Int) := rfl
theorem vis_step (f : Nat) (hf : ∀ f', f = f' + 1 → VisS f') : VisS f := by
  intro ad cp s nx a w hE ha hnx ho
  have hv := hE.at_ a ha
  have hx := hE.wd_bd a ha
  by_cases h0 : wd s a = 0
  · have : visV s f a nx = some nx := by cases f <;> rw [visV, if_pos h0]
    rw [this]
    exact vis_1 ad s.length cp nx a w _ hv ha hE.len hx.1 hx.2 hnx h0
  by_cases hk : 1 < kindW (wd s a)
  · have : visV s f a nx = none := by
      cases f with
      | zero => rw [visV, if_neg h0]
      | succ f => rw [visV, if_neg h0, if_neg (by omega), if_neg (by omega)]
    rw [this]
    exact vis_2 ad s.length cp nx a w _ hv ha hE.len hx.1 hx.2 hnx h0 hk
  have hkb := kindW_bd (wd s a)
  cases f with
  | zero =>
    obtain ⟨m, hm⟩ := ho
    rw [valR, folM_one ha (by omega)] at hm
    simp [h0] at hm
  | succ f =>
    have IH := hf f rfl
    rw [visV, if_neg h0]
    by_cases hk0 : kindW (wd s a) = 0
    · rw [if_pos hk0]
      obtain ⟨d, hd⟩ := Int.eq_ofNat_of_zero_le (dataW_bd (wd s a)).1
      obtain ⟨p, hp⟩ := Int.eq_ofNat_of_zero_le (ptrsW_bd (wd s a)).1
      unfold vstr
      simp only [hd, hp, Int.toNat_natCast]
      by_cases hz : d + p = 0
      · rw [if_pos hz]
        by_cases hoff : offW (wd s a) = -1
        · rw [if_pos hoff]
          exact vis_4 ad s.length cp nx a w _ d p hv ha hE.len hx.1 hx.2 hnx h0 hk0 hd hp hz hoff
        · rw [if_neg hoff]
          exact vis_3 ad s.length cp nx a w _ d p hv ha hE.len hx.1 hx.2 hnx h0 hk0 hd hp hz hoff
      rw [if_neg hz]
      by_cases hst : (a : Int) + 1 + offW (wd s a) = nx
      · rw [if_pos hst]
        obtain ⟨hin, hkids⟩ := str_ok ha h0 hk0 hd hp hst ho
        have HVS := viss_of IH hE (nx + d) p (nx + (d + p)) (by omega) hin hkids
        have hA := hE.at_
        unfold lastM
        by_cases h1 : d = 0
        · by_cases h2 : p = 0
          · omega
          · have hz2 := hA (nx + (d + p) - 1) (by omega)
            rw [show nx + d + p - 1 = nx + (d + p) - 1 by omega, if_pos (by simp [h1])]
            by_cases hzz : wd s (nx + (d + p) - 1) = 0
            · rw [if_neg (by simp [h2, hzz])]
              exact vis_7b ad s.length cp nx a w _ d p hv ha hE.len hx.1 hx.2 hnx h0 hk0 hd hp hst hin hz h1 (by omega) _ hz2 hzz
            · rw [if_pos (by simp [hzz])]
              exact vis_8b ad s.length cp nx a w _ d p hv ha hE.len hx.1 hx.2 hnx h0 hk0 hd hp hst hin hz h1 (by omega) _ hz2 hzz _ HVS
        · have hy := hA (nx + d - 1) (by omega)
          by_cases hyy : wd s (nx + d - 1) = 0
          · rw [if_neg (by simp [h1, hyy])]
            exact vis_6 ad s.length cp nx a w _ d p hv ha hE.len hx.1 hx.2 hnx h0 hk0 hd hp hst hin hz (by omega) _ hy hyy
          · rw [if_pos (by simp [hyy])]
            by_cases h2 : p = 0
            · rw [if_pos (by simp [h2])]
              exact vis_8c ad s.length cp nx a w _ d p hv ha hE.len hx.1 hx.2 hnx h0 hk0 hd hp hst hin hz (by omega) _ hy hyy h2 _ HVS
            · have hz2 := hA (nx + (d + p) - 1) (by omega)
              rw [show nx + d + p - 1 = nx + (d + p) - 1 by omega]
              by_cases hzz : wd s (nx + (d + p) - 1) = 0
              · rw [if_neg (by simp [h2, hzz])]
                exact vis_7a ad s.length cp nx a w _ d p hv ha hE.len hx.1 hx.2 hnx h0 hk0 hd hp hst hin hz (by omega) _ hy hyy (by omega) _ hz2 hzz
              · rw [if_pos (by simp [hzz])]
                exact vis_8a ad s.length cp nx a w _ d p hv ha hE.len hx.1 hx.2 hnx h0 hk0 hd hp hst hin hz (by omega) _ hy hyy (by omega) _ hz2 hzz _ HVS
      · rw [if_neg hst]
        exact vis_5 ad s.length cp nx a w _ d p hv ha hE.len hx.1 hx.2 hnx h0 hk0 hd hp hz hst
    · have hk1 : kindW (wd s a) = 1 := by omega
      rw [if_neg hk0, if_pos hk1]
      obtain ⟨c, hc⟩ := Int.eq_ofNat_of_zero_le (cntW_bd (wd s a)).1
      have hcb := (cntW_bd (wd s a)).2
      obtain ⟨n, hw⟩ := Int.eq_ofNat_of_zero_le (wordsE_bd (elemW (wd s a)) (c : Int) (by omega) (by omega)).1
      have heb := elemW_bd (wd s a)
      by_cases hst : (a : Int) + 1 + offW (wd s a) = nx
      · by_cases he7 : elemW (wd s a) = 7
        · obtain ⟨hin, d, p, k, cost, hd, hp, hk2, hkc, hO, hkids⟩ := cmp_ok ha h0 hk1 he7 hc hst ho
          have hn1 : n = c + 1 := by
            rw [he7] at hw
            have : wordsE 7 (c : Int) = (c : Int) + 1 := rfl
            omega
          have hin2 : nx + n ≤ s.length := by omega
          have hkb : k ≤ 536870911 := by have := (offW_bd (wd s nx)).2; omega
          have hdb : d ≤ 65535 := by have := (dataW_bd (wd s nx)).2; omega
          have hpb : p ≤ 65535 := by have := (ptrsW_bd (wd s nx)).2; omega
          have hcb2 : c ≤ 536870911 := by omega
          have HOb : ObS ad s.length cp a w ⟨2, 0, (nx : Int) + 1, d, p, 7, k, cost⟩ := fun g w' hb hg => Lib.hid (by
            have := objG_any (some ⟨g, 0, none⟩) 1 [s] 0 a w' (C_sl1 hg hE.le (Kd.C_below hE.rd hb)) (by simp) (fun x hx => by have := hE.len; simp at hx; subst hx; omega) (fun x hx y hy => by simp at hx; subst hx; exact hE.ok y hy) (by omega) (by have := hE.len; omega) (by omega)
            rw [hO] at this
            exact this)
          have hA := hE.at_
          have hfit : ∀ j, j < k → j * (d + p) + (d + p) ≤ c := fun j hj => by
            have := Nat.mul_le_mul_right (d + p) (show j + 1 ≤ k by omega)
            rw [Nat.add_mul, Nat.one_mul] at this
            omega
          have HVb : ∀ j, j < k → ∀ e, e ≤ s.length → ∀ r, vptrs (visV s f) p (nx + 1 + d + j * (d + p)) e = some r → r ≤ s.length := fun j hj e he r hr => by
            have h5 := hfit j hj
            rw [show nx + 1 + d + j * (d + p) = nx + 1 + j * (d + p) + d by omega] at hr
            exact vptrs_bd (fun q hq e he r hr => vis_bd (hkids j hj q hq) (by omega) he hr) he hr
          have HVc : ∀ j, j < k → ∀ e : Nat, e ≤ s.length → ∀ w', Below w.heap.size w w' → Hid (Calls Tryd.prog 37 #[.slice (some ad) s.length cp, .int .i64 e, .int .i64 ((nx : Int) + 1 + (j * (d + p) : Nat) + (d : Int)), .int .i64 p] w' fun r w1 => r = .returned (.int .i64 (visI (vptrs (visV s f) p (nx + 1 + d + j * (d + p)) e))) ∧ Below w'.heap.size w' w1) := fun j hj e he w' hb => by
            have h5 := hfit j hj
            have := viss_of IH hE (nx + 1 + j * (d + p) + d) p e (by omega) he (fun q hq => hkids j hj q hq) e ((nx : Int) + 1 + (j * (d + p) : Nat) + (d : Int)) p w' hb rfl (by push_cast; rfl) rfl
            rw [show nx + 1 + j * (d + p) + d = nx + 1 + d + j * (d + p) by omega] at this
            exact this
          unfold vlist vcomp
          rw [if_pos he7, if_pos hst, hk2, hd, hp, hc]
          simp only [Int.toNat_natCast]
          by_cases hq : (k : Int) * ((d : Int) + p) = c
          · rw [if_pos hq, ← hn1]
            have hqN : k * (d + p) = c := by exact_mod_cast hq
            by_cases h1 : d = 0
            · subst h1
              by_cases h2 : p = 0
              · subst h2
                exact vis_12_00 ad s.length cp nx a w _ c n k hv ha hE.len hx.1 hx.2 hnx hE.le h0 hk1 hc hw hst hin2 he7 hn1 hkb cost HOb s hA (visV s f) hqN hcb2 _ (Lib.hid (by simp))
              · exact vis_12_01 ad s.length cp nx a w _ c n p k hv ha hE.len hx.1 hx.2 hnx hE.le h0 hk1 hc hw hst hin2 he7 hn1 (by omega) hpb hkb cost HOb s hA (visV s f) hqN hcb2 HVb (fun j hj e he w' hb => by have := HVc j hj e he w' hb; simpa using this) _ (Lib.hid (by simp [h2]))
            · by_cases h2 : p = 0
              · subst h2
                exact vis_12_10 ad s.length cp nx a w _ c n d k hv ha hE.len hx.1 hx.2 hnx hE.le h0 hk1 hc hw hst hin2 he7 hn1 (by omega) hdb hkb cost HOb s hA (visV s f) hqN hcb2 _ (Lib.hid (by simp [h1]))
              · exact vis_12_11 ad s.length cp nx a w _ c n d p k hv ha hE.len hx.1 hx.2 hnx hE.le h0 hk1 hc hw hst hin2 he7 hn1 (by omega) hdb (by omega) hpb hkb cost HOb s hA (visV s f) hqN hcb2 HVb HVc _ (Lib.hid (by simp [h1, h2]))
          · rw [if_neg hq]
            have hqb : k * (d + p) ≤ 536870911 := by omega
            have hqe : (k : Int) * ((d : Int) + p) = (k * (d + p) : Nat) := by push_cast; rfl
            rw [hqe] at hq
            by_cases h1 : d = 0
            · subst h1
              by_cases h2 : p = 0
              · subst h2
                exact vis_12n_00 ad s.length cp nx a w _ c n k hv ha hE.len hx.1 hx.2 hnx hE.le h0 hk1 hc hw hst hin2 he7 hn1 hkb cost HOb _ (by simpa using hq) (Lib.hid rfl)
              · exact vis_12n_01 ad s.length cp nx a w _ c n p k hv ha hE.len hx.1 hx.2 hnx hE.le h0 hk1 hc hw hst hin2 he7 hn1 (by omega) hpb hkb cost HOb (k * (0 + p)) (by simp) _ hqb hq (Lib.hid rfl)
            · by_cases h2 : p = 0
              · subst h2
                exact vis_12n_10 ad s.length cp nx a w _ c n d k hv ha hE.len hx.1 hx.2 hnx hE.le h0 hk1 hc hw hst hin2 he7 hn1 (by omega) hdb hkb cost HOb (k * (d + 0)) (by simp) _ hqb hq (Lib.hid rfl)
              · exact vis_12n_11 ad s.length cp nx a w _ c n d p k hv ha hE.len hx.1 hx.2 hnx hE.le h0 hk1 hc hw hst hin2 he7 hn1 (by omega) hdb (by omega) hpb hkb cost HOb (k * (d + p)) hqe _ hqb hq (Lib.hid rfl)
        · obtain ⟨hin, hkids⟩ := lst_ok ha h0 hk1 he7 hc hw hst ho
          unfold vlist
          rw [if_neg he7, if_pos hst, hc, hw, Int.toNat_natCast]
          by_cases he6 : elemW (wd s a) = 6
          · have hnc : n = c := by
              rw [he6] at hw
              unfold wordsE bitsE at hw
              simp at hw
              omega
            rw [if_pos he6]
            subst hnc
            exact vis_10 ad s.length cp nx a w _ n n hv ha hE.len hx.1 hx.2 hnx h0 hk1 hc hw hst hin he6 _ (viss_of IH hE nx n (nx + n) hin hin (hkids he6))
          · rw [if_neg he6]
            have hbl : (bytesL ((s.drop nx).take n)).length = 8 * n := by rw [bytesL_length, List.length_take, List.length_drop]; omega
            have hl : ((s.drop nx).take n).length = n := by rw [List.length_take, List.length_drop]; omega
            refine vis_11 ad s.length cp nx a w _ c n hv ha hE.len hx.1 hx.2 hnx hE.le h0 hk1 hc hw hst hin (by omega) (bytesL ((s.drop nx).take n)) (trimE (elemW (wd s a)) c (bytesL ((s.drop nx).take n))) (by have := hE.len; omega) _ (fun hall => ?_) (fun i hi hne => ?_) (fun ad' c' w' hb had => Lib.hid ?_) (fun A' c' w' hr => Lib.hid ?_)
            · rw [if_pos (restM_all hall), visI_some]
              push_cast
              rfl
            · rw [if_neg (by rw [restM_not hi hne]; simp)]
              rfl
            · have := rbytes_any (some ad') c' ((s.drop nx).take n) w' (C_at (Kd.C_below hE.rd hb) nx n hin had) (by rw [hl]; have := hE.len; omega) (fun x hx => hE.ok x (List.mem_of_mem_drop (List.mem_of_mem_take hx)))
              rw [hl] at this
              exact this
            · exact rtrim_any (elemW (wd s a)) c A' c' _ w' hr (bytesL_bd _) (by omega) (by omega) (by rw [hbl]; exact bytesE_fit _ _ _ (by omega) he7 hw)
      · have : vlist s (visV s f) a (wd s a) nx = none := by
          unfold vlist vcomp
          rw [if_neg hst, if_neg hst]
          simp
        rw [this]
        exact vis_9 ad s.length cp nx a w _ c n hv ha hE.len hx.1 hx.2 hnx h0 hk1 hc hw hst
theorem vis_all : ∀ f, VisS f
  | 0 => vis_step 0 (fun f' h => by omega)
  | f + 1 => vis_step (f + 1) (fun f' h => by
    obtain rfl : f = f' := by omega
    exact vis_all f)
end Go.Proofs.YtidglmocekghmaaDoor.Pr
end
section
namespace Go.Proofs.YtidglmocekghmaaDoor.Pr
open Go.RowKit Go.Proofs.YtidglmocekghmaaDoorW.PrintWords Go.Proofs.YtidglmocekghmaaDoorW.PrintLast Go.Proofs.YtidglmocekghmaaDoorW.PrintMore
set_option linter.unusedVariables false
set_option linter.unusedSimpArgs false
def fewG (G : List (List Int)) : Bool := decide (∀ i, i < G.length → (sgG G i).length ≤ 300) && decide (G.length ≤ 20)
end Go.Proofs.YtidglmocekghmaaDoor.Pr
end
set_option linter.unusedVariables false
set_option linter.unusedSimpArgs false
section
namespace Go.Proofs.YtidglmocekghmaaDoor.Pr
open Go.RowKit Go.Proofs.YtidglmocekghmaaDoorW.PrintWords Go.Proofs.YtidglmocekghmaaDoorW.PrintLast Go.Proofs.YtidglmocekghmaaDoorW.PrintMore
set_option linter.unusedVariables false
set_option linter.unusedSimpArgs false
theorem few_any (A : Option Addr) (cp : Nat) (G : List (List Int)) (w : World) (hr : RdG w A G) (hg : G.length ≤ 4611686018427387904) (hl : ∀ x ∈ G, x.length ≤ 9223372036854775807) : Calls Tryd.prog 17 #[.slice A G.length cp] w fun e w' => e = .returned (.bool (fewG G)) ∧ w' = w := by
  have HL := Lib.hid (show ∀ i : Nat, i < G.length → (sgG G i).length ≤ 9223372036854775807 from fun i hi => hl _ (by
    unfold sgG
    rw [Int.toNat_natCast, List.getD_eq_getElem?_getD, List.getElem?_eq_getElem hi]
    exact List.getElem_mem hi))
  have HR := Lib.hid hr
  have HF := Lib.hid (fewG.eq_1 G)
  generalize fewG G = r at *
  clear hr hl
  go_enter Tryd.func17, Tryd.ntmps17
  go_wp2
  go_loop [3] (fun v => ∃ i : Nat, i ≤ G.length ∧ v = .int .i64 i ∧ Hid (∀ j : Nat, j < i → (sgG G j).length ≤ 300)) (fun v => G.length - (intOf v).toNat)
  case atStart => exact ⟨0, Nat.zero_le _, rfl, Lib.hid (fun j hj => by omega)⟩
  case round =>
    obtain ⟨i, hi, rfl, HI⟩ := hrel
    by_cases hlt : i < G.length
    · obtain ⟨ad, A0, c0, rfl, hc, _⟩ := at_G HR.out i hlt
      have hln := HL.out i hlt
      by_cases h3 : (sgG G i).length ≤ 300
      · have HI2 : Hid (∀ j : Nat, j < i + 1 → (sgG G j).length ≤ 300) := Lib.hid (fun j hj => by
          by_cases hji : j = i
          · subst hji; exact h3
          · exact HI.out j (by omega))
        generalize (sgG G i).length = n at *
        have h4 : decide ((n : Int) > 300) = false := decide_eq_false (by omega)
        clear HI
        go_wp2
        go_round
        case rel => exact ⟨i + 1, by omega, by go_num, HI2⟩
        case measure => simp [intOf]; omega
      · have HF2 : Hid (r = false) := Lib.hid (by
          rw [HF.out, decide_eq_false (fun h => h3 (h i hlt))]
          rfl)
        generalize (sgG G i).length = n at *
        have h4 : decide ((n : Int) > 300) = true := decide_eq_true (by omega)
        clear HI HF
        go_wp2
        go_ret
        exact ⟨by rw [HF2.out]; rfl, rfl⟩
    · obtain rfl : i = G.length := by omega
      have HF2 : Hid (r = decide ((G.length : Int) ≤ 20)) := Lib.hid (by
        rw [HF.out, decide_eq_true (p := ∀ i, i < G.length → (sgG G i).length ≤ 300) HI.out, Bool.true_and]
        congr 1
        simp only [eq_iff_iff]
        omega)
      clear HF HI
      go_wp2
      go_ret
      exact ⟨by rw [HF2.out]; rfl, rfl⟩
def smallG (G : List (List Int)) (D Wd : Int) : Bool := decide (D ≤ 40) && decide (Wd ≤ 2000) && fewG G
theorem small_any (A : Option Addr) (cp : Nat) (G : List (List Int)) (D Wd O : Int) (w : World) (hr : RdG w A G) (hg : G.length ≤ 4611686018427387904) (hl : ∀ x ∈ G, x.length ≤ 9223372036854775807) : Calls Tryd.prog 9 #[.slice A G.length cp, limV D Wd O] w fun e w' => e = .returned (.bool (smallG G D Wd)) ∧ Below w.heap.size w w' := by
  have HF := fun w' (hb : Below w.heap.size w w') => Lib.hid (few_any A cp G w' (Kd.C_below hr hb) hg hl)
  have HR := Lib.hid (smallG.eq_1 G D Wd)
  have S := Sep.start w
  generalize smallG G D Wd = r at *
  generalize fewG G = q at *
  clear hr hg hl
  by_cases h1 : D ≤ 40
  · by_cases h2 : Wd ≤ 2000
    · have HR : Hid (r = q) := Lib.hid (by rw [HR.out, decide_eq_true h1, decide_eq_true h2]; simp)
      go_enter Tryd.func9, Tryd.ntmps9
      go_wp2_with (first | go_skip | ((with_reducible refine wl ?_); first | refine sn S (fun g w1 S => ?_) | refine ss S (fun w1 S => ?_) | refine sl S ?_ | refine sa S ?_) | ((with_reducible refine (HF _ S.below).out.mono ?_); rintro r' w' ⟨rfl, rfl⟩))
      exact rt S ⟨by rw [HR.out], S.below⟩
    · have HR : Hid (r = false) := Lib.hid (by rw [HR.out, decide_eq_false h2]; simp)
      have t2 : decide (Wd ≤ 2000) = false := decide_eq_false h2
      clear h2
      go_enter Tryd.func9, Tryd.ntmps9
      go_wp2_with (first | go_skip | ((with_reducible refine wl ?_); first | refine sn S (fun g w1 S => ?_) | refine ss S (fun w1 S => ?_) | refine sl S ?_ | refine sa S ?_))
      exact rt S ⟨by rw [HR.out], S.below⟩
  · have HR : Hid (r = false) := Lib.hid (by rw [HR.out, decide_eq_false h1]; simp)
    have t1 : decide (D ≤ 40) = false := decide_eq_false h1
    clear h1
    go_enter Tryd.func9, Tryd.ntmps9
    go_wp2_with (first | go_skip | ((with_reducible refine wl ?_); first | refine sn S (fun g w1 S => ?_) | refine ss S (fun w1 S => ?_) | refine sl S ?_ | refine sa S ?_))
    exact rt S ⟨by rw [HR.out], S.below⟩
theorem MsV.openV {w : World} {q : S37 × Int} {r : Ending} {w' : World} (h : MsV w q r w') : ∃ A3 c3 A4 c4, r = .returned (.tuple #[.agg #[.int .i64 q.1.f0, .int .i64 q.1.f1, .int .i64 q.1.f2, .slice A3 q.1.f3.length c3, .slice A4 q.1.f4.length c4], .int .i64 q.2]) ∧ k37.M w' w.heap.size (fun _ => True) q.1 [.int .i64 q.1.f0, .int .i64 q.1.f1, .int .i64 q.1.f2, .slice A3 q.1.f3.length c3, .slice A4 q.1.f4.length c4] ∧ Below w.heap.size w w' := by
  obtain ⟨v3, v4, h1, h2, h3⟩ := h
  obtain ⟨A3, c3, A4, c4, e, _⟩ := k37_open (k37.K_of_M h2)
  simp only [List.cons.injEq, true_and, and_true] at e
  obtain ⟨rfl, rfl⟩ := e
  exact ⟨A3, c3, A4, c4, h1, h2, h3⟩
def wordsR (s : List Int) (D Wd : Int) : Bool := decide (0 < s.length) && (decide ((msgR [s] D Wd).2 = 0) && decide (visI (visV s D.toNat 0 1) = (s.length : Int)))
theorem msgR_2 {s : List Int} (D Wd : Int) (h0 : 0 < s.length) : (msgR [s] D Wd).2 = (valR [s] D.toNat 0 0 (startM Wd)).2.2 := by
  unfold msgR
  rw [if_neg (fun h => by
    have h2 := h.2
    rw [show sgG [s] 0 = s from rfl] at h2
    omega)]
  split
  · rfl
  · rename_i h
    have h2 : (valR [s] D.toNat 0 0 (startM Wd)).2.2 = 0 := by simpa using h
    exact h2.symm
theorem wordsM_R (s : List Int) (D Wd : Int) : wordsM s D Wd = wordsR s D Wd := by
  unfold wordsM wordsR
  by_cases h0 : 0 < s.length
  · have hA := agr_vis s D.toNat 0 1 Wd.toNat h0 h0
    have hs : ((Wd.toNat : Nat) : Int) = startM Wd := by unfold startM; split <;> omega
    rw [hs] at hA
    have hM := msgR_2 D Wd h0
    rw [hA, hM]
    by_cases he : (valR [s] D.toNat 0 0 (startM Wd)).2.2 = 0
    · rw [if_pos (by exact he), decide_eq_true he]
      cases visV s D.toNat 0 1 with
      | none =>
        rw [show decide (visI none = (s.length : Int)) = false from decide_eq_false (by show ¬ ((-1 : Int) = (s.length : Int)); omega)]
        simp
      | some r =>
        rw [show decide (visI (some r) = (s.length : Int)) = decide (r = s.length) by rw [visI_some]; congr 1; simp only [eq_iff_iff]; omega]
        simp
    · rw [if_neg (by exact he), decide_eq_false he]
      simp
  · simp [h0]
set_option maxRecDepth 100000 in
set_option maxHeartbeats 4000000 in
theorem rwords_all (A : Option Addr) (cp : Nat) (s : List Int) (D Wd O : Int) (w : World) (hr : (Kd.int .u64).C w A s.length s) (hc : s.length ≤ cp) (hl : s.length ≤ 17592186040320) (ok : ∀ x ∈ s, 0 ≤ x ∧ x < 18446744073709551616) (hD : D ≤ 40) (hW : Wd ≤ 2000) :
    Calls Tryd.prog 11 #[.slice A s.length cp, limV D Wd O] w fun e w' => e = .returned (.bool (wordsR s D Wd)) ∧ Below w.heap.size w w' := by
  have S := Sep.start w
  by_cases h0 : 0 < s.length
  · obtain ⟨ad, _, e0, _⟩ := Kd.C_get hr (0 : Int) 0 (by omega) (by omega)
    subst e0
    have hE : EnvS w ad cp s := ⟨hr, hc, hl, ok⟩
    have HM := fun g w' (hb : Below w.heap.size w w') (hg : w'.heap[g]? = some (.cells #[.slice (some ad) s.length cp] 22 (0, 0))) => Lib.hid (show Calls Tryd.prog 16 #[.slice (some ⟨g, 0, none⟩) 1 1, limV D Wd O] w' (MsV w' (msgR [s] D Wd)) from msg_any (some ⟨g, 0, none⟩) 1 [s] D Wd O w' ⟨C_sl1 hg hc (Kd.C_below hr hb), by simp, fun x hx => by simp at hx; subst hx; exact hl, fun x hx y hy => by simp at hx; subst hx; exact ok y hy⟩ hD hW)
    have hok : (msgR [s] D Wd).2 = 0 → Okv s D.toNat 0 := fun h => by
      refine ⟨Wd.toNat, ?_⟩
      have hs : ((Wd.toNat : Nat) : Int) = startM Wd := by unfold startM; split <;> omega
      rw [hs]
      rw [msgR_2 D Wd h0] at h
      exact h
    have HV := fun (h : (msgR [s] D Wd).2 = 0) w' (hb : Below w.heap.size w w') => Lib.hid (show Calls Tryd.prog 22 #[.slice (some ad) s.length cp, .int .i64 1, .int .i64 0] w' (fun e w1 => e = .returned (.int .i64 (visI (visV s D.toNat 0 1))) ∧ Below w'.heap.size w' w1) from vis_all D.toNat ad cp s 1 0 w' (hE.below hb) h0 h0 (hok h))
    have HR := Lib.hid (wordsR.eq_1 s D Wd)
    rw [decide_eq_true h0, Bool.true_and] at HR
    generalize wordsR s D Wd = r at *
    generalize msgR [s] D Wd = q at *
    generalize visI (visV s D.toNat 0 1) = v at *
    obtain ⟨⟨f0, f1, f2, f3, f4⟩, e'⟩ := q
    dsimp only at HR HV
    have hln : ((s.length : Int) == 0) = false := beq_eq_false_iff_ne.2 (by omega)
    have HMA := HM
    clear hE hok hr ok HM
    by_cases he : e' = 0
    · subst he
      replace HV := HV rfl
      replace HR : Hid (r = decide (v = (s.length : Int))) := Lib.hid (by rw [HR.out]; simp)
      go_enter Tryd.func11, Tryd.ntmps11
      go_wp2_with (first | go_skip | ((with_reducible refine wl ?_); first | refine sn S (fun g w1 S => ?_) | refine ss S (fun w1 S => ?_) | refine sl S ?_ | refine sa S ?_ | refine sa (S.new _ _) ?_) | ((with_reducible refine (HMA _ _ (S.new _ _).below ((S.new _ _).blk .here)).out.mono ?_); rintro r' w' hT; obtain ⟨B3, d3, B4, d4, rfl, hM, hb⟩ := MsV.openV hT; replace S := (S.new _ _).push (a := .made k37 _ _) hb hM; dsimp only at S) | ((with_reducible refine (HV _ S.below).out.mono ?_); rintro r' w' ⟨rfl, hb⟩; replace S := S.call hb))
      exact rt S ⟨by rw [HR.out], S.below⟩
    · have te : (e' == 0) = false := beq_eq_false_iff_ne.2 he
      have HR : Hid (r = false) := Lib.hid (by rw [HR.out, decide_eq_false he]; simp)
      clear HV he
      go_enter Tryd.func11, Tryd.ntmps11
      go_wp2_with (first | go_skip | ((with_reducible refine wl ?_); first | refine sn S (fun g w1 S => ?_) | refine ss S (fun w1 S => ?_) | refine sl S ?_ | refine sa S ?_ | refine sa (S.new _ _) ?_) | ((with_reducible refine (HMA _ _ (S.new _ _).below ((S.new _ _).blk .here)).out.mono ?_); rintro r' w' hT; obtain ⟨B3, d3, B4, d4, rfl, hM, hb⟩ := MsV.openV hT; replace S := (S.new _ _).push (a := .made k37 _ _) hb hM; dsimp only at S))
      exact rt S ⟨by rw [HR.out], S.below⟩
  · obtain rfl : s = [] := List.eq_nil_of_length_eq_zero (by omega)
    have HR : Hid (wordsR [] D Wd = false) := Lib.hid rfl
    generalize wordsR [] D Wd = r at *
    go_enter Tryd.func11, Tryd.ntmps11
    go_wp2_with (first | go_skip | ((with_reducible refine wl ?_); first | refine sn S (fun g w1 S => ?_) | refine ss S (fun w1 S => ?_) | refine sl S ?_ | refine sa S ?_ | refine sa (S.new _ _) ?_))
    exact rt S ⟨by rw [HR.out], S.below⟩
end Go.Proofs.YtidglmocekghmaaDoor.Pr
end
section
namespace Go.Proofs.YtidglmocekghmaaDoor.Pr
open Go.RowKit Go.Proofs.YtidglmocekghmaaDoorW.PrintWords Go.Proofs.YtidglmocekghmaaDoorW.PrintLast Go.Proofs.YtidglmocekghmaaDoorW.PrintMore
set_option linter.unusedVariables false
set_option linter.unusedSimpArgs false
def capnplaw16_awake.f : Option Bool := some true
theorem ex0 : canoncheck_Words.f 0 [4294967296, 5] 5 50 0 = some true := by kernel_rfl
theorem ex1 : canoncheck_Words.f 0 [4294967296, 0] 5 50 0 = some false := by kernel_rfl
theorem ex2 : canoncheck_Words.f 0 [4294967296, 5, 0] 5 50 0 = some false := by kernel_rfl
theorem ex3 : canoncheck_Words.f 0 [4294967300, 0, 5] 5 50 0 = some false := by kernel_rfl
theorem ex4 : canoncheck_Words.f 0 [0] 5 50 0 = some true := by kernel_rfl
theorem ex5 : canoncheck_Words.f 0 [] 5 50 0 = some false := by kernel_rfl
theorem ex6 : canoncheck_Words.f 0 [4294967292] 5 50 0 = some true := by kernel_rfl
theorem ex7 : canoncheck_Words.f 0 [562949953421312, 0, 0] 5 50 0 = some false := by kernel_rfl
theorem ex8 : canoncheck_Words.f 0 [107374182401, 7] 5 50 0 = some true := by kernel_rfl
theorem ex9 : canoncheck_Words.f 0 [107374182401, 15] 5 50 0 = some false := by kernel_rfl
theorem ex10 : canoncheck_Words.f 0 [98784247809, 4294967304, 0, 5] 5 50 0 = some true := by kernel_rfl
theorem ex11 : canoncheck_Words.f 0 [98784247809, 4294967304, 0, 0] 5 50 0 = some false := by kernel_rfl
theorem ex12 : canoncheck_Words.f 0 [4294967296, 5] 5 0 0 = some false := by kernel_rfl
set_option maxRecDepth 100000 in
set_option maxHeartbeats 8000000 in
theorem capnplaw16_awake.calls (r : Bool) (w : World) (h : capnplaw16_awake.f = some r) (ht : Tabs w) : Calls Tryd.prog 8 #[] w fun e w' => e = .returned (.bool r) ∧ Below w.heap.size w w' := by
  obtain rfl : true = r := Option.some.inj h
  clear h
  have HT := Lib.hid ht
  clear ht
  go_enter Tryd.func8, Tryd.ntmps8
  have HB := Lib.hid (Below.refl w.heap.size w)
  go_wp2_with fail
  refine calls_at (fun wa0 hW => ?_)
  have hb : Below w.heap.size w wa0 := by rw [hW]; exact ((Below.refl _ _).alloc (Nat.le_refl _) _).alloc (by simp) _
  have nL : wa0.heap[w.heap.size]? = some (.cells #[.int .i64 5, .int .i64 50, .int .i64 0] 24 (0, 0)) := by rw [hW]; exact blk_alloc (heap_alloc_new _ _) _
  have nS : wa0.heap[w.heap.size + 1]? = some (.cells (nums .u64 [4294967296, 5]).toArray 32 (0, 0)) := by rw [hW]; exact blk_new _ _ _ (by simp)
  clear hW
  replace HB := Lib.hid (below_step HB.out hb)
  replace HT := Lib.hid (HT.out.below hb)
  clear hb
  have L := Lib.hid nL
  clear nL
  have hc := canoncheck_Words.calls 0 _ 2 [4294967296, 5] 5 50 0 true wa0 (C_ints nS (by decide)) (Nat.le_refl _) ex0 HT.out
  refine hc.mono ?_
  clear hc nS
  rintro e w1 ⟨rfl, hb⟩
  replace HB := Lib.hid (below_step HB.out hb)
  replace HT := Lib.hid (HT.out.below hb)
  replace L := Lib.hid (blk_below L.out hb)
  clear hb
  have l_L : w.heap.size < w1.heap.size := blk_lt L.out
  have q_L_0 : w1.cell? ⟨w.heap.size, 0, none⟩ = some (.int .i64 5) := (blk_cell L.out 0).trans rfl
  have q_L_1 : w1.cell? ⟨w.heap.size, 1, none⟩ = some (.int .i64 50) := (blk_cell L.out 1).trans rfl
  have q_L_2 : w1.cell? ⟨w.heap.size, 2, none⟩ = some (.int .i64 0) := (blk_cell L.out 2).trans rfl
  go_wp2_with fail
  clear l_L q_L_0 q_L_1 q_L_2
  refine calls_at (fun wa1 hW => ?_)
  have hb : Below w1.heap.size w1 wa1 := by rw [hW]; exact (Below.refl _ _).alloc (Nat.le_refl _) _
  have nS : wa1.heap[w1.heap.size]? = some (.cells (nums .u64 [4294967296, 0]).toArray 32 (0, 0)) := by rw [hW]; exact heap_alloc_new _ _
  clear hW
  replace HB := Lib.hid (below_step HB.out hb)
  replace HT := Lib.hid (HT.out.below hb)
  replace L := Lib.hid (blk_below L.out hb)
  clear hb
  have hc := canoncheck_Words.calls 0 _ 2 [4294967296, 0] 5 50 0 false wa1 (C_ints nS (by decide)) (Nat.le_refl _) ex1 HT.out
  refine hc.mono ?_
  clear hc nS
  rintro e w2 ⟨rfl, hb⟩
  replace HB := Lib.hid (below_step HB.out hb)
  replace HT := Lib.hid (HT.out.below hb)
  replace L := Lib.hid (blk_below L.out hb)
  clear hb
  have l_L : w.heap.size < w2.heap.size := blk_lt L.out
  have q_L_0 : w2.cell? ⟨w.heap.size, 0, none⟩ = some (.int .i64 5) := (blk_cell L.out 0).trans rfl
  have q_L_1 : w2.cell? ⟨w.heap.size, 1, none⟩ = some (.int .i64 50) := (blk_cell L.out 1).trans rfl
  have q_L_2 : w2.cell? ⟨w.heap.size, 2, none⟩ = some (.int .i64 0) := (blk_cell L.out 2).trans rfl
  go_wp2_with fail
  clear l_L q_L_0 q_L_1 q_L_2
  refine calls_at (fun wa2 hW => ?_)
  have hb : Below w2.heap.size w2 wa2 := by rw [hW]; exact (Below.refl _ _).alloc (Nat.le_refl _) _
  have nS : wa2.heap[w2.heap.size]? = some (.cells (nums .u64 [4294967296, 5, 0]).toArray 32 (0, 0)) := by rw [hW]; exact heap_alloc_new _ _
  clear hW
  replace HB := Lib.hid (below_step HB.out hb)
  replace HT := Lib.hid (HT.out.below hb)
  replace L := Lib.hid (blk_below L.out hb)
  clear hb
  have hc := canoncheck_Words.calls 0 _ 3 [4294967296, 5, 0] 5 50 0 false wa2 (C_ints nS (by decide)) (Nat.le_refl _) ex2 HT.out
  refine hc.mono ?_
  clear hc nS
  rintro e w3 ⟨rfl, hb⟩
  replace HB := Lib.hid (below_step HB.out hb)
  replace HT := Lib.hid (HT.out.below hb)
  replace L := Lib.hid (blk_below L.out hb)
  clear hb
  have l_L : w.heap.size < w3.heap.size := blk_lt L.out
  have q_L_0 : w3.cell? ⟨w.heap.size, 0, none⟩ = some (.int .i64 5) := (blk_cell L.out 0).trans rfl
  have q_L_1 : w3.cell? ⟨w.heap.size, 1, none⟩ = some (.int .i64 50) := (blk_cell L.out 1).trans rfl
  have q_L_2 : w3.cell? ⟨w.heap.size, 2, none⟩ = some (.int .i64 0) := (blk_cell L.out 2).trans rfl
  go_wp2_with fail
  clear l_L q_L_0 q_L_1 q_L_2
  refine calls_at (fun wa3 hW => ?_)
  have hb : Below w3.heap.size w3 wa3 := by rw [hW]; exact (Below.refl _ _).alloc (Nat.le_refl _) _
  have nS : wa3.heap[w3.heap.size]? = some (.cells (nums .u64 [4294967300, 0, 5]).toArray 32 (0, 0)) := by rw [hW]; exact heap_alloc_new _ _
  clear hW
  replace HB := Lib.hid (below_step HB.out hb)
  replace HT := Lib.hid (HT.out.below hb)
  replace L := Lib.hid (blk_below L.out hb)
  clear hb
  have hc := canoncheck_Words.calls 0 _ 3 [4294967300, 0, 5] 5 50 0 false wa3 (C_ints nS (by decide)) (Nat.le_refl _) ex3 HT.out
  refine hc.mono ?_
  clear hc nS
  rintro e w4 ⟨rfl, hb⟩
  replace HB := Lib.hid (below_step HB.out hb)
  replace HT := Lib.hid (HT.out.below hb)
  replace L := Lib.hid (blk_below L.out hb)
  clear hb
  have l_L : w.heap.size < w4.heap.size := blk_lt L.out
  have q_L_0 : w4.cell? ⟨w.heap.size, 0, none⟩ = some (.int .i64 5) := (blk_cell L.out 0).trans rfl
  have q_L_1 : w4.cell? ⟨w.heap.size, 1, none⟩ = some (.int .i64 50) := (blk_cell L.out 1).trans rfl
  have q_L_2 : w4.cell? ⟨w.heap.size, 2, none⟩ = some (.int .i64 0) := (blk_cell L.out 2).trans rfl
  go_wp2_with fail
  clear l_L q_L_0 q_L_1 q_L_2
  refine calls_at (fun wa4 hW => ?_)
  have hb : Below w4.heap.size w4 wa4 := by rw [hW]; exact (Below.refl _ _).alloc (Nat.le_refl _) _
  have nS : wa4.heap[w4.heap.size]? = some (.cells (nums .u64 [0]).toArray 32 (0, 0)) := by rw [hW]; exact heap_alloc_new _ _
  clear hW
  replace HB := Lib.hid (below_step HB.out hb)
  replace HT := Lib.hid (HT.out.below hb)
  replace L := Lib.hid (blk_below L.out hb)
  clear hb
  have hc := canoncheck_Words.calls 0 _ 1 [0] 5 50 0 true wa4 (C_ints nS (by decide)) (Nat.le_refl _) ex4 HT.out
  refine hc.mono ?_
  clear hc nS
  rintro e w5 ⟨rfl, hb⟩
  replace HB := Lib.hid (below_step HB.out hb)
  replace HT := Lib.hid (HT.out.below hb)
  replace L := Lib.hid (blk_below L.out hb)
  clear hb
  have l_L : w.heap.size < w5.heap.size := blk_lt L.out
  have q_L_0 : w5.cell? ⟨w.heap.size, 0, none⟩ = some (.int .i64 5) := (blk_cell L.out 0).trans rfl
  have q_L_1 : w5.cell? ⟨w.heap.size, 1, none⟩ = some (.int .i64 50) := (blk_cell L.out 1).trans rfl
  have q_L_2 : w5.cell? ⟨w.heap.size, 2, none⟩ = some (.int .i64 0) := (blk_cell L.out 2).trans rfl
  go_wp2_with fail
  clear l_L q_L_0 q_L_1 q_L_2
  refine calls_at (fun wa5 hW => ?_)
  have hb : Below w5.heap.size w5 wa5 := by rw [hW]; exact Below.refl _ _
  clear hW
  replace HB := Lib.hid (below_step HB.out hb)
  replace HT := Lib.hid (HT.out.below hb)
  replace L := Lib.hid (blk_below L.out hb)
  clear hb
  have hc := canoncheck_Words.calls 0 none 0 [] 5 50 0 false wa5 (Kd.C_nil _ _) (Nat.le_refl _) ex5 HT.out
  refine hc.mono ?_
  clear hc
  rintro e w6 ⟨rfl, hb⟩
  replace HB := Lib.hid (below_step HB.out hb)
  replace HT := Lib.hid (HT.out.below hb)
  replace L := Lib.hid (blk_below L.out hb)
  clear hb
  have l_L : w.heap.size < w6.heap.size := blk_lt L.out
  have q_L_0 : w6.cell? ⟨w.heap.size, 0, none⟩ = some (.int .i64 5) := (blk_cell L.out 0).trans rfl
  have q_L_1 : w6.cell? ⟨w.heap.size, 1, none⟩ = some (.int .i64 50) := (blk_cell L.out 1).trans rfl
  have q_L_2 : w6.cell? ⟨w.heap.size, 2, none⟩ = some (.int .i64 0) := (blk_cell L.out 2).trans rfl
  go_wp2_with fail
  clear l_L q_L_0 q_L_1 q_L_2
  refine calls_at (fun wa6 hW => ?_)
  have hb : Below w6.heap.size w6 wa6 := by rw [hW]; exact (Below.refl _ _).alloc (Nat.le_refl _) _
  have nS : wa6.heap[w6.heap.size]? = some (.cells (nums .u64 [4294967292]).toArray 32 (0, 0)) := by rw [hW]; exact heap_alloc_new _ _
  clear hW
  replace HB := Lib.hid (below_step HB.out hb)
  replace HT := Lib.hid (HT.out.below hb)
  replace L := Lib.hid (blk_below L.out hb)
  clear hb
  have hc := canoncheck_Words.calls 0 _ 1 [4294967292] 5 50 0 true wa6 (C_ints nS (by decide)) (Nat.le_refl _) ex6 HT.out
  refine hc.mono ?_
  clear hc nS
  rintro e w7 ⟨rfl, hb⟩
  replace HB := Lib.hid (below_step HB.out hb)
  replace HT := Lib.hid (HT.out.below hb)
  replace L := Lib.hid (blk_below L.out hb)
  clear hb
  have l_L : w.heap.size < w7.heap.size := blk_lt L.out
  have q_L_0 : w7.cell? ⟨w.heap.size, 0, none⟩ = some (.int .i64 5) := (blk_cell L.out 0).trans rfl
  have q_L_1 : w7.cell? ⟨w.heap.size, 1, none⟩ = some (.int .i64 50) := (blk_cell L.out 1).trans rfl
  have q_L_2 : w7.cell? ⟨w.heap.size, 2, none⟩ = some (.int .i64 0) := (blk_cell L.out 2).trans rfl
  go_wp2_with fail
  clear l_L q_L_0 q_L_1 q_L_2
  refine calls_at (fun wa7 hW => ?_)
  have hb : Below w7.heap.size w7 wa7 := by rw [hW]; exact (Below.refl _ _).alloc (Nat.le_refl _) _
  have nS : wa7.heap[w7.heap.size]? = some (.cells (nums .u64 [562949953421312, 0, 0]).toArray 32 (0, 0)) := by rw [hW]; exact heap_alloc_new _ _
  clear hW
  replace HB := Lib.hid (below_step HB.out hb)
  replace HT := Lib.hid (HT.out.below hb)
  replace L := Lib.hid (blk_below L.out hb)
  clear hb
  have hc := canoncheck_Words.calls 0 _ 3 [562949953421312, 0, 0] 5 50 0 false wa7 (C_ints nS (by decide)) (Nat.le_refl _) ex7 HT.out
  refine hc.mono ?_
  clear hc nS
  rintro e w8 ⟨rfl, hb⟩
  replace HB := Lib.hid (below_step HB.out hb)
  replace HT := Lib.hid (HT.out.below hb)
  replace L := Lib.hid (blk_below L.out hb)
  clear hb
  have l_L : w.heap.size < w8.heap.size := blk_lt L.out
  have q_L_0 : w8.cell? ⟨w.heap.size, 0, none⟩ = some (.int .i64 5) := (blk_cell L.out 0).trans rfl
  have q_L_1 : w8.cell? ⟨w.heap.size, 1, none⟩ = some (.int .i64 50) := (blk_cell L.out 1).trans rfl
  have q_L_2 : w8.cell? ⟨w.heap.size, 2, none⟩ = some (.int .i64 0) := (blk_cell L.out 2).trans rfl
  go_wp2_with fail
  clear l_L q_L_0 q_L_1 q_L_2
  refine calls_at (fun wa8 hW => ?_)
  have hb : Below w8.heap.size w8 wa8 := by rw [hW]; exact (Below.refl _ _).alloc (Nat.le_refl _) _
  have nS : wa8.heap[w8.heap.size]? = some (.cells (nums .u64 [107374182401, 7]).toArray 32 (0, 0)) := by rw [hW]; exact heap_alloc_new _ _
  clear hW
  replace HB := Lib.hid (below_step HB.out hb)
  replace HT := Lib.hid (HT.out.below hb)
  replace L := Lib.hid (blk_below L.out hb)
  clear hb
  have hc := canoncheck_Words.calls 0 _ 2 [107374182401, 7] 5 50 0 true wa8 (C_ints nS (by decide)) (Nat.le_refl _) ex8 HT.out
  refine hc.mono ?_
  clear hc nS
  rintro e w9 ⟨rfl, hb⟩
  replace HB := Lib.hid (below_step HB.out hb)
  replace HT := Lib.hid (HT.out.below hb)
  replace L := Lib.hid (blk_below L.out hb)
  clear hb
  have l_L : w.heap.size < w9.heap.size := blk_lt L.out
  have q_L_0 : w9.cell? ⟨w.heap.size, 0, none⟩ = some (.int .i64 5) := (blk_cell L.out 0).trans rfl
  have q_L_1 : w9.cell? ⟨w.heap.size, 1, none⟩ = some (.int .i64 50) := (blk_cell L.out 1).trans rfl
  have q_L_2 : w9.cell? ⟨w.heap.size, 2, none⟩ = some (.int .i64 0) := (blk_cell L.out 2).trans rfl
  go_wp2_with fail
  clear l_L q_L_0 q_L_1 q_L_2
  refine calls_at (fun wa9 hW => ?_)
  have hb : Below w9.heap.size w9 wa9 := by rw [hW]; exact (Below.refl _ _).alloc (Nat.le_refl _) _
  have nS : wa9.heap[w9.heap.size]? = some (.cells (nums .u64 [107374182401, 15]).toArray 32 (0, 0)) := by rw [hW]; exact heap_alloc_new _ _
  clear hW
  replace HB := Lib.hid (below_step HB.out hb)
  replace HT := Lib.hid (HT.out.below hb)
  replace L := Lib.hid (blk_below L.out hb)
  clear hb
  have hc := canoncheck_Words.calls 0 _ 2 [107374182401, 15] 5 50 0 false wa9 (C_ints nS (by decide)) (Nat.le_refl _) ex9 HT.out
  refine hc.mono ?_
  clear hc nS
  rintro e w10 ⟨rfl, hb⟩
  replace HB := Lib.hid (below_step HB.out hb)
  replace HT := Lib.hid (HT.out.below hb)
  replace L := Lib.hid (blk_below L.out hb)
  clear hb
  have l_L : w.heap.size < w10.heap.size := blk_lt L.out
  have q_L_0 : w10.cell? ⟨w.heap.size, 0, none⟩ = some (.int .i64 5) := (blk_cell L.out 0).trans rfl
  have q_L_1 : w10.cell? ⟨w.heap.size, 1, none⟩ = some (.int .i64 50) := (blk_cell L.out 1).trans rfl
  have q_L_2 : w10.cell? ⟨w.heap.size, 2, none⟩ = some (.int .i64 0) := (blk_cell L.out 2).trans rfl
  go_wp2_with fail
  clear l_L q_L_0 q_L_1 q_L_2
  refine calls_at (fun wa10 hW => ?_)
  have hb : Below w10.heap.size w10 wa10 := by rw [hW]; exact (Below.refl _ _).alloc (Nat.le_refl _) _
  have nS : wa10.heap[w10.heap.size]? = some (.cells (nums .u64 [98784247809, 4294967304, 0, 5]).toArray 32 (0, 0)) := by rw [hW]; exact heap_alloc_new _ _
  clear hW
  replace HB := Lib.hid (below_step HB.out hb)
  replace HT := Lib.hid (HT.out.below hb)
  replace L := Lib.hid (blk_below L.out hb)
  clear hb
  have hc := canoncheck_Words.calls 0 _ 4 [98784247809, 4294967304, 0, 5] 5 50 0 true wa10 (C_ints nS (by decide)) (Nat.le_refl _) ex10 HT.out
  refine hc.mono ?_
  clear hc nS
  rintro e w11 ⟨rfl, hb⟩
  replace HB := Lib.hid (below_step HB.out hb)
  replace HT := Lib.hid (HT.out.below hb)
  replace L := Lib.hid (blk_below L.out hb)
  clear hb
  have l_L : w.heap.size < w11.heap.size := blk_lt L.out
  have q_L_0 : w11.cell? ⟨w.heap.size, 0, none⟩ = some (.int .i64 5) := (blk_cell L.out 0).trans rfl
  have q_L_1 : w11.cell? ⟨w.heap.size, 1, none⟩ = some (.int .i64 50) := (blk_cell L.out 1).trans rfl
  have q_L_2 : w11.cell? ⟨w.heap.size, 2, none⟩ = some (.int .i64 0) := (blk_cell L.out 2).trans rfl
  go_wp2_with fail
  clear l_L q_L_0 q_L_1 q_L_2
  refine calls_at (fun wa11 hW => ?_)
  have hb : Below w11.heap.size w11 wa11 := by rw [hW]; exact (Below.refl _ _).alloc (Nat.le_refl _) _
  have nS : wa11.heap[w11.heap.size]? = some (.cells (nums .u64 [98784247809, 4294967304, 0, 0]).toArray 32 (0, 0)) := by rw [hW]; exact heap_alloc_new _ _
  clear hW
  replace HB := Lib.hid (below_step HB.out hb)
  replace HT := Lib.hid (HT.out.below hb)
  replace L := Lib.hid (blk_below L.out hb)
  clear hb
  have hc := canoncheck_Words.calls 0 _ 4 [98784247809, 4294967304, 0, 0] 5 50 0 false wa11 (C_ints nS (by decide)) (Nat.le_refl _) ex11 HT.out
  refine hc.mono ?_
  clear hc nS
  rintro e w12 ⟨rfl, hb⟩
  replace HB := Lib.hid (below_step HB.out hb)
  replace HT := Lib.hid (HT.out.below hb)
  replace L := Lib.hid (blk_below L.out hb)
  clear hb
  have l_L : w.heap.size < w12.heap.size := blk_lt L.out
  have q_L_0 : w12.cell? ⟨w.heap.size, 0, none⟩ = some (.int .i64 5) := (blk_cell L.out 0).trans rfl
  have q_L_1 : w12.cell? ⟨w.heap.size, 1, none⟩ = some (.int .i64 50) := (blk_cell L.out 1).trans rfl
  have q_L_2 : w12.cell? ⟨w.heap.size, 2, none⟩ = some (.int .i64 0) := (blk_cell L.out 2).trans rfl
  go_wp2_with fail
  clear l_L q_L_0 q_L_1 q_L_2
  refine calls_at (fun wa12 hW => ?_)
  have hb : Below w12.heap.size w12 wa12 := by rw [hW]; exact (Below.refl _ _).alloc (Nat.le_refl _) _
  have nS : wa12.heap[w12.heap.size]? = some (.cells (nums .u64 [4294967296, 5]).toArray 32 (0, 0)) := by rw [hW]; exact heap_alloc_new _ _
  clear hW
  replace HB := Lib.hid (below_step HB.out hb)
  replace HT := Lib.hid (HT.out.below hb)
  replace L := Lib.hid (blk_below L.out hb)
  clear hb
  have hc := canoncheck_Words.calls 0 _ 2 [4294967296, 5] 5 0 0 false wa12 (C_ints nS (by decide)) (Nat.le_refl _) ex12 HT.out
  refine hc.mono ?_
  clear hc nS
  rintro e w13 ⟨rfl, hb⟩
  replace HB := Lib.hid (below_step HB.out hb)
  replace HT := Lib.hid (HT.out.below hb)
  replace L := Lib.hid (blk_below L.out hb)
  clear hb
  have l_L : w.heap.size < w13.heap.size := blk_lt L.out
  have q_L_0 : w13.cell? ⟨w.heap.size, 0, none⟩ = some (.int .i64 5) := (blk_cell L.out 0).trans rfl
  have q_L_1 : w13.cell? ⟨w.heap.size, 1, none⟩ = some (.int .i64 50) := (blk_cell L.out 1).trans rfl
  have q_L_2 : w13.cell? ⟨w.heap.size, 2, none⟩ = some (.int .i64 0) := (blk_cell L.out 2).trans rfl
  go_wp2
  go_ret
  exact ⟨rfl, HB.out⟩
end Go.Proofs.YtidglmocekghmaaDoor.Pr
end
section
namespace Go.Proofs.YtidglmocekghmaaDoor.Pr
open Go.RowKit Go.Proofs.YtidglmocekghmaaDoorW.PrintWords Go.Proofs.YtidglmocekghmaaDoorW.PrintLast Go.Proofs.YtidglmocekghmaaDoorW.PrintMore
set_option linter.unusedVariables false
set_option linter.unusedSimpArgs false
theorem smallG_lim {G : List (List Int)} {D Wd : Int} (h : smallG G D Wd = true) : D ≤ 40 ∧ Wd ≤ 2000 := by
  unfold smallG at h
  simp only [Bool.and_eq_true, decide_eq_true_eq] at h
  exact h.1
theorem smallG_one {s : List Int} {D Wd : Int} (h : smallG [s] D Wd = true) : s.length ≤ 300 := by
  unfold smallG fewG at h
  simp only [Bool.and_eq_true, decide_eq_true_eq] at h
  exact h.2.1 0 (by simp)
set_option maxRecDepth 100000 in
set_option maxHeartbeats 4000000 in
theorem matches_law (A : Option Addr) (cp : Nat) (s : List Int) (D Wd O : Int) (w : World) (hr : (Kd.int .u64).C w A s.length s) (hc : s.length ≤ cp) (ok : ∀ x ∈ s, 0 ≤ x ∧ x < 18446744073709551616) (ht : Tabs w) :
    Calls Tryd.prog 3 #[.slice A s.length cp, limV D Wd O] w fun e w' => e = .returned (.bool true) ∧ Below w.heap.size w w' := by
  have hl0 : s.length ≤ 9223372036854775807 := hr.2.1
  have S := Sep.start w
  have HA := fun w' (hb : Below w.heap.size w w') => Lib.hid (capnplaw16_awake.calls true w' rfl (ht.below hb))
  have HS := fun g w' (hb : Below w.heap.size w w') (hg : w'.heap[g]? = some (.cells #[.slice A s.length cp] 22 (0, 0))) => Lib.hid (show Calls Tryd.prog 9 #[.slice (some ⟨g, 0, none⟩) 1 1, limV D Wd O] w' (fun e w1 => e = .returned (.bool (smallG [s] D Wd)) ∧ Below w'.heap.size w' w1) from small_any (some ⟨g, 0, none⟩) 1 [s] D Wd O w' (C_sl1 hg hc (Kd.C_below hr hb)) (by simp) (fun x hx => by simp at hx; subst hx; exact hl0))
  cases hq : smallG [s] D Wd with
  | false =>
    rw [hq] at HS
    clear hq hr hc hl0 ok ht
    go_enter Tryd.func3, Tryd.ntmps3
    go_wp2_with (first | go_skip | ((with_reducible refine wl ?_); first | refine sn S (fun g w1 S => ?_) | refine ss S (fun w1 S => ?_) | refine sl S ?_ | refine sa S ?_ | refine sa (S.new _ _) ?_) | ((with_reducible refine (HA _ S.below).out.mono ?_); rintro r' w' ⟨rfl, hb⟩; replace S := S.call hb) | ((with_reducible refine (HS _ _ (S.new _ _).below ((S.new _ _).blk .here)).out.mono ?_); rintro r' w' ⟨rfl, hb⟩; replace S := ((S.new _ _).call hb).tail))
    exact rt S ⟨rfl, S.below⟩
  | true =>
    obtain ⟨hD, hW⟩ := smallG_lim hq
    have hl : s.length ≤ 17592186040320 := by have := smallG_one hq; omega
    have H1 := fun w' (hb : Below w.heap.size w w') => Lib.hid (words_any A cp s D Wd O w' ⟨Kd.C_below hr hb, (ht.below hb).tab, (ht.below hb).dec, ok, hl⟩ hc (by omega) (by omega))
    have H2 := fun w' (hb : Below w.heap.size w w') => Lib.hid (rwords_all A cp s D Wd O w' (Kd.C_below hr hb) hc hl ok hD hW)
    rw [hq] at HS
    rw [wordsM_R] at H1
    generalize wordsR s D Wd = b at *
    clear hq hr hc hl hl0 ok ht hD hW
    go_enter Tryd.func3, Tryd.ntmps3
    go_wp2_with (first | go_skip | ((with_reducible refine wl ?_); first | refine sn S (fun g w1 S => ?_) | refine ss S (fun w1 S => ?_) | refine sl S ?_ | refine sa S ?_ | refine sa (S.new _ _) ?_) | ((with_reducible refine (HA _ S.below).out.mono ?_); rintro r' w' ⟨rfl, hb⟩; replace S := S.call hb) | ((with_reducible refine (HS _ _ (S.new _ _).below ((S.new _ _).blk .here)).out.mono ?_); rintro r' w' ⟨rfl, hb⟩; replace S := ((S.new _ _).call hb).tail))
    refine rs [0] S (fun w1 S => ?_)
    refine pu 0 15 ?_
    refine lt 1 S ?_
    refine pu 3 18 ?_
    refine lt 4 S ?_
    refine lc 2 17 Tryd.func10 (H1 _ S.below).out (fun r' w2 hT => ?_)
    obtain ⟨rfl, hb⟩ := hT
    replace S := S.call hb
    refine ⟨_, rfl, S.kpq 0, _, rfl, ?_⟩
    simp only [Act.put, List.setIfInBounds_toArray, List.set_cons_zero, List.set_cons_succ]
    refine lc 5 20 Tryd.func11 (H2 _ S.below).out (fun r' w2 hT => ?_)
    obtain ⟨rfl, hb⟩ := hT
    replace S := S.call hb
    refine ⟨_, rfl, S.kpq 0, _, rfl, ?_⟩
    simp only [Act.put, List.setIfInBounds_toArray, List.set_cons_zero, List.set_cons_succ]
    refine pu 6 21 ?_
    refine pu 7 4 ?_
    refine dn ?_
    go_wp2
    refine rt S ⟨?_, S.below⟩
    simp
end Go.Proofs.YtidglmocekghmaaDoor.Pr
end
section
namespace Go.Proofs.YtidglmocekghmaaDoor.canoncheckMatchesReference
open Go.ChangeShapes Go.WideShapes Go.ChangeAt Go.RowKit Go.Joins
set_option linter.unusedVariables false
set_option linter.unusedSimpArgs false
theorem own : ownKnob Tryd.prog.godebug = none := by kernel_rfl
theorem laidOut : laidOutB Tryd.prog = true := by kernel_rfl
set_option maxRecDepth 100000 in
theorem contract (H : Type) (enc : TypeId × Value → H) (W : World) (base : Nat) (args : Array Value) (ds gs : List (DataW H)) (before : List MemPlace)
    (hval0 : ∀ (j : Nat) t v, Tryd.f3.params[j]? = some t → args[j]? = some v → Value.okWide Tryd.prog W .any base t v)
    (hW : DataW.Whole enc Tryd.prog Tryd.f3.params.toList Rows.canoncheckMatchesReferenceSpec.vars false W args.toList ds gs before) (hL0 : laidMetH Tryd.prog Rows.canoncheckMatchesReferenceRow.laid W) :
    Calls Tryd.prog 3 args W fun e W' => ∃ v, e = .returned v ∧ Rows.canoncheckMatchesReferenceSpec.post enc Tryd.prog Tryd.f3 false true false false W args v W' := by
  have hL : laidMetH Tryd.prog TabD.laidL W := hL0
  have hval : ∀ (j : Nat) t v, Tryd.f3.params[j]? = some t → args[j]? = some v → Value.okWide Tryd.prog W .any base t v := hval0
  have hW' := hW
  obtain ⟨p, q, hA0, hV, rfl, hfz, hnd⟩ := hW
  have hA : DataW.TrodAll enc Tryd.prog W 0 (fun _ => true) true Tryd.f3.params.toList args.toList ds p := hA0
  rw [Tryd.params3] at hA hval
  obtain ⟨v0, vs0, d0, ds0, p0, q0, hargs, rfl, rfl, h0, r0⟩ := trodAll_cons hA
  obtain ⟨v1, vs1, d1, ds1, p1, q1, rfl, rfl, rfl, h1, r1⟩ := trodAll_cons r0
  obtain ⟨rfl, rfl, rfl⟩ := trodAll_nil r1
  obtain rfl : args = #[v0, v1] := by cases args; simp_all
  obtain ⟨rfl, rfl⟩ := trodVars_none hV
  have k0 := h0
  have lt0 : ∀ x ∈ p0, x.block < W.heap.size := by obtain ⟨m, hm⟩ := k0; exact DataW.trod_lt m _ _ _ hm
  obtain ⟨x0, y0, z0, rfl⟩ := okWide_slice Tryd.underlying22 (hval 0 22 v0 rfl rfl)
  obtain ⟨fuel0, hf0⟩ := h0
  obtain ⟨A0, c0, a0, e0, l0, g0, ok0⟩ := TabD.words_in hf0
  have e0' : [Value.slice x0 y0 z0] = [Value.slice A0 a0.length c0] := e0
  simp only [List.cons.injEq, Value.slice.injEq, and_true] at e0'
  obtain ⟨rfl, rfl, rfl⟩ := e0'
  clear e0 hf0
  have k1 := h1
  have lt1 : ∀ x ∈ p1, x.block < W.heap.size := by obtain ⟨m, hm⟩ := k1; exact DataW.trod_lt m _ _ _ hm
  obtain ⟨a1_0, a1_1, a1_2, rfl, w1_0, w1_1, w1_2⟩ : ∃ x0 x1 x2 : Int, v1 = .agg #[.int .i64 x0, .int .i64 x1, .int .i64 x2] ∧ (Lit.int .i64 x0).wf = true ∧ (Lit.int .i64 x1).wf = true ∧ (Lit.int .i64 x2).wf = true := by
    obtain ⟨c0, c1, c2, y0, y1, y2, m, rfl, _, _, e0, e1, e2⟩ := open_agg3 Tryd.underlying24 (by kernel_rfl) (by kernel_rfl) (hval 1 24 v1 rfl rfl) h1
    obtain ⟨x0, g0, _, z0⟩ := DataW.trod_int Tryd.underlying3 e0
    simp at g0
    subst g0
    obtain ⟨x1, g1, _, z1⟩ := DataW.trod_int Tryd.underlying3 e1
    simp at g1
    subst g1
    obtain ⟨x2, g2, _, z2⟩ := DataW.trod_int Tryd.underlying3 e2
    simp at g2
    subst g2
    exact ⟨x0, x1, x2, rfl, z0, z1, z2⟩
  clear hA0 hval0 hL0
  refine (Pr.matches_law x0 z0 a0 a1_0 a1_1 a1_2 W g0 l0 ok0 (TabD.tabs hL)).mono fun e W' ⟨he, bel⟩ => ?_
  subst he
  exact ⟨_, rfl, _, _, _, [], _, [], hW', trodAll_mk1 (shut_bool Tryd.underlying4 _), (trodAll_cons_mk (Below.trod laidOut (by kernel_rfl) (of_decide_eq_true (by kernel_rfl)) k0 bel lt0) (trodAll_cons_mk (Below.trod laidOut (by kernel_rfl) (of_decide_eq_true (by kernel_rfl)) k1 bel lt1) trodAll_mk0)), rfl, bel.frame _, fun h => by cases h⟩
theorem laid_met (os : Os) : laidMetH Tryd.prog Rows.canoncheckMatchesReferenceRow.laid ((World.doorLaid Tryd.prog 600 os).forCall (fun _ _ => 0) ⟨#[], #[.slice none 0 0, .agg #[.int .i64 0, .int .i64 0, .int .i64 0]], []⟩).memory :=
  laidMetH_of_parts3 (fuel := 8) (laidMet_of_run' 8 (by kernel_rfl) (by kernel_rfl)) (by kernel_rfl) (by kernel_rfl)
theorem reads (os : Os) {H : Type} (enc : TypeId × Value → H) : ∃ places, DataW.whole enc Tryd.prog ((World.doorLaid Tryd.prog 600 os).forCall (fun _ _ => 0) ⟨#[], #[.slice none 0 0, .agg #[.int .i64 0, .int .i64 0, .int .i64 0]], []⟩).memory Tryd.f3.params.toList Rows.canoncheckMatchesReferenceSpec.vars false (#[.slice none 0 0, .agg #[.int .i64 0, .int .i64 0, .int .i64 0]] : Array Value).toList 10 = some ([.nil, .agg [.lit (.int .i64 0), .lit (.int .i64 0), .lit (.int .i64 0)]], [], places) :=
  ⟨[], by kernel_rfl⟩
set_option maxRecDepth 100000 in
theorem lifted (os : Os) (started : os.Started) (H : Type) (enc : TypeId × Value → H) (F : Stop.Interp) :
    ReturnsInHanded {} Tryd.checked os 3 .any ((OpenSpec.ofChange Rows.canoncheckMatchesReferenceSpec).preRow enc Tryd.prog Tryd.f3 Rows.canoncheckMatchesReferenceRow.domain false Rows.canoncheckMatchesReferenceRow.laid) (((OpenSpec.ofChange Rows.canoncheckMatchesReferenceSpec).at F).post enc Tryd.prog Tryd.f3 false true false false) := by
  obtain ⟨places, hx⟩ := reads os enc
  refine returnsInHanded_of_row (C := Tryd.checked) (s := (OpenSpec.ofChange Rows.canoncheckMatchesReferenceSpec)) own started (by kernel_rfl) Tryd.func3
    (witness_row_at (enc := enc) (C := Tryd.checked) false (World.doorLaid Tryd.prog 600 os) #[.slice none 0 0, .agg #[.int .i64 0, .int .i64 0, .int .i64 0]] rfl (by kernel_rfl) (by kernel_rfl) (by kernel_rfl)
      (OpenSpec.preRow_of_cond 10 hx (by kernel_rfl) (fun k hk => by cases hk) (by kernel_rfl) (laid_met os))) ?_
  intro W base args ds gs before hval hW _ _ _ hL _ _
  exact contract H enc W base args ds gs before hval hW hL
theorem said : Rows.CanoncheckMatchesReferenceSaid :=
  OpenClaim.holds_of_cond 3 Tryd.f3 rfl rfl rfl rfl rfl rfl rfl ⟨rfl, rfl, rfl, rfl, rfl⟩ rfl rfl rfl rfl rfl (by kernel_rfl) Tryd.func3 (by kernel_rfl)
    (of_decide_eq_true (by kernel_rfl)) (by unfold Func.isWrapper; first | (rw [if_pos (by decide +kernel)]; kernel_rfl) | (rw [if_neg (by decide +kernel)]; exact ⟨rfl, rfl⟩))
    (fun os started H enc _ F => by rw [OpenClaim.pre_eq_preRow]; exact lifted os started H enc F)
theorem plain (f : FuncId) (fn : Func) (hf : Tryd.pinned.checked.prog.funcNamed "capnp/capnplaw16.CanoncheckMatchesReference" = some f) (hfn : Tryd.pinned.checked.prog.funcs[f]? = some fn) :
    true = Tryd.pinned.checked.prog.looks [] ∧ ∀ (j : Nat) t, fn.params[j]? = some t → Tryd.pinned.checked.prog.wantsStandIn t = false := by
  obtain rfl : f = 3 := Option.some.inj ((show Tryd.prog.funcNamed "capnp/capnplaw16.CanoncheckMatchesReference" = some 3 by kernel_rfl).symm.trans hf) |>.symm
  obtain rfl : fn = Tryd.f3 := (Option.some.inj (Tryd.func3.symm.trans hfn)).symm
  refine ⟨by kernel_rfl, fun j t ht => ?_⟩
  rw [Tryd.params3] at ht
  have hm : t = 22 ∨ t = 24 := by have := Array.mem_of_getElem? ht; simp at this; omega
  rcases hm with rfl | rfl
  · exact (show Tryd.prog.wantsStandIn 22 = false by kernel_rfl)
  · exact (show Tryd.prog.wantsStandIn 24 = false by kernel_rfl)
theorem card : Rows.CanoncheckMatchesReferenceCardSaid :=
  Claim7.holds_tied_plain_at .later [] _ _ _ _ said (fun _ h => by cases h) (by kernel_rfl) (fun _ h => by cases h) canoncheckMatchesReference_row_tie rfl ⟨rfl, rfl⟩ (by kernel_rfl) rfl plain (by kernel_rfl)
#print axioms card
end Go.Proofs.YtidglmocekghmaaDoor.canoncheckMatchesReference
namespace Go.Proofs.YtidglmocekghmaaDoor
theorem canoncheckMatchesReference_holds : Rows.CanoncheckMatchesReferenceCardSaid := canoncheckMatchesReference.card
end Go.Proofs.YtidglmocekghmaaDoor
end

