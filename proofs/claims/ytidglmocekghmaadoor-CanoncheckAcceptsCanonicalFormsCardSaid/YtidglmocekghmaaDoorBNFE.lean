/- A part of the proof of YtidglmocekghmaaDoorFormsCard (the texts that it stands on, gathered; declarations that nothing uses are left out). -/
import Derived.Test.YtidglmocekghmaaDoorBNFD
import Derived.Below
import Derived.Deep.Draws
import Derived.Deep.AppendLies
import Derived.Maps.AppendAt
import Derived.OwnWalk
import Derived.Laws.BytesArg
import Derived.Laws.MakeOwn
import Derived.Laws.OwnMore
import Derived.Deep.OwnRows
import Derived.Tactics
import Derived.Lib.ConvBytes
import Derived.Laws.Slices
import Derived.WalkKit
import Derived.KernelRfl
import Derived.RowKit3
import Derived.Deep.LoopGhost
import Derived.Deep.QuietTactic
import Derived.BigQuiet
import Derived.WideLaws
import Derived.Deep.DeepCutAuto
import Derived.Deep.CutBlock
import Derived.Deep.RegionHeld3
import Derived.Laws.Rows
import Derived.Lib.AppendStr
import Derived.ArgAppend
import Derived.Laws.IdiomCopy
import Derived.RowKit
import Derived.OrdersHeld
import Derived.Laws.BitsLemmas
import Derived.Laws.StructEq
import Derived.SizedLaws
import Derived.ChangeSlices
import Derived.Test.YtidglmocekghmaaDoorProg
import Derived.Lib.Hide
import Derived.WalkLawsBesides
import Derived.WalkSpells
import Derived.Outline
import Derived.IntWalk
import Derived.Laws.AppendOwn
import Derived.RangeFuncBox
import Derived.Lib.JoinLaws
import Derived.Defers
import Derived.Recover
import Derived.Laws.Pointers
import Derived.Test.YtidglmocekghmaaDoorCards
import Derived.ProofKit
import Derived.LaidMore
import Derived.LaidHandle
import Derived.Maps.Keyed
import Derived.WideKeyElems2
import Derived.Lib.LaidTab
import Derived.OpenShut
import Derived.Lib.SmallJoins
import Derived.Deep.Matrix
set_option linter.unusedVariables false
set_option linter.unusedSimpArgs false
section
namespace Go.Proofs.YtidglmocekghmaaDoor.Pr
theorem kept_all {kids : List S37} (hl : 0 < kids.length) (hx : ∀ x, kids[kids.length - 1]? = some x → x.f0 ≠ 0) : keptN nullN kids = kids.length := by
 have h1 : kids.length - 1 < kids.length := by omega
 have h2 := hx _ (List.getElem?_eq_getElem h1)
 have e : kids = kids.take (kids.length - 1) ++ [kids[kids.length - 1]] := by
  rw [← take_one kids _ h1, List.take_of_length_le (by omega)]
 rw [e, keptN_last nullN _ _ (by simp [nullN, h2])]
 rw [← e]
 simp
 omega
theorem str_lay {s : List Int} {f : Nat} (H : LayP s f) (hok : ∀ x ∈ s, 0 ≤ x ∧ x < 18446744073709551616) (a nx r m d p : Nat) (ha : a < s.length) (hw : wd s a = encS ((nx : Int) - a - 1) d p) (hz : d + p ≠ 0) (hin : nx + (d + p) ≤ s.length) (hd : d = 0 ∨ wd s (nx + d - 1) ≠ 0) (hp : p = 0 ∨ wd s (nx + d + p - 1) ≠ 0)
  (he : (kidsR (valR [s] f 0) p (nx + d : Nat) m).2.2 = 0) (h : vptrs (visV s f) p (nx + d) (nx + (d + p)) = some r) :
  lay s (ttrim ⟨1, 0, 0, bytesL (seg s nx d), (kidsR (valR [s] f 0) p (nx + d : Nat) m).1⟩) a nx r := by
 obtain ⟨h1, h2, h3⟩ := kids_lay H p (nx + d) (nx + (d + p)) r m (by omega) hin he h
 generalize (kidsR (valR [s] f 0) p (nx + d : Nat) m).1 = kids at *
 have hl : (seg s nx d).length = d := by unfold seg; rw [List.length_take, List.length_drop]; omega
 have hsok : ∀ x ∈ seg s nx d, 0 ≤ x ∧ x < 18446744073709551616 := fun x hx => hok x (List.mem_of_mem_drop (List.mem_of_mem_take hx))
 have ht : twords (bytesL (seg s nx d)) = d := by
  by_cases hd0 : d = 0
  ·have := twords_le_len (seg s nx d)
   omega
  ·rw [twords_last (seg s nx d) hsok (by omega), hl]
   rw [hl]
   have := seg_wd (s := seg s nx d) (s' := s.drop nx) (i := 0) (n := d) (by unfold seg; rw [List.drop_zero, List.drop_zero, List.take_take, Nat.min_self]) (d - 1) (by omega)
   rw [Nat.zero_add] at this
   rw [this]
   unfold wd
   rw [List.getD_eq_getElem?_getD, List.getElem?_drop, show nx + (d - 1) = nx + d - 1 by omega, ← List.getD_eq_getElem?_getD]
   exact hd.resolve_left hd0
 have hk : keptN nullN kids = kids.length := by
  by_cases hp0 : p = 0
  ·have := keptN_le nullN kids
   omega
  ·refine kept_all (by omega) (fun x hx hx0 => ?_)
   have := (h3 _ x hx).1 hx0
   rw [h2, show nx + d + (p - 1) = nx + d + p - 1 by omega] at this
   exact hp.resolve_left hp0 this
 rw [ttrim_struct, ht, hk, List.take_length]
 have hb : (bytesL (seg s nx d)).take (8 * d) = bytesL (seg s nx d) := List.take_of_length_le (by rw [bytesL_length, hl]; omega)
 rw [hb]
 unfold lay
 rw [if_neg (by omega), if_pos rfl, bytesL_length, hl, show 8 * d / 8 = d by omega, List.length_map, h2, if_neg hz]
 refine ⟨hw, hin, ?_, h1⟩
 have := wordsB_bytesL (seg s nx d) hsok
 rw [hl] at this
 exact this.symm
end Go.Proofs.YtidglmocekghmaaDoor.Pr
end
section
namespace Go.Proofs.YtidglmocekghmaaDoor.Pr
theorem anyM_iff (s : List Int) (size : Nat) : ∀ k a : Nat, anyM s size k a = true ↔ ∃ i, i < k ∧ wd s (a + i * size) ≠ 0
 | 0, a => by simp [anyM]
 | k + 1, a => by
  rw [anyM, Bool.or_eq_true, anyM_iff s size k (a + size), decide_eq_true_eq]
  constructor
  ·rintro (h | ⟨i, hi, h⟩)
   ·exact ⟨0, by omega, by simpa using h⟩
   ·exact ⟨i + 1, by omega, by rw [Nat.add_mul, Nat.one_mul, show a + (i * size + size) = a + size + i * size by omega]; exact h⟩
  ·rintro ⟨i, hi, h⟩
   cases i with
   | zero => exact .inl (by simpa using h)
   | succ i => exact .inr ⟨i, by omega, by rw [show a + size + i * size = a + (i + 1) * size by rw [Nat.add_mul, Nat.one_mul]; omega]; exact h⟩
theorem maxD_eq {l : List S37} {d : Nat} (h1 : ∀ x ∈ l, x.f3.length / 8 ≤ d) (h2 : d = 0 ∨ ∃ x ∈ l, x.f3.length / 8 = d) : maxD l = d := by
 have hle : ∀ l : List S37, (∀ x ∈ l, x.f3.length / 8 ≤ d) → maxD l ≤ d := fun l => by
  induction l with
  | nil => intro _; exact Nat.zero_le _
  | cons y l ih =>
   intro h
   have := ih (fun x hx => h x (List.mem_cons_of_mem _ hx))
   have := h y List.mem_cons_self
   unfold maxD
   omega
 have hge : ∀ (l : List S37) (x : S37), x ∈ l → x.f3.length / 8 ≤ maxD l := fun l x => by
  induction l with
  | nil => intro h; cases h
  | cons y l ih =>
   intro h
   unfold maxD
   rcases List.mem_cons.1 h with rfl | h
   ·omega
   ·have := ih h; omega
 have := hle l h1
 rcases h2 with h2 | ⟨x, hx, hxd⟩
 ·omega
 ·have := hge l x hx; omega
theorem maxP_eq {l : List S37} {p : Nat} (h1 : ∀ x ∈ l, x.f4.length ≤ p) (h2 : p = 0 ∨ ∃ x ∈ l, x.f4.length = p) : maxP l = p := by
 have hle : ∀ l : List S37, (∀ x ∈ l, x.f4.length ≤ p) → maxP l ≤ p := fun l => by
  induction l with
  | nil => intro _; exact Nat.zero_le _
  | cons y l ih =>
   intro h
   have := ih (fun x hx => h x (List.mem_cons_of_mem _ hx))
   have := h y List.mem_cons_self
   unfold maxP
   omega
 have := hle l h1
 rcases h2 with h2 | ⟨x, hx, hxp⟩
 ·omega
 ·have := maxP_le hx; omega
def ElK (s : List Int) (d p at_ : Nat) (x : S37) : Prop := ∃ l : List S37, x = ⟨1, 0, 0, bytesL (seg s at_ d), l⟩ ∧ l.length = p ∧ ∀ (q : Nat) (y : S37), l[q]? = some y → (y.f0 = 0 ↔ wd s (at_ + d + q) = 0)
theorem cutG_one (s : List Int) (a n : Nat) : cutG [s] 0 (a : Int) (n : Int) = seg s a n := by
 unfold cutG seg
 simp [sgG]
theorem els_lay {s : List Int} {f : Nat} (H : LayP s f) (hok : ∀ x ∈ s, 0 ≤ x ∧ x < 18446744073709551616) (d p ad k0 : Nat) (cost : Int) : ∀ (k i nx r m : Nat), ad + (i + k) * (d + p) ≤ s.length → nx ≤ s.length → (kidsR (fun i m => strR [s] (valR [s] f) (elG ⟨2, 0, (ad : Int), d, p, 7, k0, cost⟩ i) m) k i m).2.2 = 0 → velems (visV s f) p (d + p) k (ad + i * (d + p) + d) nx = some r →
    layE s d p ((kidsR (fun i m => strR [s] (valR [s] f) (elG ⟨2, 0, (ad : Int), d, p, 7, k0, cost⟩ i) m) k i m).1.map ttrim) (ad + i * (d + p)) nx r ∧ (kidsR (fun i m => strR [s] (valR [s] f) (elG ⟨2, 0, (ad : Int), d, p, 7, k0, cost⟩ i) m) k i m).1.length = k ∧ ∀ (j : Nat) (x : S37), (kidsR (fun i m => strR [s] (valR [s] f) (elG ⟨2, 0, (ad : Int), d, p, 7, k0, cost⟩ i) m) k i m).1[j]? = some x → ElK s d p (ad + (i + j) * (d + p)) x
  | 0, i, nx, r, m, _, _, _, h => by
    simp only [velems, Option.some.injEq] at h
    refine ⟨?_, rfl, fun j x hx => by simp [kidsR] at hx⟩
    simp only [kidsR, List.map_nil, layE]
    exact h.symm
  | k + 1, i, nx, r, m, hin, hn, he, h => by
    have y1 : (i + (k + 1)) * (d + p) = i * (d + p) + k * (d + p) + (d + p) := by rw [Nat.add_mul, Nat.add_mul, Nat.one_mul]; omega
    have y2 : (i + 1 + k) * (d + p) = i * (d + p) + k * (d + p) + (d + p) := by rw [Nat.add_mul, Nat.add_mul, Nat.one_mul]; omega
    have y3 : (i + 1) * (d + p) = i * (d + p) + (d + p) := by rw [Nat.add_mul, Nat.one_mul]
    have hE : elG ⟨2, 0, (ad : Int), d, p, 7, k0, cost⟩ (i : Int) = ⟨1, 0, ((ad + i * (d + p) : Nat) : Int), d, p, 0, 0, 0⟩ := by unfold elG; simp
    have hsk := strR_sinks [s] (valR_sinks [s] f) (elG ⟨2, 0, (ad : Int), d, p, 7, k0, cost⟩ (i : Int)) m (by omega)
    revert he
    unfold kidsR
    by_cases h1 : (strR [s] (valR [s] f) (elG ⟨2, 0, (ad : Int), d, p, 7, k0, cost⟩ (i : Int)) m).2.2 ≠ 0
    · rw [if_pos h1]
      intro he
      exact (h1 he).elim
    rw [if_neg h1]
    intro he
    have h1 : (strR [s] (valR [s] f) (elG ⟨2, 0, (ad : Int), d, p, 7, k0, cost⟩ (i : Int)) m).2.2 = 0 := by simpa using h1
    rw [velems] at h
    cases hq : vptrs (visV s f) p (ad + i * (d + p) + d) nx with
    | none => rw [hq] at h; cases h
    | some q =>
      rw [hq] at h
      dsimp only at he h
      generalize hT : strR [s] (valR [s] f) (elG ⟨2, 0, (ad : Int), d, p, 7, k0, cost⟩ (i : Int)) m = T at *
      rw [hE] at hT
      have h2 := strR_2 [s] (valR [s] f) ⟨1, 0, ((ad + i * (d + p) : Nat) : Int), d, p, 0, 0, 0⟩ m
      rw [hT] at h2
      dsimp only at h2
      rw [Int.toNat_natCast, show (((ad + i * (d + p) : Nat) : Int) + (d : Int)) = ((ad + i * (d + p) + d : Nat) : Int) by omega] at h2
      have hk0 : (kidsR (valR [s] f 0) p ((ad + i * (d + p) + d : Nat) : Int) m).2.2 = 0 := by rw [← h2]; exact h1
      obtain ⟨a1, a2, a3⟩ := kids_lay H p (ad + i * (d + p) + d) nx q m (by omega) hn hk0 hq
      have hT1 : T.1 = ⟨1, 0, 0, bytesL (seg s (ad + i * (d + p)) d), (kidsR (valR [s] f 0) p ((ad + i * (d + p) + d : Nat) : Int) m).1⟩ := by
        rw [← hT]
        unfold strR
        dsimp only
        rw [Int.toNat_natCast, show (((ad + i * (d + p) : Nat) : Int) + (d : Int)) = ((ad + i * (d + p) + d : Nat) : Int) by omega, if_neg (by rw [hk0]; simp), cutG_one]
      have hqn : q ≤ s.length := vptrs_bd (n := s.length) (fun j hj e he r hr => by
        obtain ⟨m', hm'⟩ := kidsR_ok (valR_sinks [s] f 0) p _ m (by omega) hk0 j hj
        exact vis_bd ⟨m', by rw [show ((ad + i * (d + p) + d + j : Nat) : Int) = ((ad + i * (d + p) + d : Nat) : Int) + j by omega]; exact hm'⟩ (by omega) he hr) hn hq
      have e1 : ((T.2.1.toNat : Nat) : Int) = T.2.1 := by omega
      have e2 : ((i + 1 : Nat) : Int) = (i : Int) + 1 := by omega
      have e3 : ad + i * (d + p) + d + (d + p) = ad + (i + 1) * (d + p) + d := by omega
      rw [e3] at h
      have := els_lay H hok d p ad k0 cost k (i + 1) q r T.2.1.toNat (by omega) hqn (by rw [e1, e2]; exact he) h
      rw [e1, e2] at this
      obtain ⟨b1, b2, b3⟩ := this
      generalize (kidsR (valR [s] f 0) p ((ad + i * (d + p) + d : Nat) : Int) m).1 = kids at *
      have hl : (seg s (ad + i * (d + p)) d).length = d := by unfold seg; rw [List.length_take, List.length_drop]; omega
      have hsok : ∀ x ∈ seg s (ad + i * (d + p)) d, 0 ≤ x ∧ x < 18446744073709551616 := fun x hx => hok x (List.mem_of_mem_drop (List.mem_of_mem_take hx))
      refine ⟨?_, by simp [b2], fun j x hx => ?_⟩
      · rw [List.map_cons, hT1, ttrim_struct]
        unfold layE
        refine ⟨?_, fun j hj1 hj2 => ?_, q, cut_lays a1, ?_⟩
        · have := wordsB_cut _ hsok
          rw [hl] at this
          exact this.symm
        · rw [List.length_map] at hj1
          obtain ⟨z, z1, z2, z3⟩ := keptN_parts nullN kids
          rw [z3] at hj1
          have hjl : j < kids.length := by omega
          have hx0 : kids[j].f0 = 0 := by
            have hmem : kids[j] ∈ z := by
              have h5 : kids[j]? = z[j - keptN nullN kids]? := by
                conv => lhs; rw [z1]
                rw [List.getElem?_append_right (by omega), z3]
              rw [List.getElem?_eq_getElem hjl] at h5
              exact List.mem_of_getElem? h5.symm
            have := z2 _ hmem
            simpa [nullN] using this
          exact (a3 j _ (List.getElem?_eq_getElem hjl)).1 hx0
        · rw [show ad + i * (d + p) + (d + p) = ad + (i + 1) * (d + p) by omega]
          exact b1
      · cases j with
        | zero =>
          simp only [List.getElem?_cons_zero, Option.some.injEq] at hx
          subst hx
          exact ⟨kids, by rw [hT1, Nat.add_zero], a2, fun q y hy => by rw [Nat.add_zero]; exact a3 q y hy⟩
        | succ j =>
          simp only [List.getElem?_cons_succ] at hx
          have := b3 j x hx
          rwa [show i + 1 + j = i + (j + 1) by omega] at this
end Go.Proofs.YtidglmocekghmaaDoor.Pr
end
section
namespace Go.Proofs.YtidglmocekghmaaDoor.Pr
theorem seg_last {s : List Int} {i d : Nat} (hd : 0 < d) : wd (seg s i d) (d - 1) = wd s (i + d - 1) := by
 unfold seg wd
 rw [List.getD_eq_getElem?_getD, List.getElem?_take_of_lt (by omega), List.getElem?_drop, List.getD_eq_getElem?_getD, show i + (d - 1) = i + d - 1 by omega]
theorem el_sizes {s : List Int} {d p at_ : Nat} {x : S37} (hok : ∀ x ∈ s, 0 ≤ x ∧ x < 18446744073709551616) (h : ElK s d p at_ x) (hin : at_ + (d + p) ≤ s.length) : (ttrim x).f3.length / 8 ≤ d ∧ (ttrim x).f4.length ≤ p ∧ (0 < d → wd s (at_ + d - 1) ≠ 0 → (ttrim x).f3.length / 8 = d) ∧ (0 < p → wd s (at_ + d + p - 1) ≠ 0 → (ttrim x).f4.length = p) := by
  obtain ⟨l, rfl, h2, h3⟩ := h
  have hl : (seg s at_ d).length = d := by unfold seg; rw [List.length_take, List.length_drop]; omega
  have hsok : ∀ x ∈ seg s at_ d, 0 ≤ x ∧ x < 18446744073709551616 := fun x hx => hok x (List.mem_of_mem_drop (List.mem_of_mem_take hx))
  have ht := twords_le_len (seg s at_ d)
  have hk := keptN_le nullN l
  rw [ttrim_struct]
  dsimp only
  rw [List.length_take, List.length_map, List.length_take, bytesL_length, hl]
  rw [hl] at ht
  refine ⟨by omega, by omega, fun hd hz => ?_, fun hp hz => ?_⟩
  · rw [twords_last _ hsok (by omega) (by rw [hl, seg_last hd]; exact hz), hl]
    omega
  · rw [kept_all (by omega) (fun x hx hx0 => by
      have := (h3 _ x hx).1 hx0
      rw [h2, show at_ + d + (p - 1) = at_ + d + p - 1 by omega] at this
      exact hz this)]
    omega
theorem mem_at {α : Type} {l : List α} {x : α} (h : x ∈ l) : ∃ j, j < l.length ∧ l[j]? = some x := by
 obtain ⟨j, hj, e⟩ := List.getElem_of_mem h
 exact ⟨j, hj, by rw [List.getElem?_eq_getElem hj, e]⟩
theorem comp_lay {s : List Int} {f : Nat} (H : LayP s f) (hok : ∀ x ∈ s, 0 ≤ x ∧ x < 18446744073709551616) (a nx r m d p k c : Nat) (cost : Int) (ha : a < s.length) (hw : wd s a = encL ((nx : Int) - a - 1) 7 c) (hq : k * (d + p) = c) (hin : nx + (c + 1) ≤ s.length) (ht : wd s nx = encS k d p)
  (hf : ((decide (d = 0) || anyM s (d + p) k (nx + 1 + d - 1)) && (decide (p = 0) || anyM s (d + p) k (nx + 1 + (d + p) - 1))) = true)
  (he : (kidsR (fun i m => strR [s] (valR [s] f) (elG ⟨2, 0, ((nx + 1 : Nat) : Int), d, p, 7, k, cost⟩ i) m) k (0 : Nat) m).2.2 = 0) (h : velems (visV s f) p (d + p) k (nx + 1 + d) (nx + (c + 1)) = some r) :
  lay s (ttrim ⟨2, 7, k, [], (kidsR (fun i m => strR [s] (valR [s] f) (elG ⟨2, 0, ((nx + 1 : Nat) : Int), d, p, 7, k, cost⟩ i) m) k (0 : Nat) m).1⟩) a nx r := by
 obtain ⟨h1, h2, h3⟩ := els_lay H hok d p (nx + 1) k cost k 0 (nx + (c + 1)) r m (by rw [Nat.zero_add, hq]; omega) hin he (by rw [Nat.zero_mul, Nat.add_zero]; exact h)
 generalize (kidsR (fun i m => strR [s] (valR [s] f) (elG ⟨2, 0, ((nx + 1 : Nat) : Int), d, p, 7, k, cost⟩ i) m) k (0 : Nat) m).1 = els at *
 rw [Nat.zero_mul, Nat.add_zero] at h1
 have hb : ∀ j, j < k → j * (d + p) + (d + p) ≤ c := fun j hj => by
  have := Nat.mul_le_mul_right (d + p) (show j + 1 ≤ k by omega)
  rw [Nat.add_mul, Nat.one_mul] at this
  omega
 have hS := fun (j : Nat) (x : S37) (hx : els[j]? = some x) => by
  have hj : j < k := by rw [← h2]; exact (List.getElem?_eq_some_iff.1 hx).1
  have hE := h3 j x hx
  rw [Nat.zero_add] at hE
  have h5 := hb j hj
  exact el_sizes hok hE (by omega)
 simp only [Bool.and_eq_true, Bool.or_eq_true, decide_eq_true_eq] at hf
 have hD : maxD (els.map ttrim) = d := by
  refine maxD_eq (fun x hx => ?_) ?_
  ·obtain ⟨y, hy, rfl⟩ := List.mem_map.1 hx
   obtain ⟨j, hj, e⟩ := mem_at hy
   exact (hS j y e).1
  ·rcases hf.1 with h0 | h0
   ·exact .inl h0
   ·by_cases hd0 : d = 0
    ·exact .inl hd0
    right
    obtain ⟨i, hi, hz⟩ := (anyM_iff _ _ _ _).1 h0
    have hil : i < els.length := by omega
    refine ⟨ttrim els[i], List.mem_map.2 ⟨_, List.getElem_mem hil, rfl⟩, (hS i _ (List.getElem?_eq_getElem hil)).2.2.1 (by omega) ?_⟩
    rw [show nx + 1 + i * (d + p) + d - 1 = nx + 1 + d - 1 + i * (d + p) by omega]
    exact hz
 have hP : maxP (els.map ttrim) = p := by
  refine maxP_eq (fun x hx => ?_) ?_
  ·obtain ⟨y, hy, rfl⟩ := List.mem_map.1 hx
   obtain ⟨j, hj, e⟩ := mem_at hy
   exact (hS j y e).2.1
  ·rcases hf.2 with h0 | h0
   ·exact .inl h0
   ·by_cases hp0 : p = 0
    ·exact .inl hp0
    right
    obtain ⟨i, hi, hz⟩ := (anyM_iff _ _ _ _).1 h0
    have hil : i < els.length := by omega
    refine ⟨ttrim els[i], List.mem_map.2 ⟨_, List.getElem_mem hil, rfl⟩, (hS i _ (List.getElem?_eq_getElem hil)).2.2.2 (by omega) ?_⟩
    rw [show nx + 1 + i * (d + p) + d + p - 1 = nx + 1 + (d + p) - 1 + i * (d + p) by omega]
    exact hz
 rw [ttrim_list]
 unfold lay
 rw [if_neg (by omega), if_neg (by omega), if_pos rfl, hD, hP, List.length_map, h2, hq]
 exact ⟨hw, by omega, ht, by rw [show nx + 1 + c = nx + (c + 1) by omega]; exact h1⟩
end Go.Proofs.YtidglmocekghmaaDoor.Pr
end
section
namespace Go.Proofs.YtidglmocekghmaaDoor.Pr
open Go.RowKit Go.Proofs.YtidglmocekghmaaDoorW.PrintWords Go.Proofs.YtidglmocekghmaaDoorW.PrintLast Go.Proofs.YtidglmocekghmaaDoorW.PrintMore
set_option linter.unusedVariables false
set_option linter.unusedSimpArgs false
def fewG (G : List (List Int)) : Bool := decide (∀ i, i < G.length → (sgG G i).length ≤ 300) && decide (G.length ≤ 20)
theorem few_any (A : Option Addr) (cp : Nat) (G : List (List Int)) (w : World) (hr : RdG w A G) (hg : G.length ≤ 9223372036854775807) (hl : ∀ x ∈ G, x.length ≤ 9223372036854775807) : Calls Tryd.prog 17 #[.slice A G.length cp] w fun e w' => e = .returned (.bool (fewG G)) ∧ w' = w := by
  have HL := Lib.hid (show ∀ i : Nat, i < G.length → (sgG G i).length ≤ 9223372036854775807 from fun i hi => hl _ (by
    unfold sgG
    rw [Int.toNat_natCast, List.getD_eq_getElem?_getD, List.getElem?_eq_getElem hi]
    exact List.getElem_mem hi))
  have HR := Lib.hid hr
  have HF := Lib.hid (fewG.eq_1 G)
  generalize fewG G = r at *
  clear hr hl
  go_enter Tryd.func17, Tryd.ntmps17
  go_wp2
  go_loop [3] (fun v => ∃ i : Nat, i ≤ G.length ∧ v = .int .i64 i ∧ Hid (∀ j : Nat, j < i → (sgG G j).length ≤ 300)) (fun v => G.length - (intOf v).toNat)
  case atStart => exact ⟨0, Nat.zero_le _, rfl, Lib.hid (fun j hj => by omega)⟩
  case round =>
    obtain ⟨i, hi, rfl, HI⟩ := hrel
    by_cases hlt : i < G.length
    · obtain ⟨ad, A0, c0, rfl, hc, _⟩ := at_G HR.out i hlt
      have hln := HL.out i hlt
      by_cases h3 : (sgG G i).length ≤ 300
      · have HI2 : Hid (∀ j : Nat, j < i + 1 → (sgG G j).length ≤ 300) := Lib.hid (fun j hj => by
          by_cases hji : j = i
          · subst hji; exact h3
          · exact HI.out j (by omega))
        generalize (sgG G i).length = n at *
        have h4 : decide ((n : Int) > 300) = false := decide_eq_false (by omega)
        clear HI
        go_wp2
        go_round
        case rel => exact ⟨i + 1, by omega, by go_num, HI2⟩
        case measure => simp [intOf]; omega
      · have HF2 : Hid (r = false) := Lib.hid (by
          rw [HF.out, decide_eq_false (fun h => h3 (h i hlt))]
          rfl)
        generalize (sgG G i).length = n at *
        have h4 : decide ((n : Int) > 300) = true := decide_eq_true (by omega)
        clear HI HF
        go_wp2
        go_ret
        exact ⟨by rw [HF2.out]; rfl, rfl⟩
    · obtain rfl : i = G.length := by omega
      have HF2 : Hid (r = decide ((G.length : Int) ≤ 20)) := Lib.hid (by
        rw [HF.out, decide_eq_true (p := ∀ i, i < G.length → (sgG G i).length ≤ 300) HI.out, Bool.true_and]
        congr 1
        simp only [eq_iff_iff]
        omega)
      clear HF HI
      go_wp2
      go_ret
      exact ⟨by rw [HF2.out]; rfl, rfl⟩
def smallG (G : List (List Int)) (D Wd : Int) : Bool := decide (D ≤ 40) && decide (Wd ≤ 2000) && fewG G
theorem small_any (A : Option Addr) (cp : Nat) (G : List (List Int)) (D Wd O : Int) (w : World) (hr : RdG w A G) (hg : G.length ≤ 9223372036854775807) (hl : ∀ x ∈ G, x.length ≤ 9223372036854775807) : Calls Tryd.prog 9 #[.slice A G.length cp, limV D Wd O] w fun e w' => e = .returned (.bool (smallG G D Wd)) ∧ Below w.heap.size w w' := by
  have HF := fun w' (hb : Below w.heap.size w w') => Lib.hid (few_any A cp G w' (Kd.C_below hr hb) hg hl)
  have HR := Lib.hid (smallG.eq_1 G D Wd)
  have S := Sep.start w
  generalize smallG G D Wd = r at *
  generalize fewG G = q at *
  clear hr hg hl
  by_cases h1 : D ≤ 40
  · by_cases h2 : Wd ≤ 2000
    · have HR : Hid (r = q) := Lib.hid (by rw [HR.out, decide_eq_true h1, decide_eq_true h2]; simp)
      go_enter Tryd.func9, Tryd.ntmps9
      go_wp2_with (first | go_skip | ((with_reducible refine wl ?_); first | refine sn S (fun g w1 S => ?_) | refine ss S (fun w1 S => ?_) | refine sl S ?_ | refine sa S ?_) | ((with_reducible refine (HF _ S.below).out.mono ?_); rintro r' w' ⟨rfl, rfl⟩))
      exact rt S ⟨by rw [HR.out], S.below⟩
    · have HR : Hid (r = false) := Lib.hid (by rw [HR.out, decide_eq_false h2]; simp)
      have t2 : decide (Wd ≤ 2000) = false := decide_eq_false h2
      clear h2
      go_enter Tryd.func9, Tryd.ntmps9
      go_wp2_with (first | go_skip | ((with_reducible refine wl ?_); first | refine sn S (fun g w1 S => ?_) | refine ss S (fun w1 S => ?_) | refine sl S ?_ | refine sa S ?_))
      exact rt S ⟨by rw [HR.out], S.below⟩
  · have HR : Hid (r = false) := Lib.hid (by rw [HR.out, decide_eq_false h1]; simp)
    have t1 : decide (D ≤ 40) = false := decide_eq_false h1
    clear h1
    go_enter Tryd.func9, Tryd.ntmps9
    go_wp2_with (first | go_skip | ((with_reducible refine wl ?_); first | refine sn S (fun g w1 S => ?_) | refine ss S (fun w1 S => ?_) | refine sl S ?_ | refine sa S ?_))
    exact rt S ⟨by rw [HR.out], S.below⟩
theorem MsV.openV {w : World} {q : S37 × Int} {r : Ending} {w' : World} (h : MsV w q r w') : ∃ A3 c3 A4 c4, r = .returned (.tuple #[.agg #[.int .i64 q.1.f0, .int .i64 q.1.f1, .int .i64 q.1.f2, .slice A3 q.1.f3.length c3, .slice A4 q.1.f4.length c4], .int .i64 q.2]) ∧ k37.M w' w.heap.size (fun _ => True) q.1 [.int .i64 q.1.f0, .int .i64 q.1.f1, .int .i64 q.1.f2, .slice A3 q.1.f3.length c3, .slice A4 q.1.f4.length c4] ∧ Below w.heap.size w w' := by
 obtain ⟨v3, v4, h1, h2, h3⟩ := h
 obtain ⟨A3, c3, A4, c4, e, _⟩ := k37_open (k37.K_of_M h2)
 simp only [List.cons.injEq, true_and, and_true] at e
 obtain ⟨rfl, rfl⟩ := e
 exact ⟨A3, c3, A4, c4, h1, h2, h3⟩
def wordsR (s : List Int) (D Wd : Int) : Bool := decide (0 < s.length) && (decide ((msgR [s] D Wd).2 = 0) && decide (visI (visV s D.toNat 0 1) = (s.length : Int)))
theorem msgR_2 {s : List Int} (D Wd : Int) (h0 : 0 < s.length) : (msgR [s] D Wd).2 = (valR [s] D.toNat 0 0 (startM Wd)).2.2 := by
  unfold msgR
  rw [if_neg (fun h => by
    have h2 := h.2
    rw [show sgG [s] 0 = s from rfl] at h2
    omega)]
  split
  · rfl
  · rename_i h
    have h2 : (valR [s] D.toNat 0 0 (startM Wd)).2.2 = 0 := by simpa using h
    exact h2.symm
theorem wordsM_R (s : List Int) (D Wd : Int) : wordsM s D Wd = wordsR s D Wd := by
 unfold wordsM wordsR
 by_cases h0 : 0 < s.length
 ·have hA := agr_vis s D.toNat 0 1 Wd.toNat h0 h0
  have hs : ((Wd.toNat : Nat) : Int) = startM Wd := by unfold startM; split <;> omega
  rw [hs] at hA
  have hM := msgR_2 D Wd h0
  rw [hA, hM]
  by_cases he : (valR [s] D.toNat 0 0 (startM Wd)).2.2 = 0
  ·rw [if_pos (by exact he), decide_eq_true he]
   cases visV s D.toNat 0 1 with
   | none =>
    rw [show decide (visI none = (s.length : Int)) = false from decide_eq_false (by show ¬ ((-1 : Int) = (s.length : Int)); omega)]
    simp
   | some r =>
    rw [show decide (visI (some r) = (s.length : Int)) = decide (r = s.length) by rw [visI_some]; congr 1; simp only [eq_iff_iff]; omega]
    simp
  ·rw [if_neg (by exact he), decide_eq_false he]
   simp
 ·simp [h0]
end Go.Proofs.YtidglmocekghmaaDoor.Pr
end
section
namespace Go.Proofs.YtidglmocekghmaaDoor.Pr
theorem val_obj {s : List Int} {f a m : Nat} {o : Ob} (ha : a < s.length) (h0 : wd s a ≠ 0) (hk : kindW (wd s a) ≠ 2) (hO : objG [s] 0 a = (o, 0)) (h : (valR [s] (f + 1) 0 a m).2.2 = 0) : o.c ≤ m ∧ valR [s] (f + 1) 0 a m = bodR [s] (valR [s] f) o ((m : Int) - o.c) := by
 rw [valR_obj ha h0 hk, hO] at h ⊢
 dsimp only at h ⊢
 rw [if_neg (by simp)] at h ⊢
 by_cases h2 : (m : Int) < o.c
 ·rw [if_pos h2] at h
  simp at h
 ·rw [if_neg h2]
  exact ⟨by omega, rfl⟩
theorem obj_str {s : List Int} {f a d p : Nat} (ha : a < s.length) (h0 : wd s a ≠ 0) (hk : kindW (wd s a) = 0) (hd : dataW (wd s a) = d) (hp : ptrsW (wd s a) = p) (h : (objG [s] 0 a).2 = 0) : objG [s] 0 a = (⟨1, 0, (a : Int) + 1 + offW (wd s a), d, p, 0, 0, (d : Int) + p⟩, 0) := by
 have hO : objG [s] 0 a = if inG [s] 0 ((a : Int) + 1 + offW (wd s a)) ((d : Int) + p) = true then (⟨1, 0, (a : Int) + 1 + offW (wd s a), d, p, 0, 0, (d : Int) + p⟩, 0) else (Ob.z, 2) := by
  unfold objG desM
  rw [folM_one ha (by omega)]
  simp only [pO, pD, pP, hk, hd, hp, h0, ne_eq, not_true_eq_false, if_false, if_true, show ((0 : Int) = 3) = False by simp, show ((0 : Int) ≤ 1) = True by simp]
 by_cases hi : inG [s] 0 ((a : Int) + 1 + offW (wd s a)) ((d : Int) + p) = true
 ·rw [if_pos hi] at hO; exact hO
 ·rw [if_neg hi] at hO
  rw [hO] at h
  simp at h
theorem obj_lst {s : List Int} {a nx c n : Nat} (ha : a < s.length) (h0 : wd s a ≠ 0) (hk : kindW (wd s a) = 1) (he : elemW (wd s a) ≠ 7) (hc : cntW (wd s a) = c) (hw : wordsE (elemW (wd s a)) c = n) (hst : (a : Int) + 1 + offW (wd s a) = nx) (h : (objG [s] 0 a).2 = 0) : objG [s] 0 a = (⟨2, 0, nx, 0, 0, elemW (wd s a), c, n⟩, 0) := by
 have hO : objG [s] 0 a = if inG [s] 0 (nx : Int) n = true then (⟨2, 0, nx, 0, 0, elemW (wd s a), c, n⟩, 0) else (Ob.z, 2) := by
  unfold objG desM
  rw [folM_one ha (by omega)]
  simp only [pO, pD, pP, pE, pC, hk, hc, h0, hst, hw, he, ne_eq, not_true_eq_false, not_false_eq_true, if_false, if_true, show ((1 : Int) = 3) = False by simp, show ((1 : Int) = 0) = False by simp, show ((1 : Int) ≤ 1) = True by simp]
  by_cases hi : inG [s] 0 (nx : Int) n = true <;> simp [hi]
 by_cases hi : inG [s] 0 (nx : Int) n = true
 ·rw [if_pos hi] at hO; exact hO
 ·rw [if_neg hi] at hO
  rw [hO] at h
  simp at h
theorem lay_step {s : List Int} {f : Nat} (hok : ∀ x ∈ s, 0 ≤ x ∧ x < 18446744073709551616) (H : LayP s f) : LayP s (f + 1) := by
 intro a nx r m ha hn he hv
 have hwr : 0 ≤ wd s a ∧ wd s a < 18446744073709551616 := hok _ (by
  unfold wd
  rw [List.getD_eq_getElem?_getD, List.getElem?_eq_getElem ha]
  exact List.getElem_mem _)
 by_cases h0 : wd s a = 0
 ·have hk : kindW (wd s a) ≠ 2 := by rw [h0]; decide
  rw [visV, if_pos h0] at hv
  rw [valR, folM_one ha hk]
  simp only [h0, ne_eq, not_true_eq_false, if_false, if_true]
  rw [ttrim_null]
  refine ⟨?_, by simp [ndZ]⟩
  unfold ndZ lay
  rw [if_pos rfl]
  simp only [Option.some.injEq] at hv
  exact ⟨h0, hv.symm⟩
 have ho : Okv s (f + 1) a := ⟨m, he⟩
 rw [visV, if_neg h0] at hv
 by_cases hk0 : kindW (wd s a) = 0
 ·rw [if_pos hk0] at hv
  obtain ⟨d, hd⟩ := Int.eq_ofNat_of_zero_le (dataW_bd (wd s a)).1
  obtain ⟨p, hp⟩ := Int.eq_ofNat_of_zero_le (ptrsW_bd (wd s a)).1
  have hO := obj_str (f := f) ha h0 hk0 hd hp (ok_obj ha h0 (by omega) he).1
  obtain ⟨hm, hV⟩ := val_obj ha h0 (by omega) hO he
  have hW := encS_of hwr.1 hwr.2 hk0
  rw [hd, hp] at hW
  unfold bodR at hV
  rw [if_pos rfl] at hV
  rw [hV] at he ⊢
  dsimp only at hm
  unfold vstr at hv
  simp only [hd, hp, Int.toNat_natCast] at hv
  have hS : (strR [s] (valR [s] f) ⟨1, 0, (a : Int) + 1 + offW (wd s a), d, p, 0, 0, (d : Int) + p⟩ ((m : Int) - ((d : Int) + p))).1 = ⟨1, 0, 0, bytesL (cutG [s] 0 ((a : Int) + 1 + offW (wd s a)) d), (kidsR (valR [s] f 0) p ((a : Int) + 1 + offW (wd s a) + d) ((m : Int) - ((d : Int) + p))).1⟩ := by
   rw [strR_2] at he
   unfold strR
   dsimp only at he ⊢
   rw [Int.toNat_natCast] at he ⊢
   rw [if_neg (by rw [he]; simp)]
  rw [strR_2] at he
  dsimp only at he
  rw [Int.toNat_natCast] at he
  rw [hS]
  refine ⟨?_, by simp [h0]⟩
  by_cases hz : d + p = 0
  ·rw [if_pos hz] at hv
   have hd0 : d = 0 := by omega
   have hp0 : p = 0 := by omega
   subst hd0 hp0
   by_cases hoff : offW (wd s a) = -1
   ·rw [if_pos hoff] at hv
    simp only [Option.some.injEq] at hv
    have hc : cutG [s] 0 ((a : Int) + 1 + offW (wd s a)) ((0 : Nat) : Int) = [] := by unfold cutG; simp
    rw [hc]
    have : ttrim ⟨1, 0, 0, bytesL [], (kidsR (valR [s] f 0) 0 ((a : Int) + 1 + offW (wd s a) + ((0 : Nat) : Int)) ((m : Int) - (((0 : Nat) : Int) + ((0 : Nat) : Int)))).1⟩ = ⟨1, 0, 0, [], []⟩ := by
     rw [ttrim_struct]
     rfl
    rw [this]
    unfold lay
    rw [if_neg (by omega), if_pos rfl, if_pos (by simp)]
    refine ⟨?_, hv.symm⟩
    rw [hoff] at hW
    exact hW
   ·rw [if_neg hoff] at hv
    cases hv
  rw [if_neg hz] at hv
  by_cases hst : (a : Int) + 1 + offW (wd s a) = nx
  ·rw [if_pos hst] at hv
   by_cases hl : lastM s nx d = true
   ·rw [if_pos hl] at hv
    by_cases hl2 : (decide (p = 0) || decide (wd s (nx + d + p - 1) ≠ 0)) = true
    ·rw [if_pos hl2] at hv
     obtain ⟨hin, _⟩ := str_ok ha h0 hk0 hd hp hst ho
     unfold lastM at hl
     simp only [Bool.or_eq_true, decide_eq_true_eq] at hl hl2
     rw [show offW (wd s a) = (nx : Int) - a - 1 by omega] at hW
     rw [hst, cutG_one]
     rw [hst] at he
     have e1 : ((m : Int) - ((d : Int) + p)) = ((m - (d + p) : Nat) : Int) := by omega
     have e2 : ((nx : Int) + (d : Int)) = ((nx + d : Nat) : Int) := by omega
     rw [e1, e2] at he ⊢
     exact str_lay H hok a nx r (m - (d + p)) d p ha hW hz hin hl hl2 he hv
    ·rw [if_neg hl2] at hv; cases hv
   ·rw [if_neg hl] at hv; cases hv
  ·rw [if_neg hst] at hv; cases hv
 ·rw [if_neg hk0] at hv
  by_cases hk1 : kindW (wd s a) = 1
  ·rw [if_pos hk1] at hv
   obtain ⟨c, hc⟩ := Int.eq_ofNat_of_zero_le (cntW_bd (wd s a)).1
   have hcb := (cntW_bd (wd s a)).2
   have hW := encL_of hwr.1 hwr.2 hk1
   have heb := elemW_bd (wd s a)
   by_cases he7 : elemW (wd s a) = 7
   ·unfold vlist vcomp at hv
    rw [if_pos he7] at hv
    by_cases hst : (a : Int) + 1 + offW (wd s a) = nx
    ·rw [if_pos hst] at hv
     obtain ⟨hin, d, p, k, cost, hd, hp, hk2, hkc, hO, _⟩ := cmp_ok ha h0 hk1 he7 hc hst ho
     obtain ⟨hm, hV⟩ := val_obj ha h0 (by omega) hO he
     rw [hk2, hd, hp, hc] at hv
     simp only [Int.toNat_natCast] at hv
     by_cases hq : (k : Int) * ((d : Int) + p) = c
     ·rw [if_pos hq] at hv
      have hqN : k * (d + p) = c := by exact_mod_cast hq
      by_cases hf : ((decide (d = 0) || anyM s (d + p) k (nx + 1 + d - 1)) && (decide (p = 0) || anyM s (d + p) k (nx + 1 + (d + p) - 1))) = true
      ·rw [if_pos hf] at hv
       rw [show offW (wd s a) = (nx : Int) - a - 1 by omega, he7, hc] at hW
       have htr : 0 ≤ wd s nx ∧ wd s nx < 18446744073709551616 := hok _ (by
        unfold wd
        rw [List.getD_eq_getElem?_getD, List.getElem?_eq_getElem (show nx < s.length by omega)]
        exact List.getElem_mem _)
       have hkt : kindW (wd s nx) = 0 := by
        have h1 := (ok_obj ha h0 (by omega) he).1
        have hO2 : objG [s] 0 a = tagM 0 nx 7 ((c : Int) + 1) c (wd s nx) := by
         have hI : inG [s] 0 (nx : Int) ((c : Int) + 1) = true := by rw [inG_one, decide_eq_true_eq]; omega
         have hWc : wordsE 7 (c : Int) = (c : Int) + 1 := rfl
         unfold objG desM
         rw [folM_one ha (by omega)]
         simp only [pO, pD, pP, pE, pC, hk1, he7, hc, h0, hst, hWc, hI, ne_eq, not_true_eq_false, if_false, if_true, show ((1 : Int) = 3) = False by simp, show ((1 : Int) = 0) = False by simp, show ((1 : Int) ≤ 1) = True by simp, show (true = false) = False by simp]
         rw [wdG_one (by omega) (by omega), Int.toNat_natCast]
        rw [hO2] at h1
        unfold tagM at h1
        by_cases h : kindW (wd s nx) = 0
        ·exact h
        ·rw [if_pos h] at h1
         simp at h1
       have hT := encS_of htr.1 htr.2 hkt
       rw [hk2, hd, hp] at hT
       unfold bodR at hV
       dsimp only at hV hm
       rw [if_neg (by omega), if_neg (by omega), if_neg (by omega), Int.toNat_natCast, elsR_kids] at hV
       have e1 : (m : Int) - cost = (((m : Int) - cost).toNat : Nat) := by omega
       rw [e1, show (nx : Int) + 1 = ((nx + 1 : Nat) : Int) by omega] at hV
       rw [hV] at he ⊢
       by_cases hke : (kidsR (fun i m => strR [s] (valR [s] f) (elG ⟨2, 0, ((nx + 1 : Nat) : Int), d, p, 7, k, cost⟩ i) m) k 0 (((m : Int) - cost).toNat : Nat)).2.2 = 0
       ·rw [if_neg (by rw [hke]; simp)]
        exact ⟨comp_lay H hok a nx r _ d p k c cost ha hW hqN hin hT hf hke hv, by simp [h0]⟩
       ·rw [if_pos hke] at he
        exact (hke he).elim
      ·rw [if_neg hf] at hv; cases hv
     ·rw [if_neg hq] at hv; cases hv
    ·rw [if_neg hst] at hv; cases hv
   ·unfold vlist at hv
    rw [if_neg he7] at hv
    by_cases hst : (a : Int) + 1 + offW (wd s a) = nx
    ·rw [if_pos hst] at hv
     obtain ⟨n, hw⟩ := Int.eq_ofNat_of_zero_le (wordsE_bd (elemW (wd s a)) (c : Int) (by omega) (by omega)).1
     obtain ⟨hin, _⟩ := lst_ok ha h0 hk1 he7 hc hw hst ho
     have hO := obj_lst ha h0 hk1 he7 hc hw hst (ok_obj ha h0 (by omega) he).1
     obtain ⟨hm, hV⟩ := val_obj ha h0 (by omega) hO he
     rw [hc, hw, Int.toNat_natCast] at hv
     rw [show offW (wd s a) = (nx : Int) - a - 1 by omega, hc] at hW
     unfold bodR at hV
     dsimp only at hV hm
     by_cases he6 : elemW (wd s a) = 6
     ·have hnc : n = c := by
       rw [he6] at hw
       unfold wordsE bitsE at hw
       simp at hw
       omega
      subst hnc
      rw [if_pos he6] at hv
      rw [if_neg (by omega), if_neg (by omega), if_pos he6, Int.toNat_natCast] at hV
      have e1 : ((m : Int) - (n : Int)) = ((m - n : Nat) : Int) := by omega
      rw [e1] at hV
      rw [hV] at he ⊢
      by_cases hke : (kidsR (valR [s] f 0) n (nx : Int) ((m - n : Nat) : Int)).2.2 = 0
      ·rw [if_neg (by rw [hke]; simp)]
       obtain ⟨h1, h2, h3⟩ := kids_lay H n nx (nx + n) r (m - n) hin hin hke hv
       refine ⟨?_, by simp [h0]⟩
       dsimp only
       rw [ttrim_list]
       unfold lay
       rw [if_neg (by omega), if_neg (by omega), if_neg he7, if_pos he6, List.length_map, h2]
       rw [he6] at hW
       exact ⟨hW, hin, h1⟩
      ·rw [if_pos hke] at he
       exact (hke he).elim
     ·rw [if_neg he6] at hv
      by_cases hr : restM s (elemW (wd s a)) c nx n = true
      ·rw [if_pos hr] at hv
       simp only [Option.some.injEq] at hv
       rw [if_neg (by omega), if_pos (by omega), cutG_one] at hV
       rw [hV]
       refine ⟨?_, by simp [h0]⟩
       dsimp only
       rw [ttrim_list]
       unfold lay
       rw [if_neg (by omega), if_neg (by omega), if_neg he7, if_neg he6, hw, Int.toNat_natCast]
       exact ⟨hW, hin, restM_words hok hin hr, hv.symm⟩
      ·rw [if_neg hr] at hv; cases hv
    ·rw [if_neg hst] at hv; cases hv
  ·rw [if_neg hk1] at hv; cases hv
theorem lay_zero {s : List Int} : LayP s 0 := by
 intro a nx r m ha hn he hv
 by_cases h0 : wd s a = 0
 ·have hk : kindW (wd s a) ≠ 2 := by rw [h0]; decide
  rw [visV, if_pos h0] at hv
  rw [valR, folM_one ha hk]
  simp only [h0, ne_eq, not_true_eq_false, if_false, if_true]
  rw [ttrim_null]
  refine ⟨?_, by simp [ndZ]⟩
  unfold ndZ lay
  rw [if_pos rfl]
  simp only [Option.some.injEq] at hv
  exact ⟨h0, hv.symm⟩
 ·rw [visV, if_neg h0] at hv
  cases hv
theorem lay_vis {s : List Int} (hok : ∀ x ∈ s, 0 ≤ x ∧ x < 18446744073709551616) : ∀ f, LayP s f
 | 0 => lay_zero
 | f + 1 => lay_step hok (lay_vis hok f)
theorem wordsM_lay {s : List Int} {D Wd : Int} (hok : ∀ x ∈ s, 0 ≤ x ∧ x < 18446744073709551616) (h : wordsM s D Wd = true) : (msgR [s] D Wd).2 = 0 ∧ lay s (msgR [s] D Wd).1 0 1 s.length := by
  rw [wordsM_R] at h
  unfold wordsR at h
  simp only [Bool.and_eq_true, decide_eq_true_eq] at h
  obtain ⟨h0, h1, h2⟩ := h
  refine ⟨h1, ?_⟩
  have h3 := h1
  rw [msgR_2 D Wd h0] at h3
  have hs : ((Wd.toNat : Nat) : Int) = startM Wd := by unfold startM; split <;> omega
  have hm : (msgR [s] D Wd).1 = ttrim (valR [s] D.toNat 0 0 (startM Wd)).1 := by
    unfold msgR
    rw [if_neg (fun h => by
      have h2 := h.2
      rw [show sgG [s] 0 = s from rfl] at h2
      omega), if_neg (by rw [h3]; simp)]
  rw [hm]
  cases hv : visV s D.toNat 0 1 with
  | none =>
    rw [hv] at h2
    have h4 : (-1 : Int) = s.length := h2
    omega
  | some r =>
    rw [hv, visI_some] at h2
    obtain rfl : r = s.length := by omega
    rw [← hs] at h3 ⊢
    exact (lay_vis hok D.toNat 0 1 s.length Wd.toNat h0 h0 h3 hv).1
end Go.Proofs.YtidglmocekghmaaDoor.Pr
end
section
namespace Go.Proofs.YtidglmocekghmaaDoor.Pr
theorem encS_kind (off d p : Int) : kindW (encS off d p) = 0 := by unfold kindW encS; omega
theorem encL_kind (off e c : Int) : kindW (encL off e c) = 1 := by unfold kindW encL; omega
theorem byte_of_word {w : Int} {j : Nat} (hj : j < 8) (h : w = 0) : (bytesW w).getD j 0 = 0 := by
 subst h
 unfold bytesW
 match j, hj with
 | 0, _ | 1, _ | 2, _ | 3, _ | 4, _ | 5, _ | 6, _ | 7, _ => rfl
theorem last_twords (ws : List Int) (hl : 0 < ws.length) (ht : twords (bytesL ws) = ws.length) : wd ws (ws.length - 1) ≠ 0 := by
 intro hz
 have h1 : keptN zeroB (bytesL ws) ≤ 8 * (ws.length - 1) := by
  have hb : ∀ i, 8 * (ws.length - 1) ≤ i → (bytesL ws).getD i 0 = 0 := fun i hi => by
   by_cases hil : i < (bytesL ws).length
   ·rw [bytesL_length] at hil
    have := bytesL_getD ws (ws.length - 1) (i - 8 * (ws.length - 1)) (by omega) (by omega)
    rw [show 8 * (ws.length - 1) + (i - 8 * (ws.length - 1)) = i by omega] at this
    rw [this]
    exact byte_of_word (by omega) hz
   ·rw [List.getD_eq_getElem?_getD, List.getElem?_eq_none (by omega)]
    rfl
  have hall : ∀ x ∈ (bytesL ws).drop (8 * (ws.length - 1)), zeroB x = true := fun x hx => by
   obtain ⟨j, hj, e⟩ := List.getElem_of_mem hx
   rw [List.getElem_drop] at e
   rw [List.length_drop] at hj
   have := hb (8 * (ws.length - 1) + j) (by omega)
   rw [List.getD_eq_getElem?_getD, List.getElem?_eq_getElem (by omega)] at this
   simp only [Option.getD_some] at this
   rw [← e, this]
   rfl
  have h2 := keptN_all zeroB ((bytesL ws).take (8 * (ws.length - 1))) _ hall
  rw [List.take_append_drop] at h2
  rw [h2]
  have := keptN_le zeroB ((bytesL ws).take (8 * (ws.length - 1)))
  rw [List.length_take] at this
  omega
 unfold twords at ht
 omega
theorem kept_last {kids : List S37} (h : keptN nullN kids = kids.length) (hl : 0 < kids.length) (x : S37) (hx : kids[kids.length - 1]? = some x) : x.f0 ≠ 0 := by
 intro hx0
 have h1 : kids.length - 1 < kids.length := by omega
 have e : kids = kids.take (kids.length - 1) ++ [x] := by
  rw [List.getElem?_eq_getElem h1, Option.some.injEq] at hx
  rw [← hx, ← take_one kids _ h1, List.take_of_length_le (by omega)]
 have h2 : keptN nullN kids = keptN nullN (kids.take (kids.length - 1)) := by
  conv => lhs; rw [e]
  rw [keptN_snoc, if_pos (by simp [nullN, hx0])]
 have := keptN_le nullN (kids.take (kids.length - 1))
 rw [List.length_take] at this
 omega
def VisP (s : List Int) (f : Nat) : Prop := ∀ (a nx r m : Nat), a < s.length → nx ≤ s.length → (valR [s] f 0 a m).2.2 = 0 → lay s (ttrim (valR [s] f 0 a m).1) a nx r → visV s f a nx = some r ∧ r ≤ s.length ∧ ((valR [s] f 0 a m).1.f0 = 0 ↔ wd s a = 0)
theorem lays_vis {s : List Int} {f : Nat} (H : VisP s f) : ∀ (p a nx r m : Nat), a + p ≤ s.length → nx ≤ s.length → (kidsR (valR [s] f 0) p a m).2.2 = 0 → lays s ((kidsR (valR [s] f 0) p a m).1.map ttrim) a nx r →
  vptrs (visV s f) p a nx = some r ∧ r ≤ s.length ∧ (kidsR (valR [s] f 0) p a m).1.length = p ∧ ∀ j (x : S37), (kidsR (valR [s] f 0) p a m).1[j]? = some x → (x.f0 = 0 ↔ wd s (a + j) = 0)
 | 0, a, nx, r, m, _, hn, _, h => by
  simp only [kidsR, List.map_nil, lays] at h
  subst h
  exact ⟨rfl, hn, rfl, fun j x hx => by simp [kidsR] at hx⟩
 | p + 1, a, nx, r, m, ha, hn, he, h => by
  have hs := valR_sinks [s] f 0 a m (by omega)
  revert he h
  unfold kidsR
  by_cases h1 : (valR [s] f 0 a m).2.2 ≠ 0
  ·rw [if_pos h1]
   intro he
   exact (h1 he).elim
  ·rw [if_neg h1]
   intro he h
   have h1 : (valR [s] f 0 a m).2.2 = 0 := by simpa using h1
   dsimp only at he h
   rw [List.map_cons] at h
   obtain ⟨q, h2, h3⟩ := h
   obtain ⟨i1, i2, i3⟩ := H a nx q m (by omega) hn h1 h2
   have e1 : (((valR [s] f 0 a m).2.1.toNat : Nat) : Int) = (valR [s] f 0 a m).2.1 := by omega
   have e2 : ((a + 1 : Nat) : Int) = (a : Int) + 1 := by omega
   have := lays_vis H p (a + 1) q r (valR [s] f 0 a m).2.1.toNat (by omega) i2 (by rw [e1, e2]; exact he) (by rw [e1, e2]; exact h3)
   rw [e1, e2] at this
   obtain ⟨j1, j2, j3, j4⟩ := this
   refine ⟨by rw [vptrs, i1]; exact j1, j2, by simp [j3], fun j x hx => ?_⟩
   cases j with
   | zero =>
    simp only [List.getElem?_cons_zero, Option.some.injEq] at hx
    subst hx
    exact i3
   | succ j =>
    simp only [List.getElem?_cons_succ] at hx
    have := j4 j x hx
    rwa [show a + 1 + j = a + (j + 1) by omega] at this
end Go.Proofs.YtidglmocekghmaaDoor.Pr
end
section
namespace Go.Proofs.YtidglmocekghmaaDoor.Pr
theorem st_nat {s : List Int} {a : Nat} (ha : a < s.length) (h0 : wd s a ≠ 0) (hk : kindW (wd s a) ≤ 1) (h : (objG [s] 0 a).2 = 0) : ∃ S : Nat, (a : Int) + 1 + offW (wd s a) = S := by
 have hb := kindW_bd (wd s a)
 refine ⟨((a : Int) + 1 + offW (wd s a)).toNat, ?_⟩
 suffices 0 ≤ (a : Int) + 1 + offW (wd s a) by omega
 have hn : ∀ n, inG [s] 0 ((a : Int) + 1 + offW (wd s a)) n = true → 0 ≤ (a : Int) + 1 + offW (wd s a) := fun n hn => by
  rw [inG_one, decide_eq_true_eq] at hn
  exact hn.1
 revert h
 unfold objG desM
 rw [folM_one ha (by omega)]
 have hpo : pO (wd s a) = offW (wd s a) := by unfold pO; rw [if_pos hk]
 dsimp only
 rw [if_neg (by simp), if_neg h0, if_neg (by omega), hpo]
 split
 ·split
  ·rename_i hi
   intro _
   exact hn _ hi
  ·intro h; simp at h
 ·split
  ·intro h; simp at h
  ·rename_i hi
   intro _
   cases hq : inG [s] 0 ((a : Int) + 1 + offW (wd s a)) (wordsE (pE (wd s a)) (pC (wd s a))) with
   | true => exact hn _ hq
   | false => exact (hi hq).elim
theorem lay_kind {s : List Int} {a nx r : Nat} : ∀ (n : S37), lay s n a nx r → wd s a = 0 ∨ kindW (wd s a) ≤ 1
 | ⟨k, e, n, b, l⟩, h => by
  unfold lay at h
  split at h
  ·exact .inl h.1
  ·split at h
   ·split at h
    ·right; rw [h.1, encS_kind]; omega
    ·right; rw [h.1, encS_kind]; omega
   ·split at h
    ·right; rw [h.1, encL_kind]; omega
    ·split at h
     ·right; rw [h.1, encL_kind]; omega
     ·right; rw [h.1, encL_kind]; omega
theorem encS_inj {o o' d d' p p' : Int} (h : encS o d p = encS o' d' p') (hd : 0 ≤ d ∧ d ≤ 65535) (hd' : 0 ≤ d' ∧ d' ≤ 65535) (hp : 0 ≤ p ∧ p ≤ 65535) (hp' : 0 ≤ p' ∧ p' ≤ 65535) : d = d' ∧ p = p' ∧ o % 1073741824 = o' % 1073741824 := by
 unfold encS at h
 omega
theorem encL_inj {o o' e e' c c' : Int} (h : encL o e c = encL o' e' c') (he : 0 ≤ e ∧ e ≤ 7) (he' : 0 ≤ e' ∧ e' ≤ 7) (hc : 0 ≤ c ∧ c ≤ 536870911) (hc' : 0 ≤ c') : e = e' ∧ c = c' ∧ o % 1073741824 = o' % 1073741824 := by
 unfold encL at h
 omega
theorem off_eq {o : Int} {a nx S : Nat} (h : o % 1073741824 = ((nx : Int) - a - 1) % 1073741824) (hS : (a : Int) + 1 + o = S) (ha : a ≤ 536870000) (hn : nx ≤ 536870000) (ho : -536870912 ≤ o ∧ o ≤ 536870911) : S = nx := by omega
theorem kidsR_len {v : Int → Int → Tr} : ∀ (n : Nat) (a m : Int), (kidsR v n a m).2.2 = 0 → (kidsR v n a m).1.length = n
 | 0, _, _, _ => rfl
 | n + 1, a, m, h => by
  revert h
  unfold kidsR
  split
  ·rename_i he
   intro h
   exact (he h).elim
  ·intro h
   rw [List.length_cons, kidsR_len n _ _ h]
theorem vis_str {s : List Int} {f : Nat} (hok : ∀ x ∈ s, 0 ≤ x ∧ x < 18446744073709551616) (hlen : s.length ≤ 536870000) (H : VisP s f) (a nx r m : Nat) (ha : a < s.length) (hn : nx ≤ s.length) (h0 : wd s a ≠ 0) (hk0 : kindW (wd s a) = 0) (he : (valR [s] (f + 1) 0 a m).2.2 = 0) (hL : lay s (ttrim (valR [s] (f + 1) 0 a m).1) a nx r) :
  visV s (f + 1) a nx = some r ∧ r ≤ s.length ∧ ((valR [s] (f + 1) 0 a m).1.f0 = 0 ↔ wd s a = 0) := by
 have hwr : 0 ≤ wd s a ∧ wd s a < 18446744073709551616 := hok _ (by
  unfold wd
  rw [List.getD_eq_getElem?_getD, List.getElem?_eq_getElem ha]
  exact List.getElem_mem _)
 have ho : Okv s (f + 1) a := ⟨m, he⟩
 have hob := (ok_obj ha h0 (by omega) he).1
 obtain ⟨S, hS⟩ := st_nat ha h0 (by omega) hob
 obtain ⟨d, hd⟩ := Int.eq_ofNat_of_zero_le (dataW_bd (wd s a)).1
 obtain ⟨p, hp⟩ := Int.eq_ofNat_of_zero_le (ptrsW_bd (wd s a)).1
 have hdb := (dataW_bd (wd s a)).2
 have hpb := (ptrsW_bd (wd s a)).2
 have hO := obj_str (f := f) ha h0 hk0 hd hp hob
 obtain ⟨hm, hV⟩ := val_obj ha h0 (by omega) hO he
 obtain ⟨hin, _⟩ := str_ok ha h0 hk0 hd hp hS ho
 have hW := encS_of hwr.1 hwr.2 hk0
 rw [hd, hp] at hW
 have hoff := offW_bd (wd s a)
 unfold bodR at hV
 rw [if_pos rfl] at hV
 rw [hV] at he hL ⊢
 dsimp only at hm
 have hSt : (strR [s] (valR [s] f) ⟨1, 0, (a : Int) + 1 + offW (wd s a), d, p, 0, 0, (d : Int) + p⟩ ((m : Int) - ((d : Int) + p))).1 = ⟨1, 0, 0, bytesL (seg s S d), (kidsR (valR [s] f 0) p ((S + d : Nat) : Int) ((m - (d + p) : Nat) : Int)).1⟩ := by
  rw [strR_2] at he
  unfold strR
  dsimp only at he ⊢
  rw [Int.toNat_natCast] at he ⊢
  rw [if_neg (by rw [he]; simp), hS, cutG_one]
  rw [show ((S : Int) + (d : Int)) = ((S + d : Nat) : Int) by omega, show ((m : Int) - ((d : Int) + p)) = ((m - (d + p) : Nat) : Int) by omega]
 rw [strR_2] at he
 dsimp only at he
 rw [Int.toNat_natCast, hS, show ((S : Int) + (d : Int)) = ((S + d : Nat) : Int) by omega, show ((m : Int) - ((d : Int) + p)) = ((m - (d + p) : Nat) : Int) by omega] at he
 rw [hSt] at hL ⊢
 have hws : (seg s S d).length = d := by unfold seg; rw [List.length_take, List.length_drop]; omega
 rw [visV, if_neg h0, if_pos hk0]
 unfold vstr
 simp only [hd, hp, Int.toNat_natCast]
 rw [ttrim_struct] at hL
 have ht := twords_le_len (seg s S d)
 rw [hws] at ht
 have hkl : (kidsR (valR [s] f 0) p ((S + d : Nat) : Int) ((m - (d + p) : Nat) : Int)).1.length = p := kidsR_len _ _ _ he
 generalize hK : (kidsR (valR [s] f 0) p ((S + d : Nat) : Int) ((m - (d + p) : Nat) : Int)).1 = kids at *
 have hkn := keptN_le nullN kids
 unfold lay at hL
 rw [if_neg (by omega), if_pos rfl, List.length_take, List.length_map, List.length_take, bytesL_length, hws, show min (8 * twords (bytesL (seg s S d))) (8 * d) / 8 = twords (bytesL (seg s S d)) by omega, show min (keptN nullN kids) kids.length = keptN nullN kids by omega] at hL
 have hfin : ∀ {P Q R : Prop}, (P ∧ Q) → R → P ∧ Q ∧ R := fun h1 h2 => ⟨h1.1, h1.2, h2⟩
 refine hfin ?_ (by simp [h0])
 by_cases hz' : twords (bytesL (seg s S d)) + keptN nullN kids = 0
 ·rw [if_pos hz'] at hL
  have h1 := encS_inj (hW.symm.trans hL.1) (by omega) (by omega) (by omega) (by omega)
  have hd0 : d = 0 := by omega
  have hp0 : p = 0 := by omega
  have ho1 : offW (wd s a) = -1 := by omega
  rw [if_pos (by omega), if_pos ho1, hL.2]
  exact ⟨rfl, hn⟩
 rw [if_neg hz'] at hL
 obtain ⟨l1, l2, l3, l4⟩ := hL
 have h1 := encS_inj (hW.symm.trans l1) (by omega) (by omega) (by omega) (by omega)
 have hSn := off_eq h1.2.2 hS (by omega) (by omega) hoff
 subst hSn
 have htd : twords (bytesL (seg s S d)) = d := by omega
 have hkp : keptN nullN kids = kids.length := by omega
 rw [htd, hkp, List.take_length, hkl] at l4
 rw [← hK] at l4
 obtain ⟨i1, i2, i3, i4⟩ := lays_vis H p (S + d) (S + (d + p)) r (m - (d + p)) (by omega) hin he l4
 rw [hK] at i3 i4
 have hl1 : lastM s S d = true := by
  unfold lastM
  by_cases hd0 : d = 0
  ·simp [hd0]
  ·have := last_twords (seg s S d) (by omega) (by omega)
   rw [hws, seg_last (by omega)] at this
   simp [this]
 have hl2 : (decide (p = 0) || decide (wd s (S + d + p - 1) ≠ 0)) = true := by
  by_cases hp0 : p = 0
  ·simp [hp0]
  ·have hlt : kids.length - 1 < kids.length := by omega
   have h5 := kept_last hkp (by omega) _ (List.getElem?_eq_getElem hlt)
   have h6 := i4 (kids.length - 1) _ (List.getElem?_eq_getElem hlt)
   rw [show S + d + (kids.length - 1) = S + d + p - 1 by omega] at h6
   have : wd s (S + d + p - 1) ≠ 0 := fun h => h5 (h6.2 h)
   simp [this]
 rw [if_neg (by omega), if_pos hS, if_pos hl1, if_pos hl2]
 exact ⟨i1, i2⟩
end Go.Proofs.YtidglmocekghmaaDoor.Pr
end
section
namespace Go.Proofs.YtidglmocekghmaaDoor.Pr
def Byt (b : List Int) : Prop := ∀ i, 0 ≤ b.getD i 0 ∧ b.getD i 0 < 256
theorem byt_of {b : List Int} (h : ∀ x ∈ b, 0 ≤ x ∧ x < 256) : Byt b := fun i => by
 rw [List.getD_eq_getElem?_getD]
 cases hq : b[i]? with
 | none => simp
 | some x => exact h x (List.mem_of_getElem? hq)
theorem bytesW_wordB {b : List Int} (h : Byt b) (j : Nat) (hj : j < 8) : (bytesW (wordB b)).getD j 0 = b.getD j 0 := by
 have h0 := h 0
 have h1 := h 1
 have h2 := h 2
 have h3 := h 3
 have h4 := h 4
 have h5 := h 5
 have h6 := h 6
 have h7 := h 7
 unfold bytesW wordB
 match j, hj with
 | 0, _ | 1, _ | 2, _ | 3, _ | 4, _ | 5, _ | 6, _ | 7, _ =>
  simp only [List.getD_cons_zero, List.getD_cons_succ]
  omega
theorem bytesL_wordsB : ∀ (n : Nat) (T : List Int), Byt T → ∀ i, i < 8 * n → (bytesL (wordsB n T)).getD i 0 = T.getD i 0
 | 0, _, _, i, hi => by omega
 | n + 1, T, hT, i, hi => by
  rw [wordsB, bytesL, List.getD_eq_getElem?_getD]
  by_cases h8 : i < 8
  ·rw [List.getElem?_append_left (by rw [bytesW_len]; omega), ← List.getD_eq_getElem?_getD, bytesW_wordB (fun j => by rw [getD_take8]; split; exact hT j; omega) i h8, getD_take8, if_pos h8]
  ·rw [List.getElem?_append_right (by rw [bytesW_len]; omega), bytesW_len, ← List.getD_eq_getElem?_getD, bytesL_wordsB n (T.drop 8) (fun j => by rw [getD_drop8]; exact hT _) (i - 8) (by omega), getD_drop8, show 8 + (i - 8) = i by omega]
theorem trimE_byt {e c : Int} {b : List Int} (h : ∀ x ∈ b, 0 ≤ x ∧ x < 256) : Byt (trimE e c b) := by
 have hb := byt_of h
 refine byt_of (fun x hx => ?_)
 unfold trimE at hx
 split at hx
 ·rcases List.mem_or_eq_of_mem_set hx with hx | hx
  ·exact h x (List.mem_of_mem_take hx)
  ·have h1 := hb ((bytesE e c).toNat - 1)
   rw [hx]
   generalize b.getD ((bytesE e c).toNat - 1) 0 = y at *
   have hk : (c % 8).toNat < 8 := by omega
   generalize (c % 8).toNat = k at *
   match k, hk with
   | 0, _ | 1, _ | 2, _ | 3, _ | 4, _ | 5, _ | 6, _ | 7, _ =>
    simp only [Int.reducePow]
    omega
 ·exact h x (List.mem_of_mem_take hx)
theorem rest_of_words {s : List Int} {e c : Int} {nx n : Nat} (hin : nx + n ≤ s.length) (h : seg s nx n = wordsB n (trimE e c (bytesL (seg s nx n)))) : restM s e c nx n = true := by
 have hl : (seg s nx n).length = n := by unfold seg; rw [List.length_take, List.length_drop]; omega
 have hbl : (bytesL (seg s nx n)).length = 8 * n := by rw [bytesL_length, hl]
 unfold restM
 dsimp only
 rw [decide_eq_true_eq]
 change (trimE e c (bytesL (seg s nx n)) ++ List.replicate (bytesL (seg s nx n)).length 0).take (bytesL (seg s nx n)).length = bytesL (seg s nx n)
 have hT := trimE_byt (e := e) (c := c) (bytesL_bd (seg s nx n))
 generalize hq : trimE e c (bytesL (seg s nx n)) = T at *
 refine List.ext_getElem (by simp) (fun i h1 h2 => ?_)
 have h3 := bytesL_wordsB n T hT i (by omega)
 rw [← h] at h3
 rw [List.getElem_take]
 have h4 := getD_zeros T (bytesL (seg s nx n)).length i
 rw [← h3, List.getD_eq_getElem?_getD, List.getD_eq_getElem?_getD, List.getElem?_eq_getElem (by simp; omega), List.getElem?_eq_getElem h2] at h4
 simpa using h4
theorem vis_lst {s : List Int} {f : Nat} (hok : ∀ x ∈ s, 0 ≤ x ∧ x < 18446744073709551616) (hlen : s.length ≤ 536870000) (H : VisP s f) (a nx r m : Nat) (ha : a < s.length) (hn : nx ≤ s.length) (h0 : wd s a ≠ 0) (hk1 : kindW (wd s a) = 1) (he7 : elemW (wd s a) ≠ 7) (he : (valR [s] (f + 1) 0 a m).2.2 = 0) (hL : lay s (ttrim (valR [s] (f + 1) 0 a m).1) a nx r) :
  visV s (f + 1) a nx = some r ∧ r ≤ s.length ∧ ((valR [s] (f + 1) 0 a m).1.f0 = 0 ↔ wd s a = 0) := by
 have hwr : 0 ≤ wd s a ∧ wd s a < 18446744073709551616 := hok _ (by
  unfold wd
  rw [List.getD_eq_getElem?_getD, List.getElem?_eq_getElem ha]
  exact List.getElem_mem _)
 have ho : Okv s (f + 1) a := ⟨m, he⟩
 have hob := (ok_obj ha h0 (by omega) he).1
 obtain ⟨S, hS⟩ := st_nat ha h0 (by omega) hob
 obtain ⟨c, hc⟩ := Int.eq_ofNat_of_zero_le (cntW_bd (wd s a)).1
 have hcb := (cntW_bd (wd s a)).2
 have heb := elemW_bd (wd s a)
 obtain ⟨n, hw⟩ := Int.eq_ofNat_of_zero_le (wordsE_bd (elemW (wd s a)) (c : Int) (by omega) (by omega)).1
 obtain ⟨hin, _⟩ := lst_ok ha h0 hk1 he7 hc hw hS ho
 have hO := obj_lst ha h0 hk1 he7 hc hw hS hob
 obtain ⟨hm, hV⟩ := val_obj ha h0 (by omega) hO he
 have hW := encL_of hwr.1 hwr.2 hk1
 rw [hc] at hW
 have hoff := offW_bd (wd s a)
 have hfin : ∀ {P Q R : Prop}, (P ∧ Q) → R → P ∧ Q ∧ R := fun h1 h2 => ⟨h1.1, h1.2, h2⟩
 unfold bodR at hV
 dsimp only at hV hm
 rw [visV, if_neg h0, if_neg (by omega), if_pos hk1]
 unfold vlist
 rw [if_neg he7, hc, hw, Int.toNat_natCast]
 by_cases he6 : elemW (wd s a) = 6
 ·have hnc : n = c := by
   rw [he6] at hw
   unfold wordsE bitsE at hw
   simp at hw
   omega
  subst hnc
  rw [if_neg (by omega), if_neg (by omega), if_pos he6, Int.toNat_natCast, show ((m : Int) - (n : Int)) = ((m - n : Nat) : Int) by omega] at hV
  rw [hV] at he hL
  by_cases hke : (kidsR (valR [s] f 0) n (S : Int) ((m - n : Nat) : Int)).2.2 = 0
  ·rw [if_neg (by rw [hke]; simp)] at hL
   refine hfin ?_ (by rw [hV, if_neg (by rw [hke]; simp)]; simp [h0])
   dsimp only at hL
   rw [ttrim_list] at hL
   unfold lay at hL
   rw [if_neg (by omega), if_neg (by omega), if_neg he7, if_pos he6, List.length_map, kidsR_len _ _ _ hke] at hL
   rw [he6] at hW
   have h1 := encL_inj (hW.symm.trans hL.1) (by omega) (by omega) (by omega) (by omega)
   have hSn := off_eq h1.2.2 hS (by omega) (by omega) hoff
   subst hSn
   obtain ⟨i1, i2, _⟩ := lays_vis H n S (S + n) r (m - n) hin hin hke hL.2.2
   rw [if_pos hS, if_pos he6]
   exact ⟨i1, i2⟩
  ·rw [if_pos hke] at he
   exact (hke he).elim
 ·rw [if_neg (by omega), if_pos (by omega), cutG_one] at hV
  rw [hV] at hL ⊢
  refine hfin ?_ (by simp [h0])
  dsimp only at hL
  rw [ttrim_list] at hL
  unfold lay at hL
  rw [if_neg (by omega), if_neg (by omega), if_neg he7, if_neg he6, hw, Int.toNat_natCast] at hL
  obtain ⟨l1, l2, l3, l4⟩ := hL
  have h1 := encL_inj (hW.symm.trans l1) (by omega) (by omega) (by omega) (by omega)
  have hSn := off_eq h1.2.2 hS (by omega) (by omega) hoff
  subst hSn
  rw [if_pos hS, if_neg he6, if_pos (rest_of_words hin l3), l4]
  exact ⟨rfl, hin⟩
end Go.Proofs.YtidglmocekghmaaDoor.Pr
end
section
namespace Go.Proofs.YtidglmocekghmaaDoor.Pr
open Go.RowKit Go.Proofs.YtidglmocekghmaaDoorW.PrintWords Go.Proofs.YtidglmocekghmaaDoorW.PrintLast Go.Proofs.YtidglmocekghmaaDoorW.PrintMore
set_option linter.unusedVariables false
set_option linter.unusedSimpArgs false
def hiW (c : List Int) : Nat → Int
 | 0 => 0
 | t + 1 => hiW c t * 256 + c.getD (7 - t) 0
theorem hiW_bd {c : List Int} (h : Byt c) : ∀ t, 0 ≤ hiW c t ∧ hiW c t < p2 (8 * t)
 | 0 => ⟨Int.le_refl _, p2_pos _⟩
 | t + 1 => by
  have h1 := hiW_bd h t
  have h2 := h (7 - t)
  have h3 : p2 (8 * (t + 1)) = p2 (8 * t) * 256 := by unfold p2; rw [show 8 * (t + 1) = 8 * t + 8 by omega, Nat.pow_add, Int.natCast_mul]; rfl
  rw [hiW, h3]
  omega
theorem hiW_8 (c : List Int) : hiW c 8 = wordB c := by
 simp only [hiW, wordB, Nat.sub_zero, Nat.reduceSub]
 omega
theorem cellB {w : World} {A : Option Addr} {s : List Int} (h : (Kd.int .u8).C w A s.length s) (i : Nat) (hi : i < s.length) : ∃ ad, A = some ad ∧ w.cell? (ad.add i) = some (.int .u8 (wd s i)) := by
 obtain ⟨a0, c, e0, _, hK, hcc⟩ := Kd.C_get h (0 : Int) i (by omega) (Int.ofNat_lt.2 hi)
 obtain rfl : c = [.int .u8 (wd s i)] := hK
 refine ⟨a0, e0, ?_⟩
 have := hcc 0 _ rfl
 simpa [Kd.int, Kd.scalar] using this
set_option maxHeartbeats 1000000 in
theorem get_any (A : Option Addr) (c : Nat) (b : List Int) (i : Nat) (w : World) (hr : (Kd.int .u8).C w A b.length b) (hb : ∀ x ∈ b, 0 ≤ x ∧ x < 256) (hl : b.length ≤ 140737488355328) (hi : 8 * i + 8 ≤ b.length) :
    Calls Tryd.prog 84 #[.slice A b.length c, .int .i64 i] w fun e w' => e = .returned (.tuple #[.int .u64 (wordB ((b.drop (8 * i)).take 8)), .bool true]) ∧ w' = w := by
  have HC := Lib.hid (fun j hj => cellB hr j hj)
  have hB : Byt ((b.drop (8 * i)).take 8) := byt_of (fun x hx => hb x (List.mem_of_mem_drop (List.mem_of_mem_take hx)))
  have HB := Lib.hid hB
  have HW : Hid (∀ t, t < 8 → ((b.drop (8 * i)).take 8).getD (7 - t) 0 = wd b (8 * i + (7 - t))) := Lib.hid (fun t ht => by
    unfold wd
    rw [List.getD_eq_getElem?_getD, List.getElem?_take_of_lt (by omega), List.getElem?_drop, List.getD_eq_getElem?_getD])
  have H8 := Lib.hid (hiW_8 ((b.drop (8 * i)).take 8))
  have HD := Lib.hid (hiW_bd hB)
  have HS := Lib.hid (fun t => hiW.eq_2 ((b.drop (8 * i)).take 8) t)
  have HZ : Hid (hiW ((b.drop (8 * i)).take 8) 0 = 0) := Lib.hid rfl
  generalize (b.drop (8 * i)).take 8 = cw at *
  obtain ⟨n, hn⟩ : ∃ n, b.length = n := ⟨_, rfl⟩
  rw [hn] at HC hl hi ⊢
  clear hr hb hB hn
  go_enter Tryd.func84, Tryd.ntmps84
  go_wp2
  go_loop [6, 7] (fun v k => ∃ t : Nat, t ≤ 8 ∧ k = .int .i64 (7 - (t : Int)) ∧ v = .int .u64 (hiW cw t)) (fun _ k => (intOf k + 1).toNat)
  case atStart => exact ⟨0, by omega, rfl, by rw [HZ.out]⟩
  case round =>
    obtain ⟨t, ht, rfl, rfl⟩ := hrel
    by_cases h8 : t < 8
    · obtain ⟨ad, rfl, hv⟩ := HC.out (8 * i + (7 - t)) (by omega)
      have h1 := HW.out t h8
      have h2 := HS.out t
      have h3 := HD.out t
      have h4 := HB.out (7 - t)
      rw [h1] at h2 h4
      have h5 : p2 (8 * t) ≤ 72057594037927936 := by have := p2_le (k := 8 * t) (m := 56) (by omega); rwa [show p2 56 = 72057594037927936 from rfl] at this
      have HN : Hid (hiW cw (t + 1) = hiW cw t * 256 + wd b (8 * i + (7 - t))) := Lib.hid h2
      obtain ⟨k, hk⟩ : ∃ k : Nat, 7 - (t : Int) = k := ⟨7 - t, by omega⟩
      have hk2 : 7 - t = k := by omega
      rw [hk2] at hv HN h4
      obtain ⟨x0, x1⟩ := h3
      obtain ⟨y0, y1⟩ := h4
      have x2 : hiW cw t < 72057594037927936 := by omega
      have hkI : ¬ (k : Int) < 0 := by omega
      clear h1 h2 h5 x1
      rw [hk]
      generalize hiW cw t = x at *
      generalize wd b (8 * i + k) = y at *
      go_wp2
      go_round
      case rel => exact ⟨t + 1, by omega, by go_num, by rw [HN.out]⟩
      case measure => simp [intOf]
    · obtain rfl : t = 8 := by omega
      go_wp2
      go_ret2
      exact ⟨by rw [← H8.out]; rfl, rfl⟩
end Go.Proofs.YtidglmocekghmaaDoor.Pr
end
section
namespace Go.Proofs.YtidglmocekghmaaDoor.Pr
open Go.RowKit Go.Proofs.YtidglmocekghmaaDoorW.PrintWords Go.Proofs.YtidglmocekghmaaDoorW.PrintLast Go.Proofs.YtidglmocekghmaaDoorW.PrintMore
set_option linter.unusedVariables false
set_option linter.unusedSimpArgs false
theorem wordsB_wd : ∀ (n : Nat) (b : List Int) (i : Nat), i < n → wd (wordsB n b) i = wordB ((b.drop (8 * i)).take 8)
 | n + 1, b, 0, _ => rfl
 | n + 1, b, i + 1, h => by
  have h1 := wordsB_wd n (b.drop 8) i (by omega)
  rw [List.drop_drop, show 8 + 8 * i = 8 * (i + 1) by omega] at h1
  exact h1
set_option maxHeartbeats 1000000 in
theorem words01_any (A : Option Addr) (c : Nat) (b : List Int) (n : Nat) (w : World) (hr : (Kd.int .u8).C w A b.length b) (hb : ∀ x ∈ b, 0 ≤ x ∧ x < 256) (hl : b.length ≤ 17592186040320) (hn : b.length = 8 * n) :
    Calls Tryd.prog 81 #[.slice A b.length c] w fun r w' => ∃ v, r = .returned (.tuple #[v, .bool true]) ∧ (Kd.int .u64).R 32 w' w.heap.size (fun _ => True) v (wordsB n b) ∧ Below w.heap.size w w' := by
  have HG := fun (i : Nat) (hi : i < n) w' (hw : Below w.heap.size w w') => Lib.hid (get_any A c b i w' (Kd.C_below hr hw) hb (by omega) (by omega))
  have HT : Hid (∀ i, i < n → (wordsB n b).take (i + 1) = (wordsB n b).take i ++ [wordB ((b.drop (8 * i)).take 8)]) := Lib.hid (fun i hi => by rw [← wordsB_wd n b i hi]; exact take_wd _ i (by rw [wordsB_len]; exact hi))
  have HL := Lib.hid (wordsB_len n b)
  have S := Lib.hid ((Sep.start w).nil (Kd.int .u64) 32)
  generalize (wordsB n b) = T at *
  obtain ⟨m, hm⟩ : ∃ m, b.length = m := ⟨_, rfl⟩
  rw [hm] at HG hl hn ⊢
  have hq : Hid ((m : Int) / 8 = n) := Lib.hid (by omega)
  have HLL0 : Hid (n ≤ 17592186040320) := Lib.hid (by omega)
  have h8 : (m : Int) % 8 = 0 := by omega
  clear hr hb hm hn
  go_enter Tryd.func81, Tryd.ntmps81
  go_wp2
  clear h8
  go_loopw [4, 5] (fun v k wr => ∃ j : Nat, j ≤ n ∧ k = .int .i64 j ∧ Hid (Sep w wr [.row (Kd.int .u64) 32 v (T.take j)])) (fun _ k _ => n - (intOf k).toNat)
  case atStart => exact ⟨0, Nat.zero_le _, rfl, S⟩
  case round =>
    clear S
    obtain ⟨j, hj, rfl, S⟩ := hrel
    have hq := hq.out
    by_cases hjl : j < n
    · have HX := Lib.hid (HT.out j hjl)
      have HLL : Hid ((T.take j).length ≤ 17592186040320) := Lib.hid (by have := HLL0.out; rw [List.length_take, HL.out]; omega)
      have HG1 := fun w' hw => HG j hjl w' hw
      generalize wordB ((b.drop (8 * j)).take 8) = x at *
      have S1 : Sep w wr [.row (Kd.int .u64) 32 u4 (T.take j), .made (Kd.int .u64) x [.int .u64 x]] := (S.out.one (Value.int .u64) (fun _ => rfl) x).swap
      have S := Lib.hid S1
      clear S1 HT HG
      go_wp2_with (first | ((with_reducible refine (HG1 _ S.out.below).out.mono ?_); rintro r w' ⟨rfl, rfl⟩) | (at_builtin; refine sp_append S.out rfl rfl Tryd.underlying22 info32 rfl (by decide) (by omega) rfl rfl (by have := HLL.out; omega) (fun v1 w1 S => ?_)))
      go_roundw
      case rel => exact ⟨j + 1, by omega, by go_num, Lib.hid (by rw [HX.out]; exact S)⟩
      case measure => simp [intOf]; omega
    · obtain rfl : j = n := by omega
      go_wp2
      go_ret2
      exact ⟨_, rfl, by have := S.out.outR .here; rwa [← HL.out, List.take_length] at this, S.out.below⟩
def lenV : Value → Nat
 | .slice _ n _ => n
 | _ => 0
theorem R_sl {α : Type} {d : Kd α} {e b : Nat} {w : World} {ok : Nat → Prop} {v : Value} {xs : List α} (h : d.R e w b ok v xs) : ∃ A n c, v = .slice A n c ∧ Hid (n = xs.length) := by
 obtain ⟨A, c, rfl⟩ := Kd.R_slice h
 exact ⟨A, _, c, rfl, Lib.hid rfl⟩
theorem padB (n : Nat) (b : List Int) (k : Nat) : wordsB n (b ++ List.replicate k 0) = wordsB n b := wordsB_eq n (fun i _ => getD_zeros b k i)
set_option maxHeartbeats 1000000 in
theorem padded_any (A : Option Addr) (c : Nat) (b : List Int) (n : Nat) (w : World) (hr : (Kd.int .u8).C w A b.length b) (hb : ∀ x ∈ b, 0 ≤ x ∧ x < 256) (hl : n ≤ 2000000000000) (hn : b.length ≤ 8 * n) :
    Calls Tryd.prog 68 #[.slice A b.length c, .int .i64 n] w fun r w' => ∃ v, r = .returned v ∧ (Kd.int .u64).R 32 w' w.heap.size (fun _ => True) v (wordsB n b) ∧ Below w.heap.size w w' := by
  have HW := fun (A' : Option Addr) (c' : Nat) (w' : World) (h : (Kd.int .u8).C w' A' (8 * n) (b ++ List.replicate (8 * n - b.length) 0)) => Lib.hid (by
    have e : (b ++ List.replicate (8 * n - b.length) 0).length = 8 * n := by simp; omega
    have := words01_any A' c' (b ++ List.replicate (8 * n - b.length) 0) n w' (by rw [e]; exact h) (fun x hx => by
      rcases List.mem_append.1 hx with hx | hx
      · exact hb x hx
      · have := (List.mem_replicate.1 hx).2
        omega) (by omega) e
    rw [e, padB] at this
    exact this)
  have HB := Lib.hid hr
  have S := Sep.start w
  generalize wordsB n b = T at *
  obtain ⟨m, hm⟩ : ∃ m, b.length = m := ⟨_, rfl⟩
  have HM := Lib.hid hm
  rw [hm] at HB HW hn ⊢
  clear hr hb hm
  go_enter Tryd.func68, Tryd.ntmps68
  go_wp2_with (first | ((with_reducible refine gate_dst (N := 8) rfl ?_); refine sp_lit (Kd.int .u8) 5 (N := 8) rfl rfl S [] [] ?hr (Reps.none _ _) (by simp) (fun g w1 S => ?_); (case hr => first | (go_simp; done) | (go_simp; rfl))) | ((with_reducible refine gate_builtin (b := .append) (xs := #[.tmp 8, .tmp 9]) rfl ?_); at_builtin; refine sp_rows S rfl rfl Tryd.underlying34 info5 rfl (by decide) (by omega) rfl rfl (Kd.C_below HB.out S.below) (fun _ _ h => h) (by have := HM.out; simp; omega) (fun v1 w1 S => ?_)))
  have S := Lib.hid S
  go_loopw [5] (fun v wr => ∃ j : Nat, m + j ≤ 8 * n ∧ Hid (Sep w wr [.row (Kd.int .u8) 5 v (b ++ List.replicate j 0)])) (fun v _ => 8 * n - lenV v)
  case atStart => exact ⟨0, by omega, by simpa using S⟩
  case round =>
    clear S
    obtain ⟨j, hj, S⟩ := hrel
    obtain ⟨A1, c1, rfl⟩ := Kd.R_slice (S.out.outR .here)
    have HE : Hid ((b ++ List.replicate j 0).length = m + j) := Lib.hid (by rw [List.length_append, HM.out, List.length_replicate])
    rw [HE.out] at S ⊢
    by_cases hjl : m + j < 8 * n
    · have hlt : ((m + j : Nat) : Int) < 8 * (n : Int) := by omega
      have HX : Hid (b ++ List.replicate (j + 1) 0 = b ++ List.replicate j 0 ++ [0]) := Lib.hid (by rw [List.replicate_succ', List.append_assoc])
      have S1 : Sep w wr [.row (Kd.int .u8) 5 (.slice A1 (m + j) c1) (b ++ List.replicate j 0), .made (Kd.int .u8) 0 [.int .u8 0]] := (S.out.one (Value.int .u8) (fun _ => rfl) 0).swap
      have S := Lib.hid S1
      clear S1
      go_wp2_with (at_builtin; refine sp_append S.out rfl rfl Tryd.underlying34 info5 rfl (by decide) (by omega) rfl rfl (by rw [HE.out]; omega) (fun v1 w1 S => ?_); obtain ⟨A2, n2, c2, rfl, hn2⟩ := R_sl (S.outR .here))
      go_roundw
      case rel => exact ⟨j + 1, by omega, by rw [HX.out]; exact Lib.hid S⟩
      case measure => have := hn2.out; simp only [List.length_append, HE.out, List.length_cons, List.length_nil] at this; simp only [lenV]; omega
    · have hlt : ¬ ((m + j : Nat) : Int) < 8 * (n : Int) := by omega
      have hq1 : m + j = 8 * n := by omega
      have hj2 : 8 * n - b.length = j := by rw [HM.out]; omega
      have hC := (Kd.R_reads' (S.out.outR .here)).2.2
      rw [HE.out] at hC
      rw [hq1] at S hC hlt ⊢
      rw [HM.out] at hj2
      rw [hj2] at HW
      have HW1 := HW A1 c1 wr hC
      clear hC hq1 HW hj2 HE
      go_wp2_with ((with_reducible refine HW1.out.mono ?_); rintro r w' ⟨v, rfl, hR, hb⟩; replace S := S.out.push (a := .row (Kd.int .u64) 32 _ T) hb hR)
      exact rt S ⟨_, rfl, S.outR .here, S.below⟩
end Go.Proofs.YtidglmocekghmaaDoor.Pr
end
section
namespace Go.Proofs.YtidglmocekghmaaDoor.Pr
open Go.RowKit Go.Proofs.YtidglmocekghmaaDoorW.PrintWords Go.Proofs.YtidglmocekghmaaDoorW.PrintLast Go.Proofs.YtidglmocekghmaaDoorW.PrintMore
set_option linter.unusedVariables false
set_option linter.unusedSimpArgs false
structure NdAt (w : World) (ad : Addr) (x : S37) (A3 : Option Addr) (c3 : Nat) (A4 : Option Addr) (c4 : Nat) : Prop where
 h0 : w.cell? ad = some (.int .i64 x.f0)
 h1 : w.cell? ⟨ad.block, ad.off + 1, none⟩ = some (.int .i64 x.f1)
 h2 : w.cell? ⟨ad.block, ad.off + 2, none⟩ = some (.int .i64 x.f2)
 h3 : w.cell? ⟨ad.block, ad.off + 3, none⟩ = some (.slice A3 x.f3.length c3)
 h4 : w.cell? ⟨ad.block, ad.off + 4, none⟩ = some (.slice A4 x.f4.length c4)
 l3 : x.f3.length ≤ c3
 g3 : (Kd.int .u8).C w A3 x.f3.length x.f3
 l4 : x.f4.length ≤ c4
 g4 : k37.C w A4 x.f4.length x.f4
theorem kid_at {w : World} {A : Option Addr} {l : List S37} (h : k37.C w A l.length l) (i : Nat) (hi : i < l.length) : ∃ ad A3 c3 A4 c4, A = some ad ∧ NdAt w (ad.add (i * 5)) l[i] A3 c3 A4 c4 := by
 obtain ⟨ad, A3, c3, A4, c4, e, h0, h1, h2, h3, h4, l3, g3, l4, g4⟩ := at_T37 h (i : Int) (by omega) (by omega)
 have hr : rd_T37 l (i : Int) = l[i] := by unfold rd_T37; rw [Int.toNat_natCast, List.getD_eq_getElem?_getD, List.getElem?_eq_getElem hi]; rfl
 rw [hr, Int.toNat_natCast] at h0 h1 h2 h3 h4
 rw [hr] at l3 g3 l4 g4
 exact ⟨ad, A3, c3, A4, c4, e, h0, h1, h2, h3, h4, l3, g3, l4, g4⟩
theorem K_C3 {w : World} {n : S37} {A3 A4 : Option Addr} {c3 c4 : Nat} (h : k37.K w n [.int .i64 n.f0, .int .i64 n.f1, .int .i64 n.f2, .slice A3 n.f3.length c3, .slice A4 n.f4.length c4]) : n.f3.length ≤ c3 ∧ (Kd.int .u8).C w A3 n.f3.length n.f3 ∧ n.f4.length ≤ c4 ∧ k37.C w A4 n.f4.length n.f4 := by
 obtain ⟨B3, d3, B4, d4, e, l3, g3, l4, g4⟩ := k37_open h
 simp only [List.cons.injEq, Value.slice.injEq, true_and, and_true] at e
 obtain ⟨⟨rfl, rfl⟩, rfl, rfl⟩ := e
 exact ⟨l3, g3, l4, g4⟩
theorem maxD_snoc (l : List S37) (x : S37) : maxD (l ++ [x]) = max (maxD l) (x.f3.length / 8) := by
 induction l with
 | nil => simp [maxD]
 | cons y l ih => simp only [List.cons_append, maxD, ih]; omega
theorem maxP_snoc (l : List S37) (x : S37) : maxP (l ++ [x]) = max (maxP l) x.f4.length := by
 induction l with
 | nil => simp [maxP]
 | cons y l ih => simp only [List.cons_append, maxP, ih]; omega
theorem take_snoc {α : Type} (l : List α) (i : Nat) (h : i < l.length) : l.take (i + 1) = l.take i ++ [l[i]] := by simp
abbrev ndV (n : S37) (A3 : Option Addr) (c3 : Nat) (A4 : Option Addr) (c4 : Nat) : Value := .agg #[.int .i64 n.f0, .int .i64 n.f1, .int .i64 n.f2, .slice A3 n.f3.length c3, .slice A4 n.f4.length c4]
abbrev ndC (n : S37) (A3 : Option Addr) (c3 : Nat) (A4 : Option Addr) (c4 : Nat) : List Value := [.int .i64 n.f0, .int .i64 n.f1, .int .i64 n.f2, .slice A3 n.f3.length c3, .slice A4 n.f4.length c4]
set_option maxRecDepth 100000 in
set_option maxHeartbeats 4000000 in
theorem uniform_any (n : S37) (A3 A4 : Option Addr) (c3 c4 : Nat) (w : World) (h : k37.K w n (ndC n A3 c3 A4 c4)) :
    Calls Tryd.prog 70 #[ndV n A3 c3 A4 c4] w fun r w' => r = .returned (.tuple #[.int .i64 (maxD n.f4 : Nat), .int .i64 (maxP n.f4 : Nat)]) ∧ Below w.heap.size w w' := by
  obtain ⟨-, -, -, g4⟩ := K_C3 h
  have HK := Lib.hid (fun i hi => kid_at g4 i hi)
  have HM : Hid (∀ i (hi : i < n.f4.length), maxD (n.f4.take (i + 1)) = max (maxD (n.f4.take i)) (n.f4[i].f3.length / 8) ∧ maxP (n.f4.take (i + 1)) = max (maxP (n.f4.take i)) n.f4[i].f4.length) := Lib.hid (fun i hi => by rw [take_snoc _ _ hi, maxD_snoc, maxP_snoc]; exact ⟨rfl, rfl⟩)
  have HL : Hid (maxD (n.f4.take n.f4.length) = maxD n.f4 ∧ maxP (n.f4.take n.f4.length) = maxP n.f4) := Lib.hid (by rw [List.take_length]; exact ⟨rfl, rfl⟩)
  have HZ : Hid (maxD (n.f4.take 0) = 0 ∧ maxP (n.f4.take 0) = 0) := Lib.hid ⟨rfl, rfl⟩
  have hl := g4.2.1
  obtain ⟨f0, f1, f2, f3, l⟩ := n
  dsimp only [ndV] at *
  generalize f3.length = m3 at *
  obtain ⟨m, hm⟩ : ∃ m, l.length = m := ⟨_, rfl⟩
  rw [hm] at hl HL ⊢
  have HH := Lib.hid hm
  have S := Sep.start w
  clear g4 h hm
  go_enter Tryd.func70, Tryd.ntmps70
  go_wp2_with (first | go_skip | ((with_reducible refine wl ?_); refine sn S (fun g w1 S => ?_)))
  have S := Lib.hid S
  go_loopw [4, 5, 6] (fun a b k wr => ∃ j : Nat, j ≤ m ∧ k = .int .i64 j ∧ a = .int .i64 (maxD (l.take j) : Nat) ∧ b = .int .i64 (maxP (l.take j) : Nat) ∧ Hid (Sep w wr [.box g #[.int .i64 f0, .int .i64 f1, .int .i64 f2, .slice A3 m3 c3, .slice A4 m c4] 37])) (fun _ _ k _ => m - (intOf k).toNat)
  case atStart => exact ⟨0, Nat.zero_le _, rfl, by rw [HZ.out.1]; rfl, by rw [HZ.out.2]; rfl, S⟩
  case round =>
    clear S
    obtain ⟨j, hj, rfl, rfl, rfl, S⟩ := hrel
    by_cases hjl : j < m
    · obtain ⟨ad, B3, d3, B4, d4, rfl, hN⟩ := HK.out j (by rw [HH.out]; exact hjl)
      obtain ⟨e1, e2⟩ := HM.out j (by rw [HH.out]; exact hjl)
      have hv3 := hN.h3
      have hv4 := hN.h4
      have b3 := hN.g3.2.1
      have b4 := hN.g4.2.1
      have HE1 := Lib.hid e1
      have HE2 := Lib.hid e2
      clear e1 e2 hN
      generalize maxD (l.take j) = x at *
      generalize maxP (l.take j) = y at *
      generalize (l[j]'(by rw [HH.out]; exact hjl)).f3.length = q3 at *
      generalize (l[j]'(by rw [HH.out]; exact hjl)).f4.length = q4 at *
      have q3' : ((q3 : Int) / 8) = ((q3 / 8 : Nat) : Int) := by omega
      obtain ⟨d, hd⟩ : ∃ d, q3 / 8 = d := ⟨_, rfl⟩
      rw [hd] at q3' HE1
      have b5 : d ≤ 9223372036854775807 := by omega
      clear hd
      have HQ := Lib.hid q3'
      clear q3'
      have S := S.out
      by_cases c1 : x < d
      · have t1 : decide ((x : Int) < (q3 : Int) / 8) = true := decide_eq_true (by rw [HQ.out]; omega)
        have T1 := Lib.hid c1
        clear c1
        by_cases c2 : y < q4
        · have t2 : decide ((y : Int) < (q4 : Int)) = true := decide_eq_true (by omega)
          have T2 := Lib.hid c2
          clear c2
          go_wp2_with (first | go_skip | ((with_reducible refine wl ?_); first | refine sl S ?_ | refine sx S hv3 ?_ | refine sx S hv4 ?_))
          go_roundw
          case rel => exact ⟨j + 1, by omega, by go_num, by rw [HE1.out, Nat.max_eq_right (Nat.le_of_lt T1.out)]; rw [HQ.out], by rw [HE2.out, Nat.max_eq_right (Nat.le_of_lt T2.out)], Lib.hid S⟩
          case measure => simp [intOf]; omega
        · have t2 : decide ((y : Int) < (q4 : Int)) = false := decide_eq_false (by omega)
          have T2 := Lib.hid c2
          clear c2
          go_wp2_with (first | go_skip | ((with_reducible refine wl ?_); first | refine sl S ?_ | refine sx S hv3 ?_ | refine sx S hv4 ?_))
          go_roundw
          case rel => exact ⟨j + 1, by omega, by go_num, by rw [HE1.out, Nat.max_eq_right (Nat.le_of_lt T1.out)]; rw [HQ.out], by rw [HE2.out, Nat.max_eq_left (Nat.le_of_not_lt T2.out)], Lib.hid S⟩
          case measure => simp [intOf]; omega
      · have t1 : decide ((x : Int) < (q3 : Int) / 8) = false := decide_eq_false (by rw [HQ.out]; omega)
        have T1 := Lib.hid c1
        clear c1
        by_cases c2 : y < q4
        · have t2 : decide ((y : Int) < (q4 : Int)) = true := decide_eq_true (by omega)
          have T2 := Lib.hid c2
          clear c2
          go_wp2_with (first | go_skip | ((with_reducible refine wl ?_); first | refine sl S ?_ | refine sx S hv3 ?_ | refine sx S hv4 ?_))
          go_roundw
          case rel => exact ⟨j + 1, by omega, by go_num, by rw [HE1.out, Nat.max_eq_left (Nat.le_of_not_lt T1.out)], by rw [HE2.out, Nat.max_eq_right (Nat.le_of_lt T2.out)], Lib.hid S⟩
          case measure => simp [intOf]; omega
        · have t2 : decide ((y : Int) < (q4 : Int)) = false := decide_eq_false (by omega)
          have T2 := Lib.hid c2
          clear c2
          go_wp2_with (first | go_skip | ((with_reducible refine wl ?_); first | refine sl S ?_ | refine sx S hv3 ?_ | refine sx S hv4 ?_))
          go_roundw
          case rel => exact ⟨j + 1, by omega, by go_num, by rw [HE1.out, Nat.max_eq_left (Nat.le_of_not_lt T1.out)], by rw [HE2.out, Nat.max_eq_left (Nat.le_of_not_lt T2.out)], Lib.hid S⟩
          case measure => simp [intOf]; omega
    · obtain rfl : j = m := by omega
      rw [HL.out.1, HL.out.2]
      have S := S.out
      go_wp2_with (first | go_skip | ((with_reducible refine wl ?_); refine sl S ?_))
      exact rt S ⟨rfl, S.below⟩
end Go.Proofs.YtidglmocekghmaaDoor.Pr
end
section
namespace Go.Proofs.YtidglmocekghmaaDoor.Pr
open Go.RowKit Go.Proofs.YtidglmocekghmaaDoorW.PrintWords Go.Proofs.YtidglmocekghmaaDoorW.PrintLast Go.Proofs.YtidglmocekghmaaDoorW.PrintMore
set_option linter.unusedVariables false
set_option linter.unusedSimpArgs false
set_option maxRecDepth 100000 in
set_option maxHeartbeats 4000000 in
theorem obj13_any (n : S37) (A3 A4 : Option Addr) (c3 c4 : Nat) (w : World) (h0 : n.f0 = 2) (h1 : n.f1 ≠ 7) (c0 : 0 ≤ n.f2) (c1 : n.f2 ≤ 536870911) :
    Calls Tryd.prog 69 #[ndV n A3 c3 A4 c4] w fun r w' => r = .returned (.int .i64 (wordsE n.f1 n.f2)) ∧ Below w.heap.size w w' := by
  have HW := fun w => Lib.hid (words_any6 n.f1 n.f2 w c0 c1)
  obtain ⟨f0, f1, f2, f3, l⟩ := n
  dsimp only [ndV] at *
  subst h0
  have t1 : (f1 == 7) = false := beq_eq_false_iff_ne.2 h1
  have S := Sep.start w
  clear h1
  go_enter Tryd.func69, Tryd.ntmps69
  go_wp2_with (first | go_skip | ((with_reducible refine wl ?_); first | refine sn S (fun g w1 S => ?_) | refine sl S ?_) | ((with_reducible refine (HW _).out.mono ?_); rintro r w' ⟨rfl, rfl⟩))
  exact rt S ⟨rfl, S.below⟩
def targetsL (n : S37) : List S37 := if n.f0 = 2 ∧ n.f1 = 7 then n.f4.flatMap (·.f4) else n.f4
theorem flat_snoc (l : List S37) (x : S37) : (l ++ [x]).flatMap (·.f4) = l.flatMap (·.f4) ++ x.f4 := by simp
set_option maxRecDepth 100000 in
set_option maxHeartbeats 4000000 in
theorem targets_any (n : S37) (A3 A4 : Option Addr) (c3 c4 : Nat) (w : World) (h : k37.K w n (ndC n A3 c3 A4 c4)) (hl : (targetsL n).length ≤ 1000000000000) :
    Calls Tryd.prog 50 #[ndV n A3 c3 A4 c4] w fun r w' => ∃ A c, r = .returned (.slice A (targetsL n).length c) ∧ k37.C w' A (targetsL n).length (targetsL n) ∧ Below w.heap.size w w' := by
  obtain ⟨-, -, l4, g4⟩ := K_C3 h
  have S := Sep.start w
  by_cases hq : n.f0 = 2 ∧ n.f1 = 7
  · have HK := Lib.hid (fun i hi => kid_at g4 i hi)
    have hT : targetsL n = n.f4.flatMap (·.f4) := if_pos hq
    have HM : Hid (∀ i (hi : i < n.f4.length), (n.f4.take (i + 1)).flatMap (·.f4) = (n.f4.take i).flatMap (·.f4) ++ n.f4[i].f4) := Lib.hid (fun i hi => by rw [take_snoc _ _ hi, flat_snoc])
    have HLE : Hid (∀ i, ((n.f4.take i).flatMap (·.f4)).length ≤ 1000000000000) := Lib.hid (fun i => by
      rw [hT] at hl
      have e := congrArg (fun l : List S37 => (l.flatMap (·.f4)).length) (List.take_append_drop i n.f4)
      simp only [List.flatMap_append, List.length_append] at e
      omega)
    have HF : Hid ((n.f4.take n.f4.length).flatMap (·.f4) = targetsL n) := Lib.hid (by rw [List.take_length, hT])
    have hl4 := g4.2.1
    generalize targetsL n = T at *
    obtain ⟨f0, f1, f2, f3, l⟩ := n
    dsimp only [ndV] at *
    obtain ⟨rfl, rfl⟩ := hq
    generalize f3.length = m3 at *
    obtain ⟨m, hm⟩ : ∃ m, l.length = m := ⟨_, rfl⟩
    rw [hm] at hl4 HF ⊢
    have HH := Lib.hid hm
    clear g4 h hm hl hT l4
    go_enter Tryd.func50, Tryd.ntmps50
    go_wp2_with (first | go_skip | ((with_reducible refine wl ?_); first | refine sn S (fun g w1 S => ?_) | refine sl S ?_))
    have S := Lib.hid (S.nil (Kd.raw 5) 37)
    go_loopw [3, 4] (fun v k wr => ∃ (j : Nat) (rows : List (List Value)), j ≤ m ∧ k = .int .i64 j ∧ Hid (RowsK k37 w ((l.take j).flatMap (·.f4)) rows) ∧ Hid (Sep w wr [.row (Kd.raw 5) 37 v rows, .box g #[.int .i64 2, .int .i64 7, .int .i64 f2, .slice A3 m3 c3, .slice A4 m c4] 37])) (fun _ k _ => m - (intOf k).toNat)
    case atStart => exact ⟨0, [], Nat.zero_le _, rfl, Lib.hid (RowsK.nil _ _), S⟩
    case round =>
      clear S
      obtain ⟨j, rows, hj, rfl, HR, S⟩ := hrel
      by_cases hjl : j < m
      · obtain ⟨ad, B3, d3, B4, d4, rfl, hN⟩ := HK.out j (by rw [HH.out]; exact hjl)
        have e1 := HM.out j (by rw [HH.out]; exact hjl)
        have hv4 := hN.h4
        have b4 := hN.g4.2.1
        obtain ⟨news, k1, k2⟩ := rows_of_C hN.g4
        have HR2 : Hid (RowsK k37 w ((l.take (j + 1)).flatMap (·.f4)) (rows ++ news)) := Lib.hid (by rw [e1]; exact HR.out.append k1)
        have HBL : Hid (rows.length + (l[j]'(by rw [HH.out]; exact hjl)).f4.length ≤ 1000000000000) := Lib.hid (by
          have h2 := HLE.out (j + 1)
          rw [e1, List.length_append] at h2
          rw [HR.out.1]
          exact h2)
        have HC2 := Lib.hid k2
        clear e1 hN k1 k2 HR
        generalize (l[j]'(by rw [HH.out]; exact hjl)).f4.length = q4 at *
        have S := S.out
        obtain ⟨A1, n1, c1, rfl, -⟩ := R_sl (S.outR .here)
        go_wp2_with (first | go_skip | ((with_reducible refine wl ?_); first | refine sl S ?_ | refine sx S hv4 ?_) | (at_builtin; refine sp_rows S rfl rfl Tryd.underlying35 info37 rfl (by decide) (by omega) rfl rfl (Kd.C_below HC2.out S.below) (fun _ _ h => h) (by have := HBL.out; omega) (fun v1 w1 S => ?_)))
        go_roundw
        case rel => exact ⟨j + 1, _, by omega, by go_num, HR2, Lib.hid S⟩
        case measure => simp [intOf]; omega
      · obtain rfl : j = m := by omega
        rw [HF.out] at HR
        have S := S.out
        obtain ⟨A1, n1, c1, rfl, hn1⟩ := R_sl (S.outR .here)
        go_wp2_with (first | go_skip | ((with_reducible refine wl ?_); first | refine sl S ?_))
        refine rt S ?_
        have hR := S.outR .here
        obtain ⟨A, c, e, hc, hC⟩ := C_of_R hR ⟨HR.out.1, fun j x cs hx hc => k37.K_below (below_step (Below.refl _ _) (S.below.mono (Nat.le_refl _))) (HR.out.2 j x cs hx hc)⟩
        injection e with e1 e2 e3
        subst e1 e2 e3
        exact ⟨_, _, rfl, hC, S.below⟩
  · have hT : targetsL n = n.f4 := if_neg hq
    rw [hT]
    have HC := Lib.hid g4
    obtain ⟨f0, f1, f2, f3, l⟩ := n
    dsimp only [ndV] at *
    generalize f3.length = m3 at *
    generalize hm : l.length = m at *
    clear h g4 hl hT hm
    by_cases h2 : f0 = 2
    · subst h2
      have t1 : (f1 != 7) = true := bne_iff_ne.2 (fun e => hq ⟨rfl, e⟩)
      clear hq
      go_enter Tryd.func50, Tryd.ntmps50
      go_wp2_with (first | go_skip | ((with_reducible refine wl ?_); first | refine sn S (fun g w1 S => ?_) | refine sl S ?_))
      exact rt S ⟨_, _, rfl, Kd.C_below HC.out S.below, S.below⟩
    · have t1 : (f0 != 2) = true := bne_iff_ne.2 h2
      clear hq h2
      go_enter Tryd.func50, Tryd.ntmps50
      go_wp2_with (first | go_skip | ((with_reducible refine wl ?_); first | refine sn S (fun g w1 S => ?_) | refine sl S ?_))
      exact rt S ⟨_, _, rfl, Kd.C_below HC.out S.below, S.below⟩
end Go.Proofs.YtidglmocekghmaaDoor.Pr
end
section
namespace Go.Proofs.YtidglmocekghmaaDoor.Pr
theorem seg_local {s s' : List Int} {i n : Nat} (h : Eqw s s' i (i + n)) (h1 : i + n ≤ s.length) (h2 : i + n ≤ s'.length) : seg s i n = seg s' i n := by
 unfold seg
 refine List.ext_getElem (by simp; omega) (fun j hj hj' => ?_)
 have hjn : j < n := by rw [List.length_take] at hj; omega
 have := h (i + j) (by omega) (by omega)
 unfold wd at this
 rw [List.getD_eq_getElem?_getD, List.getD_eq_getElem?_getD, List.getElem?_eq_getElem (by omega), List.getElem?_eq_getElem (by omega)] at this
 simpa using this
theorem Eqw.sub {s s' : List Int} {i j i' j' : Nat} (h : Eqw s s' i j) (h1 : i ≤ i') (h2 : j' ≤ j) : Eqw s s' i' j' := fun q h3 h4 => h q (by omega) (by omega)
mutual
theorem lay_le {s : List Int} : ∀ (n : S37) (a nx r : Nat), lay s n a nx r → nx ≤ r
 | ⟨k, e, n, b, l⟩, a, nx, r, h => by
  unfold lay at h
  split at h
  ·omega
  split at h
  ·split at h
   ·omega
   ·have := lays_le l _ _ r h.2.2.2; omega
  split at h
  ·have := layE_le _ _ l _ _ r h.2.2.2; omega
  split at h
  ·have := lays_le l _ _ r h.2.2; omega
  ·omega
theorem lays_le {s : List Int} : ∀ (l : List S37) (a nx r : Nat), lays s l a nx r → nx ≤ r
 | [], a, nx, r, h => by unfold lays at h; omega
 | x :: l, a, nx, r, h => by
  unfold lays at h
  obtain ⟨q, h1, h2⟩ := h
  have := lay_le x _ _ q h1
  have := lays_le l _ _ r h2
  omega
theorem layE_le {s : List Int} (A B : Nat) : ∀ (m : List S37) (at_ nx r : Nat), layE s A B m at_ nx r → nx ≤ r
 | [], at_, nx, r, h => by unfold layE at h; omega
 | ⟨k, e, n, b, l⟩ :: m, at_, nx, r, h => by
  unfold layE at h
  obtain ⟨_, _, q, h1, h2⟩ := h
  have := lays_le l _ _ q h1
  have := layE_le A B m _ _ r h2
  omega
end
mutual
theorem lay_local {s s' : List Int} : ∀ (n : S37) (a nx r : Nat), lay s n a nx r → wd s a = wd s' a → Eqw s s' nx r → r ≤ s'.length → lay s' n a nx r
 | ⟨k, e, n, b, l⟩, a, nx, r, h, ha, hq, hr => by
  have hle := lay_le _ a nx r h
  unfold lay at h ⊢
  by_cases hk0 : k = 0
  ·rw [if_pos hk0] at h ⊢
   exact ⟨ha ▸ h.1, h.2⟩
  rw [if_neg hk0] at h ⊢
  by_cases hk1 : k = 1
  ·rw [if_pos hk1] at h ⊢
   by_cases hz : b.length / 8 + l.length = 0
   ·rw [if_pos hz] at h ⊢
    exact ⟨ha ▸ h.1, h.2⟩
   rw [if_neg hz] at h ⊢
   obtain ⟨h1, h2, h3, h4⟩ := h
   have hl := lays_le l _ _ r h4
   refine ⟨ha ▸ h1, by omega, ?_, lays_local l _ _ r h4 (hq.sub (by omega) (by omega)) (hq.sub (by omega) (by omega)) hr⟩
   rw [← h3]
   exact (seg_local (hq.sub (by omega) (by omega)) (by omega) (by omega)).symm
  rw [if_neg hk1] at h ⊢
  by_cases he7 : e = 7
  ·rw [if_pos he7] at h ⊢
   obtain ⟨h1, h2, h3, h4⟩ := h
   have hl := layE_le _ _ l _ _ r h4
   refine ⟨ha ▸ h1, by omega, (hq nx (by omega) (by omega)).symm.trans h3, layE_local _ _ l (fun x hx => maxP_le hx) _ _ r h4 (hq.sub (by omega) (by omega)) (hq.sub (by omega) (by omega)) (by omega) hr⟩
  rw [if_neg he7] at h ⊢
  by_cases he6 : e = 6
  ·rw [if_pos he6] at h ⊢
   obtain ⟨h1, h2, h3⟩ := h
   have hl := lays_le l _ _ r h3
   exact ⟨ha ▸ h1, by omega, lays_local l _ _ r h3 (hq.sub (by omega) (by omega)) (hq.sub (by omega) (by omega)) hr⟩
  rw [if_neg he6] at h ⊢
  obtain ⟨h1, h2, h3, h4⟩ := h
  refine ⟨ha ▸ h1, by omega, ?_, h4⟩
  rw [← h3]
  exact (seg_local (hq.sub (by omega) (by omega)) (by omega) (by omega)).symm
theorem lays_local {s s' : List Int} : ∀ (l : List S37) (a nx r : Nat), lays s l a nx r → Eqw s s' a (a + l.length) → Eqw s s' nx r → r ≤ s'.length → lays s' l a nx r
 | [], a, nx, r, h, _, _, _ => by unfold lays at h ⊢; exact h
 | x :: l, a, nx, r, h, ha, hq, hr => by
  unfold lays at h ⊢
  obtain ⟨q, h1, h2⟩ := h
  have h3 := lay_le x _ _ q h1
  have h4 := lays_le l _ _ r h2
  rw [List.length_cons] at ha
  exact ⟨q, lay_local x a nx q h1 (ha a (by omega) (by omega)) (hq.sub (by omega) (by omega)) (by omega), lays_local l (a + 1) q r h2 (ha.sub (by omega) (by omega)) (hq.sub (by omega) (by omega)) hr⟩
theorem layE_local {s s' : List Int} (A B : Nat) : ∀ (m : List S37) (hB : ∀ x ∈ m, x.f4.length ≤ B) (at_ nx r : Nat), layE s A B m at_ nx r → Eqw s s' at_ (at_ + m.length * (A + B)) → Eqw s s' nx r → at_ + m.length * (A + B) ≤ nx → r ≤ s'.length → layE s' A B m at_ nx r
 | [], _, at_, nx, r, h, _, _, _, _ => by unfold layE at h ⊢; exact h
 | ⟨k, e, n, b, l⟩ :: m, hB, at_, nx, r, h, ha, hq, hn, hr => by
  unfold layE at h ⊢
  obtain ⟨h1, h2, q, h3, h4⟩ := h
  have h5 := lays_le l _ _ q h3
  have h6 := layE_le A B m _ _ r h4
  have hl := hB _ List.mem_cons_self
  dsimp only at hl
  rw [List.length_cons, Nat.add_mul, Nat.one_mul] at ha hn
  have hsl : seg s at_ A = seg s' at_ A := by
   unfold seg at h1 ⊢
   have hA : ((s.drop at_).take A).length = A := by rw [h1, wordsB_len]
   rw [List.length_take, List.length_drop] at hA
   by_cases hA0 : A = 0
   ·rw [hA0]; simp
   ·exact seg_local (ha.sub (by omega) (by omega)) (by omega) (by omega)
  refine ⟨hsl ▸ h1, fun j hj1 hj2 => (ha _ (by omega) (by omega)).symm.trans (h2 j hj1 hj2), q, lays_local l _ _ q h3 (ha.sub (by omega) (by omega)) (hq.sub (by omega) (by omega)) (by omega), layE_local A B m (fun x hx => hB x (List.mem_cons_of_mem _ hx)) _ q r h4 (ha.sub (by omega) (by omega)) (hq.sub (by omega) (by omega)) (by omega) hr⟩
end
end Go.Proofs.YtidglmocekghmaaDoor.Pr
end
section
namespace Go.Proofs.YtidglmocekghmaaDoor.Pr
def shallowE (A B : Nat) : List S37 → List Int
 | [] => []
 | x :: l => (wordsB A x.f3 ++ List.replicate B 0) ++ shallowE A B l
def shallowW (n : S37) : List Int :=
 if n.f0 = 1 then wordsB (n.f3.length / 8) n.f3 ++ List.replicate n.f4.length 0
 else if n.f1 = 7 then encS n.f4.length (maxD n.f4) (maxP n.f4) :: shallowE (maxD n.f4) (maxP n.f4) n.f4
 else if n.f1 = 6 then List.replicate n.f4.length 0
 else wordsB (wordsE n.f1 n.f2).toNat n.f3
def ptrW (n : S37) (off : Int) : Int :=
 if n.f0 = 1 then (if n.f3.length / 8 + n.f4.length = 0 then encS (-1) 0 0 else encS off (n.f3.length / 8 : Nat) n.f4.length)
 else if n.f1 = 7 then encL off 7 (n.f4.length * (maxD n.f4 + maxP n.f4) : Nat)
 else if n.f1 = 6 then encL off 6 n.f4.length
 else encL off n.f1 n.f2
def putW (n : S37) (out : List Int) (a : Nat) : List Int := (out ++ shallowW n).set a (ptrW n ((out.length : Int) - a - 1))
mutual
def placeW : S37 → List Int → Nat → List Int
 | ⟨k, e, n, b, l⟩, out, a =>
  if k = 0 then out
  else if k = 1 then placesW l (putW ⟨k, e, n, b, l⟩ out a) (out.length + b.length / 8)
  else if e = 7 then placeE (maxD l) (maxP l) l (putW ⟨k, e, n, b, l⟩ out a) (out.length + 1)
  else if e = 6 then placesW l (putW ⟨k, e, n, b, l⟩ out a) out.length
  else putW ⟨k, e, n, b, l⟩ out a
def placesW : List S37 → List Int → Nat → List Int
 | [], out, _ => out
 | x :: l, out, a => placesW l (placeW x out a) (a + 1)
def placeE (A B : Nat) : List S37 → List Int → Nat → List Int
 | [], out, _ => out
 | ⟨_, _, _, _, l⟩ :: m, out, at_ => placeE A B m (placesW l out (at_ + A)) (at_ + (A + B))
end
theorem wd_app_l {s t : List Int} {i : Nat} (h : i < s.length) : wd (s ++ t) i = wd s i := by
 unfold wd
 rw [List.getD_eq_getElem?_getD, List.getElem?_append_left h, List.getD_eq_getElem?_getD]
theorem wd_app_r {s t : List Int} {i : Nat} (h : s.length ≤ i) : wd (s ++ t) i = wd t (i - s.length) := by
 unfold wd
 rw [List.getD_eq_getElem?_getD, List.getElem?_append_right h, List.getD_eq_getElem?_getD]
theorem wd_set_ne {s : List Int} {i a : Nat} {v : Int} (h : a ≠ i) : wd (s.set a v) i = wd s i := by
 unfold wd
 rw [List.getD_eq_getElem?_getD, List.getElem?_set_ne h, List.getD_eq_getElem?_getD]
theorem wd_set_eq {s : List Int} {a : Nat} {v : Int} (h : a < s.length) : wd (s.set a v) a = v := by
 unfold wd
 rw [List.getD_eq_getElem?_getD, List.getElem?_set_self h]
 rfl
theorem wd_rep {n i : Nat} : wd (List.replicate n 0) i = 0 := by
 unfold wd
 rw [List.getD_eq_getElem?_getD, List.getElem?_replicate]
 split <;> rfl
theorem putW_len (n : S37) (out : List Int) (a : Nat) : (putW n out a).length = out.length + (shallowW n).length := by unfold putW; simp
theorem putW_old {n : S37} {out : List Int} {a i : Nat} (hi : i < out.length) (h : i ≠ a) : wd (putW n out a) i = wd out i := by
 unfold putW
 rw [wd_set_ne (Ne.symm h), wd_app_l hi]
theorem putW_ptr {n : S37} {out : List Int} {a : Nat} (ha : a < out.length) : wd (putW n out a) a = ptrW n ((out.length : Int) - a - 1) := by
 unfold putW
 exact wd_set_eq (by simp; omega)
theorem putW_new {n : S37} {out : List Int} {a i : Nat} (ha : a < out.length) : wd (putW n out a) (out.length + i) = wd (shallowW n) i := by
 unfold putW
 rw [wd_set_ne (by omega), wd_app_r (by omega), Nat.add_sub_cancel_left]
theorem seg_eq {s l : List Int} {i : Nat} (h : ∀ j, j < l.length → wd s (i + j) = wd l j) (hl : i + l.length ≤ s.length) : seg s i l.length = l := by
 unfold seg
 refine List.ext_getElem (by simp; omega) (fun j hj hj' => ?_)
 have := h j hj'
 unfold wd at this
 rw [List.getD_eq_getElem?_getD, List.getD_eq_getElem?_getD, List.getElem?_eq_getElem (by omega), List.getElem?_eq_getElem hj'] at this
 simpa using this
theorem shallowE_len (A B : Nat) : ∀ l : List S37, (shallowE A B l).length = l.length * (A + B)
 | [] => by simp [shallowE]
 | x :: l => by rw [shallowE, List.length_append, List.length_append, wordsB_len, List.length_replicate, shallowE_len A B l, List.length_cons, Nat.add_mul, Nat.one_mul]; omega
structure Put (out out' : List Int) (a k : Nat) : Prop where
 len : out.length ≤ out'.length
 old : ∀ i, i < out.length → (i < a ∨ a + k ≤ i) → wd out' i = wd out i
def ElW (out : List Int) (A B : Nat) : List S37 → Nat → Prop
 | [], _ => True
 | x :: l, at_ => seg out at_ A = wordsB A x.f3 ∧ (∀ j, j < B → wd out (at_ + A + j) = 0) ∧ at_ + (A + B) ≤ out.length ∧ ElW out A B l (at_ + (A + B))
theorem elW_of {out : List Int} {A B : Nat} : ∀ {l : List S37} {at_ : Nat}, (∀ j, j < l.length * (A + B) → wd out (at_ + j) = wd (shallowE A B l) j) → at_ + l.length * (A + B) ≤ out.length → ElW out A B l at_
  | [], _, _, _ => trivial
  | x :: l, at_, h, hl => by
    rw [List.length_cons, Nat.add_mul, Nat.one_mul] at h hl
    have h1 : ∀ j, j < A + B → wd out (at_ + j) = wd (wordsB A x.f3 ++ List.replicate B 0) j := fun j hj => by
      rw [h j (by omega), shallowE, wd_app_l (by rw [List.length_append, wordsB_len, List.length_replicate]; exact hj)]
    refine ⟨?_, fun j hj => ?_, by omega, elW_of (fun j hj => ?_) (by omega)⟩
    · have := seg_eq (s := out) (l := wordsB A x.f3) (i := at_) (fun j hj => by
        rw [wordsB_len] at hj
        rw [h1 j (by omega), wd_app_l (by rw [wordsB_len]; exact hj)]) (by rw [wordsB_len]; omega)
      rwa [wordsB_len] at this
    · rw [Nat.add_assoc, h1 _ (by omega), wd_app_r (by rw [wordsB_len]; omega), wd_rep]
    · rw [Nat.add_assoc, h _ (by omega), shallowE, wd_app_r (by rw [List.length_append, wordsB_len, List.length_replicate]; omega), List.length_append, wordsB_len, List.length_replicate, Nat.add_sub_cancel_left]
theorem ElW.keep {out out' : List Int} {A B : Nat} : ∀ {l : List S37} {at_ : Nat}, ElW out A B l at_ → (∀ i, at_ ≤ i → i < out.length → wd out' i = wd out i) → out.length ≤ out'.length → ElW out' A B l at_
 | [], _, _, _, _ => trivial
 | x :: l, at_, ⟨h1, h2, h3, h4⟩, hk, hl => by
  refine ⟨?_, fun j hj => (hk _ (by omega) (by omega)).trans (h2 j hj), by omega, h4.keep (fun i hi hi2 => hk i (by omega) hi2) hl⟩
  rw [← h1]
  exact (seg_local (s := out) (s' := out') (fun i hi hi2 => (hk i hi (by omega)).symm) (by omega) (by omega)).symm
mutual
theorem place_lay : ∀ (n : S37) (out : List Int) (a : Nat), a < out.length → wd out a = 0 → Put out (placeW n out a) a 1 ∧ lay (placeW n out a) n a out.length (placeW n out a).length
  | ⟨k, e, n, b, l⟩, out, a, ha, hz => by
    unfold placeW lay
    by_cases hk0 : k = 0
    · rw [if_pos hk0, if_pos hk0]
      exact ⟨⟨Nat.le_refl _, fun _ _ _ => rfl⟩, hz, rfl⟩
    rw [if_neg hk0, if_neg hk0]
    by_cases hk1 : k = 1
    · rw [if_pos hk1, if_pos hk1]
      have hsh : shallowW ⟨k, e, n, b, l⟩ = wordsB (b.length / 8) b ++ List.replicate l.length 0 := by unfold shallowW; rw [if_pos hk1]
      have hln := putW_len ⟨k, e, n, b, l⟩ out a
      rw [hsh, List.length_append, wordsB_len, List.length_replicate] at hln
      have hp := putW_ptr (n := ⟨k, e, n, b, l⟩) ha
      have hnew := fun i => putW_new (n := ⟨k, e, n, b, l⟩) (i := i) ha
      have hold := fun i h1 h2 => putW_old (n := ⟨k, e, n, b, l⟩) (out := out) (a := a) (i := i) h1 h2
      rw [hsh] at hnew
      generalize putW ⟨k, e, n, b, l⟩ out a = o1 at *
      obtain ⟨⟨p1, p2⟩, p3⟩ := places_lay l o1 (out.length + b.length / 8) (by omega) (fun j hj => by
        rw [show out.length + b.length / 8 + j = out.length + (b.length / 8 + j) by omega, hnew, wd_app_r (by rw [wordsB_len]; omega), wd_rep])
      generalize placesW l o1 (out.length + b.length / 8) = o2 at *
      refine ⟨⟨by omega, fun i h1 h2 => (p2 i (by omega) (by omega)).trans (hold i h1 (by omega))⟩, ?_⟩
      have hpa : wd o2 a = ptrW ⟨k, e, n, b, l⟩ ((out.length : Int) - a - 1) := (p2 a (by omega) (by omega)).trans hp
      unfold ptrW at hpa
      rw [if_pos hk1] at hpa
      dsimp only at hpa
      by_cases hzz : b.length / 8 + l.length = 0
      · rw [if_pos hzz] at hpa ⊢
        have hl0 : l = [] := List.eq_nil_of_length_eq_zero (by omega)
        subst hl0
        unfold lays at p3
        exact ⟨hpa, by omega⟩
      · rw [if_neg hzz] at hpa ⊢
        refine ⟨hpa, by omega, ?_, ?_⟩
        · have := seg_eq (s := o2) (l := wordsB (b.length / 8) b) (i := out.length) (fun j hj => by
            rw [wordsB_len] at hj
            rw [p2 _ (by omega) (by omega), hnew, wd_app_l (by rw [wordsB_len]; exact hj)]) (by rw [wordsB_len]; omega)
          rwa [wordsB_len] at this
        · rw [show out.length + (b.length / 8 + l.length) = o1.length by omega]
          exact p3
    rw [if_neg hk1, if_neg hk1]
    by_cases he7 : e = 7
    · rw [if_pos he7, if_pos he7]
      have hsh : shallowW ⟨k, e, n, b, l⟩ = encS l.length (maxD l) (maxP l) :: shallowE (maxD l) (maxP l) l := by unfold shallowW; rw [if_neg hk1, if_pos he7]
      have hln := putW_len ⟨k, e, n, b, l⟩ out a
      rw [hsh, List.length_cons, shallowE_len] at hln
      have hp := putW_ptr (n := ⟨k, e, n, b, l⟩) ha
      have hnew := fun i => putW_new (n := ⟨k, e, n, b, l⟩) (i := i) ha
      have hold := fun i h1 h2 => putW_old (n := ⟨k, e, n, b, l⟩) (out := out) (a := a) (i := i) h1 h2
      rw [hsh] at hnew
      generalize putW ⟨k, e, n, b, l⟩ out a = o1 at *
      obtain ⟨⟨p1, p2⟩, p3⟩ := placeE_lay (maxD l) (maxP l) l (fun x hx => maxP_le hx) o1 (out.length + 1) (by omega) (elW_of (fun j hj => by
        rw [show out.length + 1 + j = out.length + (j + 1) by omega, hnew]
        rfl) (by omega))
      generalize placeE (maxD l) (maxP l) l o1 (out.length + 1) = o2 at *
      refine ⟨⟨by omega, fun i h1 h2 => (p2 i (by omega) (by omega)).trans (hold i h1 (by omega))⟩, ?_⟩
      have hpa : wd o2 a = ptrW ⟨k, e, n, b, l⟩ ((out.length : Int) - a - 1) := (p2 a (by omega) (by omega)).trans hp
      unfold ptrW at hpa
      rw [if_neg hk1, if_pos he7] at hpa
      refine ⟨hpa, by omega, ?_, ?_⟩
      · rw [p2 _ (by omega) (by omega)]
        have := hnew 0
        rw [Nat.add_zero] at this
        rw [this]
        rfl
      · rw [show out.length + 1 + l.length * (maxD l + maxP l) = o1.length by omega]
        exact p3
    rw [if_neg he7, if_neg he7]
    by_cases he6 : e = 6
    · rw [if_pos he6, if_pos he6]
      have hsh : shallowW ⟨k, e, n, b, l⟩ = List.replicate l.length 0 := by unfold shallowW; rw [if_neg hk1, if_neg he7, if_pos he6]
      have hln := putW_len ⟨k, e, n, b, l⟩ out a
      rw [hsh, List.length_replicate] at hln
      have hp := putW_ptr (n := ⟨k, e, n, b, l⟩) ha
      have hnew := fun i => putW_new (n := ⟨k, e, n, b, l⟩) (i := i) ha
      have hold := fun i h1 h2 => putW_old (n := ⟨k, e, n, b, l⟩) (out := out) (a := a) (i := i) h1 h2
      rw [hsh] at hnew
      generalize putW ⟨k, e, n, b, l⟩ out a = o1 at *
      obtain ⟨⟨p1, p2⟩, p3⟩ := places_lay l o1 out.length (by omega) (fun j hj => by rw [hnew, wd_rep])
      generalize placesW l o1 out.length = o2 at *
      refine ⟨⟨by omega, fun i h1 h2 => (p2 i (by omega) (by omega)).trans (hold i h1 (by omega))⟩, ?_⟩
      have hpa : wd o2 a = ptrW ⟨k, e, n, b, l⟩ ((out.length : Int) - a - 1) := (p2 a (by omega) (by omega)).trans hp
      unfold ptrW at hpa
      rw [if_neg hk1, if_neg he7, if_pos he6] at hpa
      refine ⟨hpa, by omega, ?_⟩
      rw [show out.length + l.length = o1.length by omega]
      exact p3
    rw [if_neg he6, if_neg he6]
    have hsh : shallowW ⟨k, e, n, b, l⟩ = wordsB (wordsE e n).toNat b := by unfold shallowW; rw [if_neg hk1, if_neg he7, if_neg he6]
    have hln := putW_len ⟨k, e, n, b, l⟩ out a
    rw [hsh, wordsB_len] at hln
    have hp := putW_ptr (n := ⟨k, e, n, b, l⟩) ha
    have hnew := fun i => putW_new (n := ⟨k, e, n, b, l⟩) (i := i) ha
    have hold := fun i h1 h2 => putW_old (n := ⟨k, e, n, b, l⟩) (out := out) (a := a) (i := i) h1 h2
    rw [hsh] at hnew
    generalize putW ⟨k, e, n, b, l⟩ out a = o1 at *
    refine ⟨⟨by omega, fun i h1 h2 => hold i h1 (by omega)⟩, ?_⟩
    unfold ptrW at hp
    rw [if_neg hk1, if_neg he7, if_neg he6] at hp
    refine ⟨hp, by omega, ?_, by omega⟩
    have := seg_eq (s := o1) (l := wordsB (wordsE e n).toNat b) (i := out.length) (fun j hj => hnew j) (by rw [wordsB_len]; omega)
    rwa [wordsB_len] at this
theorem places_lay : ∀ (l : List S37) (out : List Int) (a : Nat), a + l.length ≤ out.length → (∀ j, j < l.length → wd out (a + j) = 0) → Put out (placesW l out a) a l.length ∧ lays (placesW l out a) l a out.length (placesW l out a).length
  | [], out, a, _, _ => by
    unfold placesW lays
    exact ⟨⟨Nat.le_refl _, fun _ _ _ => rfl⟩, rfl⟩
  | x :: l, out, a, ha, hz => by
    rw [List.length_cons] at ha
    unfold placesW lays
    obtain ⟨⟨p1, p2⟩, p3⟩ := place_lay x out a (by omega) (by have := hz 0 (by simp); simpa using this)
    generalize placeW x out a = o1 at *
    obtain ⟨⟨q1, q2⟩, q3⟩ := places_lay l o1 (a + 1) (by omega) (fun j hj => by
      rw [p2 _ (by omega) (by omega), show a + 1 + j = a + (j + 1) by omega]
      exact hz (j + 1) (by simp; omega))
    generalize placesW l o1 (a + 1) = o2 at *
    refine ⟨⟨by omega, fun i h1 h2 => ?_⟩, o1.length, lay_local x a out.length o1.length p3 (q2 a (by omega) (by omega)).symm (fun i h1 h2 => (q2 i (by omega) (by omega)).symm) q1, q3⟩
    rw [List.length_cons] at h2
    exact (q2 i (by omega) (by omega)).trans (p2 i h1 (by omega))
theorem placeE_lay (A B : Nat) : ∀ (m : List S37) (hB : ∀ x ∈ m, x.f4.length ≤ B) (out : List Int) (at_ : Nat), at_ + m.length * (A + B) ≤ out.length → ElW out A B m at_ → Put out (placeE A B m out at_) at_ (m.length * (A + B)) ∧ layE (placeE A B m out at_) A B m at_ out.length (placeE A B m out at_).length
  | [], _, out, at_, _, _ => by
    unfold placeE layE
    exact ⟨⟨Nat.le_refl _, fun _ _ _ => rfl⟩, rfl⟩
  | ⟨k, e, n, b, l⟩ :: m, hB, out, at_, ha, hw => by
    obtain ⟨h1, h2, h3, h4⟩ := hw
    have hl := hB _ List.mem_cons_self
    dsimp only at hl h1
    rw [List.length_cons, Nat.add_mul, Nat.one_mul] at ha
    unfold placeE layE
    obtain ⟨⟨p1, p2⟩, p3⟩ := places_lay l out (at_ + A) (by omega) (fun j hj => h2 j (by omega))
    generalize placesW l out (at_ + A) = o1 at *
    obtain ⟨⟨q1, q2⟩, q3⟩ := placeE_lay A B m (fun x hx => hB x (List.mem_cons_of_mem _ hx)) o1 (at_ + (A + B)) (by omega) (h4.keep (fun i hi hi2 => p2 i hi2 (by omega)) p1)
    generalize placeE A B m o1 (at_ + (A + B)) = o2 at *
    rw [List.length_cons, Nat.add_mul, Nat.one_mul]
    refine ⟨⟨by omega, fun i g1 g2 => (q2 i (by omega) (by omega)).trans (p2 i g1 (by omega))⟩, ?_, fun j g1 g2 => ?_, o1.length, ?_, q3⟩
    · rw [← h1]
      exact (seg_local (s := out) (s' := o2) (fun i g1 g2 => ((q2 i (by omega) (by omega)).trans (p2 i (by omega) (by omega))).symm) (by omega) (by omega)).symm
    · exact ((q2 _ (by omega) (by omega)).trans (p2 _ (by omega) (by omega))).trans (h2 j g2)
    · exact lays_local l (at_ + A) out.length o1.length p3 (fun i g1 g2 => (q2 i (by omega) (by omega)).symm) (fun i g1 g2 => (q2 i (by omega) (by omega)).symm) q1
end
def writeW (n : S37) : List Int := placeW n [0] 0
theorem write_lay (n : S37) : 0 < (writeW n).length ∧ lay (writeW n) n 0 1 (writeW n).length := by
 obtain ⟨h1, h2⟩ := place_lay n [0] 0 (by simp) rfl
 exact ⟨Nat.lt_of_lt_of_le (by simp) h1.len, h2⟩
theorem lay_write {s : List Int} {n : S37} (h0 : 0 < s.length) : lay s n 0 1 s.length ↔ s = writeW n := by
 obtain ⟨h1, h2⟩ := write_lay n
 exact ⟨fun h => lay_same h h2 h0 h1, fun h => h ▸ h2⟩
end Go.Proofs.YtidglmocekghmaaDoor.Pr
end
section
namespace Go.Proofs.YtidglmocekghmaaDoor.Pr
open Go.RowKit Go.Proofs.YtidglmocekghmaaDoorW.PrintWords Go.Proofs.YtidglmocekghmaaDoorW.PrintLast Go.Proofs.YtidglmocekghmaaDoorW.PrintMore
set_option linter.unusedVariables false
set_option linter.unusedSimpArgs false
theorem off_any (o : Int) (w : World) (h0 : -536870912 ≤ o) (h1 : o ≤ 536870911) : Calls Tryd.prog 82 #[.int .i64 o] w fun e w' => e = .returned (.bool true) ∧ w' = w := by
 go_enter Tryd.func82, Tryd.ntmps82
 go_wp2
 go_ret
 exact ⟨rfl, rfl⟩
abbrev ptS (o d p : Int) : Value := .agg #[.int .i64 0, .int .i64 o, .int .i64 d, .int .i64 p, .int .i64 0, .int .i64 0, .bool false, .int .i64 0, .int .u32 0, .int .u32 0]
abbrev ptL (o e c : Int) : Value := .agg #[.int .i64 1, .int .i64 o, .int .i64 0, .int .i64 0, .int .i64 e, .int .i64 c, .bool false, .int .i64 0, .int .u32 0, .int .u32 0]
set_option maxRecDepth 100000 in
set_option maxHeartbeats 4000000 in
theorem valid_s (o d p : Int) (w : World) (h0 : -536870912 ≤ o) (h1 : o ≤ 536870911) (d0 : 0 ≤ d) (d1 : d ≤ 65535) (p0 : 0 ≤ p) (p1 : p ≤ 65535) : Calls Tryd.prog 71 #[ptS o d p] w fun e w' => e = .returned (.bool true) ∧ Below w.heap.size w w' := by
  have HO := fun w => Lib.hid (off_any o w h0 h1)
  have S := Sep.start w
  go_enter Tryd.func71, Tryd.ntmps71
  go_wp2_with (first | go_skip | ((with_reducible refine wl ?_); first | refine sn S (fun g w1 S => ?_) | refine ss S (fun w1 S => ?_) | refine sl S ?_ | refine sa S ?_) | ((with_reducible refine (HO _).out.mono ?_); rintro r' w' ⟨rfl, rfl⟩))
  exact rt S ⟨rfl, S.below⟩
set_option maxRecDepth 100000 in
set_option maxHeartbeats 4000000 in
theorem valid_l (o e c : Int) (w : World) (h0 : -536870912 ≤ o) (h1 : o ≤ 536870911) (e0 : 0 ≤ e) (e1 : e ≤ 7) (c0 : 0 ≤ c) (c1 : c ≤ 536870911) : Calls Tryd.prog 71 #[ptL o e c] w fun e w' => e = .returned (.bool true) ∧ Below w.heap.size w w' := by
  have HO := fun w => Lib.hid (off_any o w h0 h1)
  have S := Sep.start w
  go_enter Tryd.func71, Tryd.ntmps71
  go_wp2_with (first | go_skip | ((with_reducible refine wl ?_); first | refine sn S (fun g w1 S => ?_) | refine ss S (fun w1 S => ?_) | refine sl S ?_ | refine sa S ?_) | ((with_reducible refine (HO _).out.mono ?_); rintro r' w' ⟨rfl, rfl⟩))
  exact rt S ⟨rfl, S.below⟩
set_option maxRecDepth 100000 in
set_option maxHeartbeats 4000000 in
theorem encode_s (o d p : Int) (w : World) (h0 : -536870912 ≤ o) (h1 : o ≤ 536870911) (d0 : 0 ≤ d) (d1 : d ≤ 65535) (p0 : 0 ≤ p) (p1 : p ≤ 65535) : Calls Tryd.prog 49 #[ptS o d p] w fun r w' => r = .returned (.tuple #[.int .u64 (encS o d p), .bool true]) ∧ Below w.heap.size w w' := by
  have HV := fun w => Lib.hid (valid_s o d p w h0 h1 d0 d1 p0 p1)
  have S := Sep.start w
  by_cases hn : o < 0
  · obtain ⟨q, hq⟩ : ∃ q, o + 1073741824 = q := ⟨_, rfl⟩
    have HR : Hid (o % 1073741824 = q) := Lib.hid (by omega)
    have q0 : 0 ≤ q := by omega
    have q1 : q ≤ 1073741823 := by omega
    go_enter Tryd.func49, Tryd.ntmps49
    go_wp2_with (first | go_skip | ((with_reducible refine wl ?_); first | refine sn S (fun g w1 S => ?_) | refine ss S (fun w1 S => ?_) | refine sl S ?_ | refine sa S ?_) | ((with_reducible refine (HV _).out.mono ?_); rintro r' w' ⟨rfl, hb⟩; replace S := S.call hb))
    refine rt S ⟨?_, S.below⟩
    have HE : encS o d p = 4 * q + 4294967296 * d + 281474976710656 * p := by unfold encS; rw [HR.out]; omega
    rw [HE]
    rfl
  · have HR : Hid (o % 1073741824 = o) := Lib.hid (by omega)
    have q0 : 0 ≤ o := by omega
    go_enter Tryd.func49, Tryd.ntmps49
    go_wp2_with (first | go_skip | ((with_reducible refine wl ?_); first | refine sn S (fun g w1 S => ?_) | refine ss S (fun w1 S => ?_) | refine sl S ?_ | refine sa S ?_) | ((with_reducible refine (HV _).out.mono ?_); rintro r' w' ⟨rfl, hb⟩; replace S := S.call hb))
    refine rt S ⟨?_, S.below⟩
    have HE : encS o d p = 4 * o + 4294967296 * d + 281474976710656 * p := by unfold encS; rw [HR.out]; omega
    rw [HE]
    rfl
set_option maxRecDepth 100000 in
set_option maxHeartbeats 4000000 in
theorem encode_l (o e c : Int) (w : World) (h0 : -536870912 ≤ o) (h1 : o ≤ 536870911) (e0 : 0 ≤ e) (e1 : e ≤ 7) (c0 : 0 ≤ c) (c1 : c ≤ 536870911) : Calls Tryd.prog 49 #[ptL o e c] w fun r w' => r = .returned (.tuple #[.int .u64 (encL o e c), .bool true]) ∧ Below w.heap.size w w' := by
  have HV := fun w => Lib.hid (valid_l o e c w h0 h1 e0 e1 c0 c1)
  have S := Sep.start w
  by_cases hn : o < 0
  · obtain ⟨q, hq⟩ : ∃ q, o + 1073741824 = q := ⟨_, rfl⟩
    have HR : Hid (o % 1073741824 = q) := Lib.hid (by omega)
    have q0 : 0 ≤ q := by omega
    have q1 : q ≤ 1073741823 := by omega
    go_enter Tryd.func49, Tryd.ntmps49
    go_wp2_with (first | go_skip | ((with_reducible refine wl ?_); first | refine sn S (fun g w1 S => ?_) | refine ss S (fun w1 S => ?_) | refine sl S ?_ | refine sa S ?_) | ((with_reducible refine (HV _).out.mono ?_); rintro r' w' ⟨rfl, hb⟩; replace S := S.call hb))
    refine rt S ⟨?_, S.below⟩
    have HE : encL o e c = 1 + 4 * q + 4294967296 * e + 34359738368 * c := by unfold encL; rw [HR.out]; omega
    rw [HE]
    rfl
  · have HR : Hid (o % 1073741824 = o) := Lib.hid (by omega)
    have q0 : 0 ≤ o := by omega
    go_enter Tryd.func49, Tryd.ntmps49
    go_wp2_with (first | go_skip | ((with_reducible refine wl ?_); first | refine sn S (fun g w1 S => ?_) | refine ss S (fun w1 S => ?_) | refine sl S ?_ | refine sa S ?_) | ((with_reducible refine (HV _).out.mono ?_); rintro r' w' ⟨rfl, hb⟩; replace S := S.call hb))
    refine rt S ⟨?_, S.below⟩
    have HE : encL o e c = 1 + 4 * o + 4294967296 * e + 34359738368 * c := by unfold encL; rw [HR.out]; omega
    rw [HE]
    rfl
end Go.Proofs.YtidglmocekghmaaDoor.Pr
end
section
namespace Go.Proofs.YtidglmocekghmaaDoor.Pr
open Go.RowKit Go.Proofs.YtidglmocekghmaaDoorW.PrintWords Go.Proofs.YtidglmocekghmaaDoorW.PrintLast Go.Proofs.YtidglmocekghmaaDoorW.PrintMore
set_option linter.unusedVariables false
set_option linter.unusedSimpArgs false
def atS (q n : Nat) : List Int := (List.range n).map fun i => ((q + i : Nat) : Int)
theorem atS_succ (q n : Nat) : atS q (n + 1) = atS q n ++ [((q + n : Nat) : Int)] := by simp [atS, List.range_succ]
theorem atS_len (q n : Nat) : (atS q n).length = n := by simp [atS]
def atE (A B : Nat) : List S37 → Nat → List Int
 | [], _ => []
 | x :: l, q => atS (q + A) x.f4.length ++ atE A B l (q + (A + B))
def atW (n : S37) : List Int :=
 if n.f0 = 1 then atS (n.f3.length / 8) n.f4.length
 else if n.f1 = 7 then atE (maxD n.f4) (maxP n.f4) n.f4 1
 else atS 0 n.f4.length
def ptrV (n : S37) : Value :=
 if n.f0 = 1 then ptS 0 (n.f3.length / 8 : Nat) n.f4.length
 else if n.f1 = 7 then ptL 0 7 (n.f4.length * (maxD n.f4 + maxP n.f4) : Nat)
 else ptL 0 n.f1 n.f2
def ShV (w : World) (n : S37) (r : Ending) (w' : World) : Prop := ∃ A1 c1 A2 c2, r = .returned (.tuple #[.slice A1 (shallowW n).length c1, ptrV n, .slice A2 (atW n).length c2]) ∧ (Kd.int .u64).C w' A1 (shallowW n).length (shallowW n) ∧ (Kd.int .i64).C w' A2 (atW n).length (atW n) ∧ Below w.heap.size w w'
set_option maxRecDepth 100000 in
set_option maxHeartbeats 4000000 in
theorem shallow_s (n : S37) (A3 A4 : Option Addr) (c3 c4 : Nat) (w : World) (h : k37.K w n (ndC n A3 c3 A4 c4)) (h1 : n.f0 = 1) (hb : ∀ x ∈ n.f3, 0 ≤ x ∧ x < 256) (h8 : n.f3.length % 8 = 0) (hd : n.f3.length / 8 ≤ 65535) (hp : n.f4.length ≤ 65535) :
    Calls Tryd.prog 48 #[ndV n A3 c3 A4 c4] w (ShV w n) := by
  obtain ⟨-, g3, -, -⟩ := K_C3 h
  have S := Sep.start w
  have hW : shallowW n = wordsB (n.f3.length / 8) n.f3 ++ List.replicate n.f4.length 0 := by unfold shallowW; rw [if_pos h1]
  have hA : atW n = atS (n.f3.length / 8) n.f4.length := by unfold atW; rw [if_pos h1]
  have hP : ptrV n = ptS 0 (n.f3.length / 8 : Nat) n.f4.length := by unfold ptrV; rw [if_pos h1]
  unfold ShV
  rw [hW, hA, hP]
  have HPD := fun w' (hw : Below w.heap.size w w') => Lib.hid (padded_any A3 c3 n.f3 (n.f3.length / 8) w' (Kd.C_below g3 hw) hb (by omega) (by omega))
  have HL := Lib.hid (wordsB_len (n.f3.length / 8) n.f3)
  obtain ⟨f0, f1, f2, f3, l⟩ := n
  dsimp only [ndV] at *
  generalize wordsB (f3.length / 8) f3 = D at *
  obtain ⟨m3, hm3⟩ : ∃ m, f3.length = m := ⟨_, rfl⟩
  obtain ⟨d, hd2⟩ : ∃ d, m3 / 8 = d := ⟨_, rfl⟩
  obtain ⟨m, hm⟩ : ∃ m, l.length = m := ⟨_, rfl⟩
  rw [hm3] at HPD HL hd h8 ⊢
  rw [hd2] at HPD HL hd ⊢
  rw [hm] at hp ⊢
  have hq : ((m3 : Int) / 8) = (d : Int) := by omega
  have b3 : m3 ≤ 524280 := by omega
  subst h1
  clear hW hA hP g3 h hm hm3 hb h8 hd2
  go_enter Tryd.func48, Tryd.ntmps48
  go_wp2_with (first | go_skip | ((with_reducible refine wl ?_); first | (refine sn S (fun g w1 S => ?_); first | ((fail_if_success (have := gn)); revert g; intro gn S) | ((fail_if_success (have := gr)); revert g; intro gr S) | ((fail_if_success (have := gp)); revert g; intro gp S)) | refine ss S (fun w1 S => ?_) | refine sl S ?_ | refine sa S ?_) | ((with_reducible refine (HPD _ S.below).out.mono ?_); rintro r w' ⟨v, rfl, hR, hb⟩; replace S := S.push (a := .row (Kd.int .u64) 32 _ D) hb hR))
  have S := Lib.hid (S.nil (Kd.int .i64) 3)
  go_loopw [6, 7, 8] (fun va vw k wr => ∃ (j : Nat), j ≤ m ∧ k = .int .i64 j ∧ Hid (Sep w wr [.row (Kd.int .i64) 3 va (atS d j), .row (Kd.int .u64) 32 vw (D ++ List.replicate j 0), .box gp #[.int .i64 0, .int .i64 0, .int .i64 d, .int .i64 m, .int .i64 0, .int .i64 0, .bool false, .int .i64 0, .int .u32 0, .int .u32 0] 67, .box gr #[.int .i64 0, .int .i64 0, .int .i64 0, .int .i64 0, .int .i64 0, .int .i64 0, .bool false, .int .i64 0, .int .u32 0, .int .u32 0] 67, .box gn #[.int .i64 1, .int .i64 f1, .int .i64 f2, .slice A3 m3 c3, .slice A4 m c4] 37])) (fun _ _ k _ => m - (intOf k).toNat)
  case atStart => exact ⟨0, Nat.zero_le _, rfl, by simpa [atS] using S⟩
  case round =>
    clear S
    obtain ⟨j, hj, rfl, S⟩ := hrel
    have S := S.out
    obtain ⟨A5, n5, c5, rfl, h5⟩ := R_sl (S.outR .here)
    obtain ⟨A6, n6, c6, rfl, h6⟩ := R_sl (S.outR (.there .here))
    have H6 : Hid (n6 = d + j) := Lib.hid (by rw [h6.out, List.length_append, HL.out, List.length_replicate])
    by_cases hjl : j < m
    · have HX : Hid (D ++ List.replicate (j + 1) 0 = D ++ List.replicate j 0 ++ [0]) := Lib.hid (by rw [List.replicate_succ', List.append_assoc])
      have HY : Hid (atS d (j + 1) = atS d j ++ [(n6 : Int)]) := Lib.hid (by rw [atS_succ, H6.out])
      have HB5 : Hid ((atS d j).length ≤ 65535) := Lib.hid (by rw [atS_len]; omega)
      have HB6 : Hid ((D ++ List.replicate j 0).length ≤ 200000) := Lib.hid (by rw [← h6.out, H6.out]; omega)
      clear h5 h6
      go_wp2_with (first | go_skip | ((with_reducible refine wl ?_); first | refine sl S ?_) | ((with_reducible refine gate_builtin (b := .append) (xs := #[.tmp 41, .tmp 44]) rfl ?_); at_builtin; refine sp_append (p := (n6 : Int)) ((S.one (Value.int .i64) (fun _ => rfl) (n6 : Int)).swap) rfl rfl Tryd.underlying83 info3 rfl (by decide) (by omega) rfl rfl (by have := HB5.out; omega) (fun v1 w1 S => ?_); replace S := S.swap) | ((with_reducible refine gate_builtin (b := .append) (xs := #[.tmp 46, .tmp 47]) rfl ?_); at_builtin; refine sp_append (p := (0 : Int)) ((S.one (Value.int .u64) (fun _ => rfl) (0 : Int)).swap) rfl rfl Tryd.underlying22 info32 rfl (by decide) (by omega) rfl rfl (by have := HB6.out; omega) (fun v1 w1 S => ?_); replace S := S.swap))
      go_roundw
      case rel => exact ⟨j + 1, by omega, by go_num, by rw [HX.out, HY.out]; exact Lib.hid S⟩
      case measure => simp [intOf]; omega
    · obtain rfl : j = m := by omega
      go_wp2_with (first | go_skip | ((with_reducible refine wl ?_); first | refine sl S ?_))
      refine rs [2] S (fun w1 S => ?_)
      refine pu 0 49 ?_
      refine lt 1 S ?_
      refine pu 2 51 ?_
      refine pu 3 2 ?_
      refine ls 4 S (fun w2 S => ?_)
      refine pu 5 4 ?_
      refine dn ?_
      go_wp2
      have q6 := R_C (S.outR (.there .here))
      have q5 := R_C (S.outR .here)
      have e5 := h5.out
      have e6 := h6.out
      subst e5 e6
      exact rt S ⟨_, _, _, _, rfl, q6, q5, S.below⟩
end Go.Proofs.YtidglmocekghmaaDoor.Pr
end
section
namespace Go.Proofs.YtidglmocekghmaaDoor.Pr
open Go.RowKit Go.Proofs.YtidglmocekghmaaDoorW.PrintWords Go.Proofs.YtidglmocekghmaaDoorW.PrintLast Go.Proofs.YtidglmocekghmaaDoorW.PrintMore
set_option linter.unusedVariables false
set_option linter.unusedSimpArgs false
theorem wordB_nil : wordB [] = 0 := by rfl
theorem wordsB_nil : ∀ n, wordsB n [] = List.replicate n 0
 | 0 => rfl
 | n + 1 => by rw [wordsB, List.take_nil, List.drop_nil, wordsB_nil n, wordB_nil, List.replicate_succ]
theorem wordsE_le (e c : Int) (c0 : 0 ≤ c) (c1 : c ≤ 536870911) : 0 ≤ wordsE e c ∧ wordsE e c ≤ 536870912 := wordsE_bd e c c0 c1
set_option maxRecDepth 100000 in
set_option maxHeartbeats 4000000 in
theorem shallow_l (n : S37) (A3 A4 : Option Addr) (c3 c4 : Nat) (w : World) (h : k37.K w n (ndC n A3 c3 A4 c4)) (h0 : n.f0 = 2) (h1 : n.f1 ≠ 7) (hb : ∀ x ∈ n.f3, 0 ≤ x ∧ x < 256) (c0 : 0 ≤ n.f2) (c1 : n.f2 ≤ 536870911)
    (h3 : n.f3.length ≤ 8 * (wordsE n.f1 n.f2).toNat) (h6 : n.f1 = 6 → n.f3 = [] ∧ (n.f4.length : Int) = n.f2) (hk : n.f4.length ≤ 536870911) :
    Calls Tryd.prog 48 #[ndV n A3 c3 A4 c4] w (ShV w n) := by
  obtain ⟨-, g3, -, -⟩ := K_C3 h
  have S := Sep.start w
  have hbd := wordsE_le n.f1 n.f2 c0 c1
  have hW : shallowW n = wordsB (wordsE n.f1 n.f2).toNat n.f3 := by
    unfold shallowW
    rw [if_neg (by omega), if_neg h1]
    by_cases e6 : n.f1 = 6
    · obtain ⟨q1, q2⟩ := h6 e6
      rw [if_pos e6, q1, wordsB_nil, e6, ← q2]
      congr 1
      unfold wordsE bitsE
      simp
      omega
    · rw [if_neg e6]
  have hA : atW n = atS 0 n.f4.length := by unfold atW; rw [if_neg (by omega), if_neg h1]
  have hP : ptrV n = ptL 0 n.f1 n.f2 := by unfold ptrV; rw [if_neg (by omega), if_neg h1]
  unfold ShV
  rw [hW, hA, hP]
  have HO := fun w' => Lib.hid (obj13_any n A3 A4 c3 c4 w' h0 h1 c0 c1)
  have HPD := fun w' (hw : Below w.heap.size w w') => Lib.hid (padded_any A3 c3 n.f3 (wordsE n.f1 n.f2).toNat w' (Kd.C_below g3 hw) hb (by omega) h3)
  rw [Int.toNat_of_nonneg hbd.1] at HPD
  generalize wordsE n.f1 n.f2 = z at *
  have HL := Lib.hid (wordsB_len z.toNat n.f3)
  obtain ⟨f0, f1, f2, f3, l⟩ := n
  dsimp only [ndV] at *
  generalize wordsB z.toNat f3 = D at *
  obtain ⟨m3, hm3⟩ : ∃ m, f3.length = m := ⟨_, rfl⟩
  obtain ⟨m, hm⟩ : ∃ m, l.length = m := ⟨_, rfl⟩
  rw [hm3] at HPD HO ⊢
  rw [hm] at HO hk ⊢
  subst h0
  have t1 : (f1 != 7) = true := bne_iff_ne.2 h1
  clear hW hA hP g3 h hm hm3 hb h1 h3 h6 hbd c0 c1
  go_enter Tryd.func48, Tryd.ntmps48
  go_wp2_with (first | go_skip | ((with_reducible refine wl ?_); first | (refine sn S (fun g w1 S => ?_); first | ((fail_if_success (have := gn)); revert g; intro gn S) | ((fail_if_success (have := gr)); revert g; intro gr S) | ((fail_if_success (have := gp)); revert g; intro gp S)) | refine ss S (fun w1 S => ?_) | refine sl S ?_ | refine sa S ?_))
  refine rs [2] S (fun w1 S => ?_)
  refine pu 0 62 ?_
  refine lt 1 S ?_
  refine lt 2 S ?_
  refine lc 3 65 Tryd.func69 (HO _).out (fun r' w2 hT => ?_)
  obtain ⟨rfl, hb⟩ := hT
  replace S := S.call hb
  refine ⟨_, rfl, S.kpq 0, _, rfl, ?_⟩
  simp only [Act.put, List.setIfInBounds_toArray, List.set_cons_zero, List.set_cons_succ]
  refine lc 4 66 Tryd.func68 (HPD _ S.below).out (fun r' w2 hT => ?_)
  obtain ⟨v, rfl, hR, hb⟩ := hT
  replace S := S.push (a := .row (Kd.int .u64) 32 _ D) hb hR
  refine ⟨_, rfl, S.kpq 1, _, rfl, ?_⟩
  simp only [Act.put, List.setIfInBounds_toArray, List.set_cons_zero, List.set_cons_succ]
  refine pu 5 9 ?_
  refine dn ?_
  go_wp2
  clear t1
  simp only [List.getElem_toArray, List.getElem_cons_zero, List.getElem_cons_succ]
  have S := Lib.hid (S.nil (Kd.int .i64) 3)
  go_loopw [6, 10] (fun va k wr => ∃ (j : Nat), j ≤ m ∧ k = .int .i64 j ∧ Hid (Sep w wr [.row (Kd.int .i64) 3 va (atS 0 j), .row (Kd.int .u64) 32 v D, .box gp #[.int .i64 1, .int .i64 0, .int .i64 0, .int .i64 0, .int .i64 f1, .int .i64 f2, .bool false, .int .i64 0, .int .u32 0, .int .u32 0] 67, .box gr #[.int .i64 0, .int .i64 0, .int .i64 0, .int .i64 0, .int .i64 0, .int .i64 0, .bool false, .int .i64 0, .int .u32 0, .int .u32 0] 67, .box gn #[.int .i64 2, .int .i64 f1, .int .i64 f2, .slice A3 m3 c3, .slice A4 m c4] 37])) (fun _ k _ => m - (intOf k).toNat)
  case atStart => exact ⟨0, Nat.zero_le _, rfl, by simpa [atS] using S⟩
  case round =>
    clear S
    obtain ⟨j, hj, rfl, S⟩ := hrel
    have S := S.out
    obtain ⟨A5, n5, c5, rfl, h5⟩ := R_sl (S.outR .here)
    obtain ⟨A6, n6, c6, rfl, h6⟩ := R_sl (S.outR (.there .here))
    by_cases hjl : j < m
    · have HY : Hid (atS 0 (j + 1) = atS 0 j ++ [(j : Int)]) := Lib.hid (by rw [atS_succ, Nat.zero_add])
      have HB5 : Hid ((atS 0 j).length ≤ 536870911) := Lib.hid (by rw [atS_len]; omega)
      clear h5 h6
      go_wp2_with (first | go_skip | ((with_reducible refine wl ?_); first | refine sl S ?_) | ((with_reducible refine gate_builtin (b := .append) (xs := #[.tmp 74, .tmp 76]) rfl ?_); at_builtin; refine sp_append (p := (j : Int)) ((S.one (Value.int .i64) (fun _ => rfl) (j : Int)).swap) rfl rfl Tryd.underlying83 info3 rfl (by decide) (by omega) rfl rfl (by have := HB5.out; omega) (fun v1 w1 S => ?_)))
      go_roundw
      case rel => exact ⟨j + 1, by omega, by go_num, by rw [HY.out]; exact Lib.hid S⟩
      case measure => simp [intOf]; omega
    · obtain rfl : j = m := by omega
      go_wp2_with (first | go_skip | ((with_reducible refine wl ?_); first | refine sl S ?_))
      refine rs [2] S (fun w1 S => ?_)
      refine pu 0 78 ?_
      refine lt 1 S ?_
      refine pu 2 80 ?_
      refine pu 3 2 ?_
      refine ls 4 S (fun w2 S => ?_)
      refine pu 5 4 ?_
      refine dn ?_
      go_wp2
      have q6 := R_C (S.outR (.there .here))
      have q5 := R_C (S.outR .here)
      have e5 := h5.out
      have e6 := h6.out
      subst e5 e6
      exact rt S ⟨_, _, _, _, rfl, q6, q5, S.below⟩
end Go.Proofs.YtidglmocekghmaaDoor.Pr
end
section
namespace Go.Proofs.YtidglmocekghmaaDoor.Pr
open Go.RowKit Go.Proofs.YtidglmocekghmaaDoorW.PrintWords Go.Proofs.YtidglmocekghmaaDoorW.PrintLast Go.Proofs.YtidglmocekghmaaDoorW.PrintMore
set_option linter.unusedVariables false
set_option linter.unusedSimpArgs false
theorem shallowE_snoc (A B : Nat) (x : S37) : ∀ l : List S37, shallowE A B (l ++ [x]) = shallowE A B l ++ (wordsB A x.f3 ++ List.replicate B 0)
 | [] => by simp [shallowE]
 | y :: l => by rw [List.cons_append, shallowE, shallowE_snoc A B x l, shallowE]; simp only [List.append_assoc]
theorem atE_snoc (A B : Nat) (x : S37) : ∀ (l : List S37) (q : Nat), atE A B (l ++ [x]) q = atE A B l q ++ atS (q + l.length * (A + B) + A) x.f4.length
 | [], q => by simp [atE]
 | y :: l, q => by rw [List.cons_append, atE, atE_snoc A B x l, atE, List.append_assoc, List.length_cons, Nat.add_mul, Nat.one_mul, show q + (A + B) + l.length * (A + B) + A = q + (l.length * (A + B) + (A + B)) + A by omega]
theorem atE_len (A B : Nat) : ∀ (l : List S37) (q : Nat), (∀ x ∈ l, x.f4.length ≤ B) → (atE A B l q).length ≤ l.length * (A + B)
 | [], q, _ => by simp [atE]
 | y :: l, q, h => by
  have h1 := atE_len A B l (q + (A + B)) (fun x hx => h x (List.mem_cons_of_mem _ hx))
  have h2 := h y List.mem_cons_self
  rw [atE, List.length_append, atS_len, List.length_cons, Nat.add_mul, Nat.one_mul]
  omega
theorem maxD_le {l : List S37} {x : S37} (hx : x ∈ l) : x.f3.length / 8 ≤ maxD l := by
 induction l with
 | nil => cases hx
 | cons y l ih =>
  unfold maxD
  rcases List.mem_cons.1 hx with rfl | hx
  ·omega
  ·have := ih hx; omega
structure ShR (l : List S37) (A B : Nat) (tag : Int) (j : Nat) (W : List Int) (P : List Int) (Wn Pn D : List Int) (q4 : Nat) : Prop where
 w : W = tag :: shallowE A B (l.take j)
 p : P = atE A B (l.take j) 1
 wn : Wn = W ++ (D ++ List.replicate B 0)
 pn : Pn = P ++ atS (W.length + A) q4
 dl : D.length = A
 q : q4 ≤ B
 wl : W.length + (A + B) ≤ 536870912
 pl : P.length + B ≤ 536870912
theorem shR {l : List S37} {A B : Nat} {tag : Int} (hA : ∀ x ∈ l, x.f3.length / 8 ≤ A) (hB : ∀ x ∈ l, x.f4.length ≤ B) (hm : l.length * (A + B) ≤ 536870911) (j : Nat) (x : S37) (hx : l[j]? = some x) :
  ShR l A B tag j (tag :: shallowE A B (l.take j)) (atE A B (l.take j) 1) (tag :: shallowE A B (l.take (j + 1))) (atE A B (l.take (j + 1)) 1) (wordsB A x.f3) x.f4.length := by
 obtain ⟨hj, rfl⟩ := List.getElem?_eq_some_iff.1 hx
 have h1 : (l.take j).length = j := by rw [List.length_take]; omega
 have h2 : (j + 1) * (A + B) ≤ l.length * (A + B) := Nat.mul_le_mul_right _ hj
 rw [Nat.add_mul, Nat.one_mul] at h2
 have h3 := shallowE_len A B (l.take j)
 rw [h1] at h3
 have h4 := atE_len A B (l.take j) 1 (fun x hx => hB x (List.mem_of_mem_take hx))
 rw [h1] at h4
 refine ⟨rfl, rfl, ?_, ?_, wordsB_len _ _, hB _ (List.getElem_mem hj), ?_, by omega⟩
 ·rw [take_snoc l j hj, shallowE_snoc]; rfl
 ·rw [take_snoc l j hj, atE_snoc, h1, List.length_cons, h3, show j * (A + B) + 1 = 1 + j * (A + B) by omega]
 ·rw [List.length_cons, h3]; omega
set_option maxRecDepth 100000 in
set_option maxHeartbeats 4000000 in
theorem shallow_c (n : S37) (A3 A4 : Option Addr) (c3 c4 : Nat) (w : World) (h : k37.K w n (ndC n A3 c3 A4 c4)) (h0 : n.f0 = 2) (h1 : n.f1 = 7) (hb : ∀ x ∈ n.f4, (∀ y ∈ x.f3, 0 ≤ y ∧ y < 256) ∧ x.f3.length % 8 = 0) (hn : n.f2 = n.f4.length) (hk : n.f4.length ≤ 536870911)
    (hA : maxD n.f4 ≤ 65535) (hB : maxP n.f4 ≤ 65535) (hm : n.f4.length * (maxD n.f4 + maxP n.f4) ≤ 536870911) :
    Calls Tryd.prog 48 #[ndV n A3 c3 A4 c4] w (ShV w n) := by
  obtain ⟨-, -, -, g4⟩ := K_C3 h
  have S := Sep.start w
  have hW : shallowW n = encS n.f4.length (maxD n.f4) (maxP n.f4) :: shallowE (maxD n.f4) (maxP n.f4) n.f4 := by unfold shallowW; rw [if_neg (by omega), if_pos h1]
  have hAt : atW n = atE (maxD n.f4) (maxP n.f4) n.f4 1 := by unfold atW; rw [if_neg (by omega), if_pos h1]
  have hP : ptrV n = ptL 0 7 (n.f4.length * (maxD n.f4 + maxP n.f4) : Nat) := by unfold ptrV; rw [if_neg (by omega), if_pos h1]
  unfold ShV
  rw [hW, hAt, hP]
  have HU := fun w' (hw : Below w.heap.size w w') => Lib.hid (uniform_any n A3 A4 c3 c4 w' (k37.K_below (below_step (Below.refl _ _) (hw.mono (Nat.le_refl _))) h))
  have HE := fun w' => Lib.hid (encode_s n.f4.length (maxD n.f4) (maxP n.f4) w' (by omega) (by omega) (by omega) (by omega) (by omega) (by omega))
  have HR := Lib.hid (fun j x hj => shR (tag := encS n.f4.length (maxD n.f4) (maxP n.f4)) (fun x hx => maxD_le (l := n.f4) hx) (fun x hx => maxP_le hx) hm j x hj)
  have HK := Lib.hid (fun i hi => kid_at g4 i hi)
  have HX : Hid (∀ i (hi : i < n.f4.length), (∀ y ∈ n.f4[i].f3, 0 ≤ y ∧ y < 256) ∧ n.f4[i].f3.length ≤ 8 * maxD n.f4) := Lib.hid (fun i hi => by
    have h2 := List.getElem_mem hi
    have h3 := maxD_le h2
    have h4 := hb _ h2
    exact ⟨h4.1, by omega⟩)
  have HF : Hid (encS n.f4.length (maxD n.f4) (maxP n.f4) :: shallowE (maxD n.f4) (maxP n.f4) (n.f4.take n.f4.length) = encS n.f4.length (maxD n.f4) (maxP n.f4) :: shallowE (maxD n.f4) (maxP n.f4) n.f4 ∧ atE (maxD n.f4) (maxP n.f4) (n.f4.take n.f4.length) 1 = atE (maxD n.f4) (maxP n.f4) n.f4 1 ∧ (encS n.f4.length (maxD n.f4) (maxP n.f4) :: shallowE (maxD n.f4) (maxP n.f4) n.f4).length = n.f4.length * (maxD n.f4 + maxP n.f4) + 1) := Lib.hid ⟨by rw [List.take_length], by rw [List.take_length], by rw [List.length_cons, shallowE_len]⟩
  obtain ⟨f0, f1, f2, f3, l⟩ := n
  dsimp only [ndV] at *
  subst h0 h1 hn
  generalize maxD l = A at *
  generalize maxP l = B at *
  generalize f3.length = m3 at *
  obtain ⟨m, hmm⟩ : ∃ m, l.length = m := ⟨_, rfl⟩
  rw [hmm] at HU HE HF hk hm HR ⊢
  have HH := Lib.hid hmm
  generalize encS m A B = tag at *
  obtain ⟨Z, hZ⟩ : ∃ Z, m * (A + B) = Z := ⟨_, rfl⟩
  rw [hZ] at HF hm ⊢
  clear hW hAt hP g4 h hmm hb hZ
  go_enter Tryd.func48, Tryd.ntmps48
  go_wp2_with (first | go_skip | ((with_reducible refine wl ?_); first | (refine sn S (fun g w1 S => ?_); first | ((fail_if_success (have := gn)); revert g; intro gn S) | ((fail_if_success (have := gr)); revert g; intro gr S) | ((fail_if_success (have := gp)); revert g; intro gp S)) | refine ss S (fun w1 S => ?_) | refine sl S ?_ | refine sa S ?_) | ((with_reducible refine (HU _ S.below).out.mono ?_); rintro r w' ⟨rfl, hb⟩; replace S := S.call hb) | ((with_reducible refine (HE _).out.mono ?_); rintro r w' ⟨rfl, hb⟩; replace S := S.call hb) | ((with_reducible refine gate_dst (N := 96) rfl ?_); refine sp_lit (Kd.int .u64) 32 (N := 96) rfl rfl S [tag] [.int .u64 tag] ?hr ?hp (by simp) (fun g w1 S => ?_); (case hr => first | (go_simp; done) | (go_simp; rfl)); (case hp => exact Reps.snoc (Reps.none _ _) rfl rfl)))
  have S := Lib.hid (S.nil (Kd.int .i64) 3)
  go_loopw [6, 15, 16] (fun va vw k wr => ∃ (j : Nat), j ≤ m ∧ k = .int .i64 j ∧ Hid (Sep w wr [.row (Kd.int .i64) 3 va (atE A B (l.take j) 1), .row (Kd.int .u64) 32 vw (tag :: shallowE A B (l.take j)), .box gp #[.int .i64 1, .int .i64 0, .int .i64 0, .int .i64 0, .int .i64 7, .int .i64 m, .bool false, .int .i64 0, .int .u32 0, .int .u32 0] 67, .box gr #[.int .i64 0, .int .i64 0, .int .i64 0, .int .i64 0, .int .i64 0, .int .i64 0, .bool false, .int .i64 0, .int .u32 0, .int .u32 0] 67, .box gn #[.int .i64 2, .int .i64 7, .int .i64 m, .slice A3 m3 c3, .slice A4 m c4] 37])) (fun _ _ k _ => m - (intOf k).toNat)
  case atStart => exact ⟨0, Nat.zero_le _, rfl, by simpa [atE, shallowE] using S⟩
  case round =>
    clear S
    obtain ⟨j, hj, rfl, S⟩ := hrel
    have S := S.out
    obtain ⟨A5, n5, c5, rfl, h5⟩ := R_sl (S.outR .here)
    obtain ⟨A6, n6, c6, rfl, h6⟩ := R_sl (S.outR (.there .here))
    by_cases hjl : j < m
    · obtain ⟨ad, B3, d3, B4, d4, rfl, hN⟩ := HK.out j (by rw [HH.out]; exact hjl)
      have hR := HR.out j _ (List.getElem?_eq_getElem (by rw [HH.out]; exact hjl))
      obtain ⟨x1, x2⟩ := HX.out j (by rw [HH.out]; exact hjl)
      have hv3 := hN.h3
      have hv4 := hN.h4
      have b3 := hN.g3.2.1
      have HPD := fun w' (hw : Below w.heap.size w w') => Lib.hid (padded_any B3 d3 _ A w' (Kd.C_below hN.g3 hw) x1 (by omega) x2)
      obtain ⟨x, hx⟩ : ∃ x, l[j]'(by rw [HH.out]; exact hjl) = x := ⟨_, rfl⟩
      rw [hx] at hv3 hv4 b3 HPD x2
      rw [hx] at hR
      obtain ⟨Wn, hWn⟩ : ∃ X, tag :: shallowE A B (l.take (j + 1)) = X := ⟨_, rfl⟩
      obtain ⟨Pn, hPn⟩ : ∃ X, atE A B (l.take (j + 1)) 1 = X := ⟨_, rfl⟩
      rw [hWn, hPn] at hR
      have HN := Lib.hid hR
      have HWn := Lib.hid hWn
      have HPn := Lib.hid hPn
      clear hx hR hN x1 hWn hPn
      generalize tag :: shallowE A B (l.take j) = Wj at *
      generalize atE A B (l.take j) 1 = Pj at *
      generalize wordsB A x.f3 = D at *
      generalize x.f3.length = q3 at *
      generalize x.f4.length = q4 at *
      go_wp2_with (first | go_skip | ((with_reducible refine wl ?_); first | refine sl S ?_ | refine sx S hv3 ?_ | refine sx S hv4 ?_) | ((with_reducible refine (HPD _ S.below).out.mono ?_); rintro r w' ⟨v, rfl, hR, hb⟩; obtain ⟨A7, c7, rfl⟩ := Kd.R_slice hR; replace S := S.call hb; have HC7 := Lib.hid (R_C hR)) | ((with_reducible refine gate_builtin (b := .append) (xs := #[.tmp 104, .tmp 112]) rfl ?_); at_builtin; refine sp_rows S.swap rfl rfl Tryd.underlying22 info32 rfl (by decide) (by omega) rfl rfl HC7.out (fun _ _ h => h) (by have := HN.out.wl; have := HN.out.dl; omega) (fun v1 w1 S => ?_)))
      have S := Lib.hid S.swap
      go_loopw [6, 15, 17] (fun va vw k wr => ∃ (i : Nat), i ≤ B ∧ k = .int .i64 i ∧ Hid (Sep w wr [.row (Kd.int .i64) 3 va (Pj ++ atS (Wj.length + A) (min i q4)), .row (Kd.int .u64) 32 vw (Wj ++ D ++ List.replicate i 0), .box gp #[.int .i64 1, .int .i64 0, .int .i64 0, .int .i64 0, .int .i64 7, .int .i64 m, .bool false, .int .i64 0, .int .u32 0, .int .u32 0] 67, .box gr #[.int .i64 0, .int .i64 0, .int .i64 0, .int .i64 0, .int .i64 0, .int .i64 0, .bool false, .int .i64 0, .int .u32 0, .int .u32 0] 67, .box gn #[.int .i64 2, .int .i64 7, .int .i64 m, .slice A3 m3 c3, .slice (some ad) m c4] 37])) (fun _ _ k _ => B - (intOf k).toNat)
      case atStart => exact ⟨0, Nat.zero_le _, rfl, by simpa [atS] using S⟩
      case round =>
        clear S
        obtain ⟨i, hi, rfl, S⟩ := hrel
        have S := S.out
        obtain ⟨A8, n8, c8, rfl, h8⟩ := R_sl (S.outR .here)
        obtain ⟨A9, n9, c9, rfl, h9⟩ := R_sl (S.outR (.there .here))
        have H9 : Hid (n9 = Wj.length + A + i) := Lib.hid (by rw [h9.out, List.length_append, List.length_append, HN.out.dl, List.length_replicate])
        by_cases hil : i < B
        · have HW2 : Hid (Wj ++ D ++ List.replicate (i + 1) 0 = Wj ++ D ++ List.replicate i 0 ++ [0]) := Lib.hid (by rw [List.replicate_succ', List.append_assoc (Wj ++ D)])
          have HB8 : Hid ((Pj ++ atS (Wj.length + A) (min i q4)).length ≤ 536870912) := Lib.hid (by have := HN.out.pl; rw [List.length_append, atS_len]; omega)
          have HB9 : Hid ((Wj ++ D ++ List.replicate i 0).length ≤ 536870912) := Lib.hid (by have := HN.out.wl; rw [← h9.out, H9.out]; omega)
          by_cases hq : i < q4
          · have HP2 : Hid (Pj ++ atS (Wj.length + A) (min (i + 1) q4) = Pj ++ atS (Wj.length + A) (min i q4) ++ [(n9 : Int)]) := Lib.hid (by rw [Nat.min_eq_left (by omega), Nat.min_eq_left (by omega), atS_succ, ← List.append_assoc, H9.out])
            clear h8 h9 H9
            go_wp2_with (first | go_skip | ((with_reducible refine wl ?_); first | refine sl S ?_ | refine sx S hv4 ?_) | ((with_reducible refine gate_builtin (b := .append) (xs := #[.tmp 128, .tmp 131]) rfl ?_); at_builtin; refine sp_append (p := (n9 : Int)) ((S.one (Value.int .i64) (fun _ => rfl) (n9 : Int)).swap) rfl rfl Tryd.underlying83 info3 rfl (by decide) (by omega) rfl rfl (by have := HB8.out; omega) (fun v1 w1 S => ?_); replace S := S.swap) | ((with_reducible refine gate_builtin (b := .append) (xs := #[.tmp 133, .tmp 134]) rfl ?_); at_builtin; refine sp_append (p := (0 : Int)) ((S.one (Value.int .u64) (fun _ => rfl) (0 : Int)).swap) rfl rfl Tryd.underlying22 info32 rfl (by decide) (by omega) rfl rfl (by have := HB9.out; omega) (fun v1 w1 S => ?_); replace S := S.swap))
            go_roundw
            case rel => exact ⟨i + 1, by omega, by go_num, by rw [HW2.out, HP2.out]; exact Lib.hid S⟩
            case measure => simp [intOf]; omega
          · have HP2 : Hid (Pj ++ atS (Wj.length + A) (min (i + 1) q4) = Pj ++ atS (Wj.length + A) (min i q4)) := Lib.hid (by rw [Nat.min_eq_right (by omega), Nat.min_eq_right (by omega)])
            clear h8 h9 H9
            replace S := S.swap
            go_wp2_with (first | go_skip | ((with_reducible refine wl ?_); first | refine sl S ?_ | refine sx S hv4 ?_) | ((with_reducible refine gate_builtin (b := .append) (xs := #[.tmp 133, .tmp 134]) rfl ?_); at_builtin; refine sp_append (p := (0 : Int)) ((S.one (Value.int .u64) (fun _ => rfl) (0 : Int)).swap) rfl rfl Tryd.underlying22 info32 rfl (by decide) (by omega) rfl rfl (by have := HB9.out; omega) (fun v1 w1 S => ?_); replace S := S.swap))
            go_roundw
            case rel => exact ⟨i + 1, by omega, by go_num, by rw [HW2.out, HP2.out]; exact Lib.hid S⟩
            case measure => simp [intOf]; omega
        · obtain rfl : i = B := by omega
          have HE1 : Hid (Pj ++ atS (Wj.length + A) (min i q4) = Pn) := Lib.hid (by rw [Nat.min_eq_right HN.out.q, HN.out.pn])
          have HE2 : Hid (Wj ++ D ++ List.replicate i 0 = Wn) := Lib.hid (by rw [HN.out.wn, List.append_assoc])
          rw [HE1.out, HE2.out] at S
          clear h8 h9 H9 HE1 HE2 HN
          go_wp2
          go_roundw
          case rel => exact ⟨j + 1, by omega, by go_num, by rw [HWn.out, HPn.out]; exact Lib.hid S⟩
          case measure => simp [intOf]; omega
    · obtain rfl : j = m := by omega
      rw [HF.out.1, HF.out.2.1] at S
      have H6 : Hid (n6 = Z + 1) := Lib.hid (by rw [h6.out, HF.out.1, HF.out.2.2])
      have H6I : ((n6 : Int) - 1) = (Z : Int) := by have := H6.out; omega
      rw [HF.out.1] at h6
      rw [HF.out.2.1] at h5
      have hz0 : (Z : Int) ≤ 536870911 := by omega
      clear H6 HE
      have S := S.pick 1 rfl rfl
      go_wp2_with (first | go_skip | ((with_reducible refine wl ?_); first | refine ss S (fun w1 S => ?_) | refine sl S ?_))
      refine rs [2] S (fun w1 S => ?_)
      refine pu 0 140 ?_
      refine lt 1 S ?_
      refine pu 2 142 ?_
      refine pu 3 2 ?_
      refine ls 4 S (fun w2 S => ?_)
      refine pu 5 4 ?_
      refine dn ?_
      go_wp2
      have q6 := R_C (S.outR .here)
      have q5 := R_C (S.outR (.there .here))
      have e5 := h5.out
      have e6 := h6.out
      subst e5 e6
      exact rt S ⟨_, _, _, _, rfl, q6, q5, S.below⟩
end Go.Proofs.YtidglmocekghmaaDoor.Pr
end
section
namespace Go.Proofs.YtidglmocekghmaaDoor.Pr
open Go.RowKit Go.Proofs.YtidglmocekghmaaDoorW.PrintWords Go.Proofs.YtidglmocekghmaaDoorW.PrintLast Go.Proofs.YtidglmocekghmaaDoorW.PrintMore
set_option linter.unusedVariables false
set_option linter.unusedSimpArgs false
def plAll : List S37 → List Int → Nat → List Int → List Int
 | x :: l, q :: ps, st, out => plAll l ps st (placeW x out (st + q.toNat))
 | _, _, _, out => out
theorem atS_cons (q n : Nat) : atS q (n + 1) = (q : Int) :: atS (q + 1) n := by
 simp only [atS, List.range_succ_eq_map, List.map_cons, List.map_map, Nat.add_zero]
 congr 1
 apply List.map_congr_left
 intro i _
 simp only [Function.comp]
 omega
theorem plAll_append : ∀ (l : List S37) (ps : List Int) (m : List S37) (qs : List Int) (st : Nat) (out : List Int), l.length = ps.length → plAll (l ++ m) (ps ++ qs) st out = plAll m qs st (plAll l ps st out)
 | [], [], m, qs, st, out, _ => rfl
 | x :: l, q :: ps, m, qs, st, out, h => by
  simp only [List.cons_append, plAll]
  exact plAll_append l ps m qs st _ (by simpa using h)
 | [], _ :: _, _, _, _, _, h => by simp at h
 | _ :: _, [], _, _, _, _, h => by simp at h
theorem plAll_snoc (l : List S37) (ps : List Int) (x : S37) (q : Int) (st : Nat) (out : List Int) (h : l.length = ps.length) : plAll (l ++ [x]) (ps ++ [q]) st out = placeW x (plAll l ps st out) (st + q.toNat) := by
 rw [plAll_append _ _ _ _ _ _ h]
 rfl
theorem placesW_all : ∀ (l : List S37) (out : List Int) (st q : Nat), placesW l out (st + q) = plAll l (atS q l.length) st out
 | [], out, st, q => by simp [placesW, plAll]
 | x :: l, out, st, q => by
  rw [placesW, List.length_cons, atS_cons, plAll, Int.toNat_natCast, ← placesW_all l _ st (q + 1)]
  rfl
theorem placeE_all (A B : Nat) : ∀ (l : List S37) (out : List Int) (st q : Nat), placeE A B l out (st + q) = plAll (l.flatMap (·.f4)) (atE A B l q) st out
 | [], out, st, q => by simp [placeE, plAll, atE]
 | ⟨_, _, _, b, k⟩ :: l, out, st, q => by
  rw [placeE, atE, List.flatMap_cons, plAll_append _ _ _ _ _ _ (by rw [atS_len]), ← placesW_all k out st (q + A), ← placeE_all A B l _ st (q + (A + B))]
  simp only [Nat.add_assoc]
theorem placeW_all (n : S37) (out : List Int) (a : Nat) (h0 : n.f0 ≠ 0) (hk : n.f0 = 1 ∨ (n.f0 = 2 ∧ (n.f1 = 7 ∨ n.f1 = 6 ∨ n.f4 = []))) : placeW n out a = plAll (targetsL n) (atW n) out.length (putW n out a) := by
 obtain ⟨k, e, m, b, l⟩ := n
 dsimp only at h0 hk
 unfold placeW targetsL atW
 rw [if_neg h0]
 dsimp only
 by_cases h1 : k = 1
 ·rw [if_pos h1, if_neg (by omega), if_pos h1, placesW_all]
 ·rcases hk with hk | ⟨h2, hk⟩
  ·exact (h1 hk).elim
  rw [if_neg h1, if_neg h1]
  by_cases h7 : e = 7
  ·rw [if_pos h7, if_pos ⟨h2, h7⟩, if_pos h7, placeE_all]
  ·rw [if_neg h7, if_neg (show ¬ (k = 2 ∧ e = 7) from fun h => h7 h.2), if_neg h7]
   by_cases h6 : e = 6
   ·rw [if_pos h6]
    exact placesW_all l _ _ 0
   ·rw [if_neg h6]
    rcases hk with hk | hk | hk
    ·exact (h7 hk).elim
    ·exact (h6 hk).elim
    ·subst hk
     rfl
theorem atE_pair (A B : Nat) : ∀ (l : List S37) (q : Nat), (atE A B l q).length = (l.flatMap (·.f4)).length
 | [], q => rfl
 | x :: l, q => by rw [atE, List.flatMap_cons, List.length_append, List.length_append, atS_len, atE_pair A B l]
theorem atW_pair (n : S37) (hk : n.f0 = 1 ∨ n.f0 = 2) : (atW n).length = (targetsL n).length := by
 unfold atW targetsL
 by_cases h1 : n.f0 = 1
 ·rw [if_pos h1, if_neg (by omega), atS_len]
 ·rw [if_neg h1]
  by_cases h7 : n.f1 = 7
  ·rw [if_pos h7, if_pos ⟨by omega, h7⟩, atE_pair]
  ·rw [if_neg h7, if_neg (by omega), atS_len]
theorem atS_mem {q n : Nat} {x : Int} (h : x ∈ atS q n) : ∃ k : Nat, x = k ∧ q ≤ k ∧ k < q + n := by
 unfold atS at h
 obtain ⟨i, hi, rfl⟩ := List.mem_map.1 h
 exact ⟨q + i, rfl, by omega, by have := List.mem_range.1 hi; omega⟩
theorem atE_mem {A B : Nat} : ∀ {l : List S37} {q : Nat} {x : Int}, (∀ y ∈ l, y.f4.length ≤ B) → x ∈ atE A B l q → ∃ k : Nat, x = k ∧ k < q + l.length * (A + B)
 | [], _, _, _, h => by simp [atE] at h
 | y :: l, q, x, hB, h => by
  rw [atE] at h
  rw [List.length_cons, Nat.add_mul, Nat.one_mul]
  rcases List.mem_append.1 h with h | h
  ·obtain ⟨k, rfl, _, h2⟩ := atS_mem h
   have := hB y List.mem_cons_self
   exact ⟨k, rfl, by omega⟩
  ·obtain ⟨k, rfl, h2⟩ := atE_mem (fun y hy => hB y (List.mem_cons_of_mem _ hy)) h
   exact ⟨k, rfl, by omega⟩
theorem atW_mem {n : S37} (h6 : n.f0 = 1 ∨ n.f1 = 7 ∨ n.f1 = 6 ∨ n.f4 = []) {x : Int} (h : x ∈ atW n) : ∃ k : Nat, x = k ∧ k < (shallowW n).length := by
 unfold atW at h
 unfold shallowW
 by_cases h1 : n.f0 = 1
 ·rw [if_pos h1] at h ⊢
  obtain ⟨k, rfl, _, h2⟩ := atS_mem h
  exact ⟨k, rfl, by rw [List.length_append, wordsB_len, List.length_replicate]; omega⟩
 ·rw [if_neg h1] at h ⊢
  by_cases h7 : n.f1 = 7
  ·rw [if_pos h7] at h ⊢
   obtain ⟨k, rfl, h2⟩ := atE_mem (fun y hy => maxP_le hy) h
   exact ⟨k, rfl, by rw [List.length_cons, shallowE_len]; omega⟩
  ·rw [if_neg h7] at h ⊢
   obtain ⟨k, rfl, _, h2⟩ := atS_mem h
   by_cases e6 : n.f1 = 6
   ·rw [if_pos e6]
    exact ⟨k, rfl, by rw [List.length_replicate]; omega⟩
   ·rcases h6 with h6 | h6 | h6 | h6
    ·exact (h1 h6).elim
    ·exact (h7 h6).elim
    ·exact (e6 h6).elim
    ·rw [h6] at h2
     simp at h2
theorem run_load_agg {P : Program} {w : World} {t : TypeId} {ad : Addr} {cs : List Value} (ht : aggB P t = true) (hs : (P.info? t).map (·.size) = some cs.length) (hc : ∀ j v, cs[j]? = some v → w.cell? (ad.add j) = some v) : (Instr.loadAt t (.pointer (some ad))).run P w = .ok (.agg cs.toArray) w := by
 unfold aggB at ht
 cases hu : P.underlying t with
 | none => rw [hu] at ht; cases ht
 | some d =>
  cases hq : P.info? t with
  | none => simp [hq] at hs
  | some i =>
   have hi : i.size = cs.length := by simpa [hq] using hs
   have hagg : (isAgg t).run P w = .ok true w := by
    unfold isAgg
    rw [Sem.run_bind, run_underlying hu w]
    rw [hu] at ht
    cases d <;> simp_all
   have hl := run_loadCells_list (P := P) w ad cs hc
   simp [Instr.loadAt, Instr.sureAddr, loadVar, Sem.run_bind, hagg, sizeOf, typeInfo, hq, hi, hl]
theorem NdAt.cells {w : World} {ad : Addr} {x : S37} {A3 A4 : Option Addr} {c3 c4 : Nat} (h : NdAt w ad x A3 c3 A4 c4) (j : Nat) (v : Value) (hj : (ndC x A3 c3 A4 c4)[j]? = some v) : w.cell? (ad.add j) = some v := by
 have hf : ∀ i, 0 < i → ad.add i = ⟨ad.block, ad.off + i, none⟩ := fun i hi => by
  have := add_field ad 0 i hi
  rw [Nat.zero_add] at this
  rw [this]
  rfl
 match j, hj with
 | 0, hj => obtain rfl := Option.some.inj hj; exact h.h0
 | 1, hj => obtain rfl := Option.some.inj hj; rw [hf 1 (by omega)]; exact h.h1
 | 2, hj => obtain rfl := Option.some.inj hj; rw [hf 2 (by omega)]; exact h.h2
 | 3, hj => obtain rfl := Option.some.inj hj; rw [hf 3 (by omega)]; exact h.h3
 | 4, hj => obtain rfl := Option.some.inj hj; rw [hf 4 (by omega)]; exact h.h4
 | j + 5, hj => simp at hj
theorem NdAt.K {w : World} {ad : Addr} {x : S37} {A3 A4 : Option Addr} {c3 c4 : Nat} (h : NdAt w ad x A3 c3 A4 c4) : k37.K w x (ndC x A3 c3 A4 c4) := k37_mk w x h.l3 h.g3 h.l4 h.g4
section
variable {P : Program} {md : Region.Mode} {ops : Array Oper} {Q : Exit → Act → World → Prop} {w0 W w w1 : World} {L : List Asr}
def BaAt (P : Program) (md : Region.Mode) (ops : Array Oper) (Q : Exit → Act → World → Prop) (i : Nat) (l l' : Array Bool) (a a' : Act) (ad : Addr) (cs : List Value) : Prop :=
 ∃ oi t p, ops[i]? = some oi ∧ l.setIfInBounds i true = l' ∧ takeB md ops [] l l' i = true ∧ oi.guard = none ∧ oi.op = .load t p ∧ a.eval p = .pointer (some ad) ∧ aggB P t = true ∧ (P.info? t).map (·.size) = some cs.length ∧ a.put oi.dst (.agg cs.toArray) = a' ∧ (∀ c v a w, Q (.panic c) (a.put oi.dst v) w → Q (.panic c) a w)
theorem baAt {i : Nat} {l l' : Array Bool} {a a' : Act} {ad : Addr} {cs : List Value} {oi : Oper} {t : TypeId} {p : Operand} (h1 : ops[i]? = some oi) (h2 : l.setIfInBounds i true = l') (h3 : takeB md ops [] l l' i = true) (h4 : oi.guard = none) (h5 : oi.op = .load t p) (h6 : a.eval p = .pointer (some ad)) (h7 : aggB P t = true) (h10 : (P.info? t).map (·.size) = some cs.length) (h8 : a.put oi.dst (.agg cs.toArray) = a') (h9 : ∀ c v a w, Q (.panic c) (a.put oi.dst v) w → Q (.panic c) a w) : BaAt P md ops Q i l l' a a' ad cs := ⟨oi, t, p, h1, h2, h3, h4, h5, h6, h7, h10, h8, h9⟩
theorem bwa (i : Nat) {ad : Addr} {cs : List Value} (hv : ∀ j v, cs[j]? = some v → w1.cell? (ad.add j) = some v) (hb : Bw w1 w) {l l' : Array Bool} {a a' : Act} {fuel : Nat} (h : wpAnyLast P md ops Q (Bw w1) [] fuel l' a' w)
    (k : BaAt P md ops Q i l l' a a' ad cs := by
      apply baAt
      case h1 => simp only [List.getElem?_toArray, List.getElem?_cons_zero, List.getElem?_cons_succ]; rfl
      case h2 => simp only [List.setIfInBounds_toArray, List.set_cons_zero, List.set_cons_succ]; rfl
      case h3 => kernel_rfl
      case h4 => rfl
      case h5 => with_reducible rfl
      case h6 => first | (go_simp; done) | (go_simp; rfl)
      case h7 => kernel_rfl
      case h10 => kernel_rfl
      case h8 => simp only [Act.put, List.setIfInBounds_toArray, List.set_cons_zero, List.set_cons_succ]; rfl
      case h9 => exact fun _ _ _ _ h => h) : wpAnyLast P md ops Q (Bw w1) [] (fuel + 1) l a w := by
  obtain ⟨oi, t, p, h1, h2, h3, h4, h5, h6, h7, h10, h8, h9⟩ := k
  refine take_ l' h1 rfl h3 (fun c a w => h9 c _ a w) (.inl ⟨want0 h4, fun w' s => ?_⟩) hb h8 h
  have hr := run_load_agg (P := P) h7 h10 (fun j v hj => pw_cell_below s (hv j v hj))
  unfold execOp
  simp only [h5, h6, Sem.run_bind, Sem.run_pure, Result.andThen_ok, hr]
end
section
variable {P : Program} {ops : Array Oper} {rest : List Oper} {o : Oper} {a a' : Act} {Q : Exit → Act → World → Prop} {w0 W : World} {L : List Asr}
def XaAt (P : Program) (ops : Array Oper) (o : Oper) (a a' : Act) (ad : Addr) (cs : List Value) : Prop := Region.wanted o (yielded ops a.tmps) = true ∧ ∃ t p, o.op = .load t p ∧ a.eval p = .pointer (some ad) ∧ aggB P t = true ∧ (P.info? t).map (·.size) = some cs.length ∧ a.put o.dst (.agg cs.toArray) = a'
theorem xaAt {ad : Addr} {cs : List Value} {t : TypeId} {p : Operand} (hw : Region.wanted o (yielded ops a.tmps) = true) (h1 : o.op = .load t p) (h2 : a.eval p = .pointer (some ad)) (h3 : aggB P t = true) (h5 : (P.info? t).map (·.size) = some cs.length) (h4 : a.put o.dst (.agg cs.toArray) = a') : XaAt P ops o a a' ad cs := ⟨hw, t, p, h1, h2, h3, h5, h4⟩
theorem sxa (S : Sep w0 W L) {ad : Addr} {cs : List Value} (hv : ∀ j v, cs[j]? = some v → w0.cell? (ad.add j) = some v) (h : wpList P ops Q rest a' W)
    (k : XaAt P ops o a a' ad cs := by
      apply xaAt
      case h1 => with_reducible rfl
      case h2 => go_simp
      case hw => first | exact want0 rfl | rfl
      case h3 => kernel_rfl
      case h5 => kernel_rfl
      case h4 => simp only [Act.put, List.setIfInBounds_toArray, List.set_cons_zero, List.set_cons_succ]; rfl) : wpList P ops Q (o :: rest) a W := by
  obtain ⟨hw, t, p, h1, h2, h3, h5, rfl⟩ := k
  refine wpList_step fun K hK => ?_
  rw [if_pos hw]
  unfold Oper.wp
  have hr := run_load_agg (P := P) h3 h5 (fun j v hj => pw_cell_below S.below (hv j v hj))
  have he : (execOp a.eval o).run P W = .ok (.value (.agg cs.toArray)) W := by
    unfold execOp
    simp only [h1, h2, Sem.run_bind, Sem.run_pure, Result.andThen_ok, hr]
  rw [he]
  exact hK _ _ h
end
theorem blk_cells {w : World} {g t : Nat} {cs : List Value} (h : w.heap[g]? = some (.cells cs.toArray t (0, 0))) (j : Nat) (v : Value) (hj : cs[j]? = some v) : w.cell? ((⟨g, 0, none⟩ : Addr).add j) = some v := by
 rw [add_zero_at, blk_cell h]
 simpa using hj
theorem R_adr {α : Type} {d : Kd α} {e b : Nat} {w : World} {ok : Nat → Prop} {v : Value} {xs : List α} (h : d.R e w b ok v xs) (h0 : 0 < xs.length) : ∃ g c, v = .slice (some ⟨g, 0, none⟩) xs.length c := by
 obtain ⟨_, inner, ho, _⟩ := h
 rcases ho.2 with ⟨rfl, hn⟩ | ⟨g, cap, cur, rfl, _⟩
 ·omega
 ·exact ⟨g, cap, rfl⟩
end Go.Proofs.YtidglmocekghmaaDoor.Pr
end
section
namespace Go.Proofs.YtidglmocekghmaaDoor.Pr
open Go.RowKit Go.Proofs.YtidglmocekghmaaDoorW.PrintWords Go.Proofs.YtidglmocekghmaaDoorW.PrintLast Go.Proofs.YtidglmocekghmaaDoorW.PrintMore
set_option linter.unusedVariables false
set_option linter.unusedSimpArgs false
def WdV (w : World) (xs : List Int) (r : Ending) (w' : World) : Prop := ∃ A c, r = .returned (.slice A xs.length c) ∧ ((Kd.int .u64).C w' A xs.length xs ∧ xs.length ≤ c) ∧ Below w.heap.size w w'
def ShR_ (n : S37) (A3 : Option Addr) (c3 : Nat) (A4 : Option Addr) (c4 : Nat) (pv : Value) (sw sq : List Int) (w : World) : Prop := ∀ w', Below w.heap.size w w' → Calls Tryd.prog 48 #[ndV n A3 c3 A4 c4] w' fun r w1 => ∃ A1 c1 A2 c2, r = .returned (.tuple #[.slice A1 sw.length c1, pv, .slice A2 sq.length c2]) ∧ (Kd.int .u64).C w1 A1 sw.length sw ∧ (Kd.int .i64).C w1 A2 sq.length sq ∧ Below w'.heap.size w' w1
def TaR_ (n : S37) (A3 : Option Addr) (c3 : Nat) (A4 : Option Addr) (c4 : Nat) (T : List S37) (w : World) : Prop := ∀ w', Below w.heap.size w w' → Calls Tryd.prog 50 #[ndV n A3 c3 A4 c4] w' fun r w1 => ∃ A c, r = .returned (.slice A T.length c) ∧ k37.C w1 A T.length T ∧ Below w'.heap.size w' w1
def PlR_ (st : Nat) (sq : List Int) (T : List S37) (outs : Nat → List Int) : Prop := ∀ (i : Nat) (x : S37) (A : Option Addr) (c : Nat) (A3 : Option Addr) (c3 : Nat) (A4 : Option Addr) (c4 : Nat) (w : World), T[i]? = some x → (Kd.int .u64).C w A (outs i).length (outs i) → (outs i).length ≤ c → k37.K w x (ndC x A3 c3 A4 c4) → Calls Tryd.prog 26 #[.slice A (outs i).length c, .int .i64 ((st : Int) + wd sq i), ndV x A3 c3 A4 c4] w (WdV w (outs (i + 1)))
theorem cellI {w : World} {A : Option Addr} {s : List Int} (h : (Kd.int .i64).C w A s.length s) (i : Nat) (hi : i < s.length) : ∃ ad, A = some ad ∧ w.cell? (ad.add i) = some (.int .i64 (wd s i)) := by
 obtain ⟨a0, c, e0, _, hK, hcc⟩ := Kd.C_get h (0 : Int) i (by omega) (Int.ofNat_lt.2 hi)
 obtain rfl : c = [.int .i64 (wd s i)] := hK
 refine ⟨a0, e0, ?_⟩
 have := hcc 0 _ rfl
 simpa [Kd.int, Kd.scalar] using this
theorem R_adrN {α : Type} {d : Kd α} {e b : Nat} {w : World} {ok : Nat → Prop} {v : Value} {xs : List α} (h : d.R e w b ok v xs) (h0 : 0 < xs.length) : ∃ g n c, v = .slice (some ⟨g, 0, none⟩) n c ∧ Hid (n = xs.length) := by
 obtain ⟨g, c, rfl⟩ := R_adr h h0
 exact ⟨g, _, c, rfl, Lib.hid rfl⟩
set_option maxRecDepth 100000 in
set_option maxHeartbeats 4000000 in
theorem place_s1 (n : S37) (A3 A4 : Option Addr) (c3 c4 : Nat) (A : Option Addr) (c : Nat) (out : List Int) (a : Nat) (d p : Nat) (w : World) (sw sq : List Int) (T : List S37) (outs : Nat → List Int)
    (hC : (Kd.int .u64).C w A out.length out) (ha : a < out.length) (h0 : n.f0 ≠ 0) (HSh : ShR_ n A3 c3 A4 c4 (ptS 0 d p) sw sq w) (HT : TaR_ n A3 c3 A4 c4 T w)
    (hlen : out.length + sw.length ≤ 536870000) (hsa : ∀ i, i < T.length → ∃ q : Nat, wd sq i = q ∧ out.length + q ≤ 536870000) (hTl : sq.length = T.length) (hd : d ≤ 65535) (hp : p ≤ 65535) (hd0 : d ≠ 0)
    (hO : outs 0 = (out ++ sw).set a (encS ((out.length : Int) - a - 1) d p)) (HP : PlR_ out.length sq T outs) :
    Calls Tryd.prog 26 #[.slice A out.length c, .int .i64 a, ndV n A3 c3 A4 c4] w (WdV w (outs T.length)) := by
  have S := Sep.start w
  have HC := Lib.hid hC
  have HE := fun w' => Lib.hid (encode_s ((out.length : Int) - a - 1) d p w' (by omega) (by omega) (by omega) (by omega) (by omega) (by omega))
  replace HSh := fun w' hw => Lib.hid (HSh w' hw)
  replace HT := fun w' hw => Lib.hid (HT w' hw)
  replace HP := Lib.hid HP
  have HO := Lib.hid hO
  have HL := Lib.hid hlen
  have t0 : (n.f0 == 0) = false := beq_eq_false_iff_ne.2 h0
  obtain ⟨f0, f1, f2, f3, l⟩ := n
  dsimp only [ndV] at *
  generalize f3.length = m3 at *
  generalize l.length = m4 at *
  obtain ⟨lo, hlo⟩ : ∃ m, out.length = m := ⟨_, rfl⟩
  obtain ⟨ls, hls⟩ : ∃ m, sw.length = m := ⟨_, rfl⟩
  obtain ⟨la, hla⟩ : ∃ m, sq.length = m := ⟨_, rfl⟩
  obtain ⟨lt, hlt⟩ : ∃ m, T.length = m := ⟨_, rfl⟩
  have HLO := Lib.hid hlo
  have HLS := Lib.hid hls
  have HTL : Hid (sq.length = lt) := Lib.hid (by rw [hTl, hlt])
  have HLT := Lib.hid hlt
  have HSA := Lib.hid hsa
  rw [hlt] at hTl HSA HT
  rw [hlo] at HC HSA HP hlen ha ⊢
  try rw [hlo] at HE HO
  rw [hls] at HSh hlen
  rw [hTl] at HSh
  generalize encS ((lo : Int) - a - 1) d p = ev at *
  unfold WdV
  rw [hlt]
  clear hC h0 hO hsa hlo hls hla hTl l f3
  have t1 : ((d : Int) == 0) = false := beq_eq_false_iff_ne.2 (by omega)
  clear hd0
  go_enter Tryd.func26, Tryd.ntmps26
  go_wp2_with (first | go_skip | ((with_reducible refine wl ?_); refine sp_put (i := a) (y := ev) rfl rfl rfl S ?hpp rfl han (by kernel_rfl) rfl (fun w1 S => ?_); (case hpp => first | (go_simp; done) | (go_simp; rfl))) | ((with_reducible refine wl ?_); first | (refine sn S (fun g w1 S => ?_); first | ((fail_if_success (have := gn)); revert g; intro gn S) | ((fail_if_success (have := gp)); revert g; intro gp S)) | refine ss S (fun w1 S => ?_) | refine sl S ?_ | refine sa S ?_) | ((with_reducible refine (HSh _ S.below).out.mono ?_); rintro r w' ⟨A1, c1, A2, c2, rfl, hq1, hq2, hb⟩; replace S := S.call hb; have HB1 := Lib.hid S.below; have HGN := Lib.hid (blk_cells (cs := [.int .i64 f0, .int .i64 f1, .int .i64 f2, .slice A3 m3 c3, .slice A4 m4 c4]) (S.blk .here)); have HCw := Lib.hid (Kd.C_below HC.out S.below); have HQ1 := Lib.hid hq1; have HQ2 := Lib.hid hq2; replace S := Sep.start w'; clear hq1 hq2 hb) | ((with_reducible refine gate_dst (N := 45) rfl ?_); refine sp_lit (Kd.int .u64) 32 (N := 45) rfl rfl S [] [] ?hr (Reps.none _ _) (by simp) (fun g w1 S => ?_); (case hr => first | (go_simp; done) | (go_simp; rfl))) | ((with_reducible refine gate_builtin (b := .append) (xs := #[.tmp 45, .tmp 46]) rfl ?_); at_builtin; refine sp_rows S rfl rfl Tryd.underlying22 info32 rfl (by decide) (by omega) rfl rfl (Kd.C_below HCw.out S.below) (fun _ _ h => h) (by have := HL.out; have := HLO.out; simp; omega) (fun v1 w1 S => ?_)) | ((with_reducible refine gate_builtin (b := .append) (xs := #[.tmp 47, .tmp 48]) rfl ?_); at_builtin; refine sp_rows S rfl rfl Tryd.underlying22 info32 rfl (by decide) (by omega) rfl rfl (Kd.C_below HQ1.out S.below) (fun _ _ h => h) (by have := HL.out; have := HLO.out; have := HLS.out; simp; omega) (fun v1 w1 S => ?_); obtain ⟨go, no, co, rfl, hno⟩ := R_adrN (S.outR .here) (by have := HLO.out; simp; omega); have HNO := Lib.hid hno.out; clear hno; have han : a < no := by rw [HNO.out]; have := HLO.out; simp; omega) | ((with_reducible refine (HE _).out.mono ?_); rintro r w' ⟨rfl, hb⟩; replace S := S.call hb) | ((with_reducible refine wl ?_); refine sxa S HGN.out ?_) | ((with_reducible refine (HT _ (below_step HB1.out S.below)).out.mono ?_); rintro r w' ⟨A5, c5, rfl, hq3, hb⟩; replace S := S.call hb; have HQ3 := Lib.hid hq3; clear hq3 hb))
  have HN0 : Hid (no = (outs 0).length ∧ (Kd.int .u64).C _ (some ⟨go, 0, none⟩) no (outs 0) ∧ no ≤ co) := Lib.hid (by
    have e0 : ([] ++ out ++ sw).set a ev = outs 0 := by rw [HO.out]; rfl
    have hR := S.outR .here
    rw [e0] at hR
    have h1 := R_C hR
    have h3 := (Kd.R_reads' hR).2.1
    have h2 : no = (outs 0).length := by rw [HNO.out, ← e0, List.length_set]
    rw [h2] at h3 ⊢
    exact ⟨rfl, h1, h3⟩)
  have HBB := Lib.hid (below_step HB1.out S.below)
  have HQ2 := Lib.hid (Kd.C_below HQ2.out S.below)
  clear HSh HT HE HGN HCw HB1 HNO han HO t0 HQ1 HC ha t1 hd hp
  go_loopw [11, 13] (fun v k wr => ∃ (i : Nat) (A6 : Option Addr) (n6 c6 : Nat), i ≤ lt ∧ k = .int .i64 i ∧ v = .slice A6 n6 c6 ∧ Hid (n6 = (outs i).length ∧ (Kd.int .u64).C wr A6 n6 (outs i) ∧ n6 ≤ c6) ∧ Hid ((Kd.int .i64).C wr A2 lt sq) ∧ Hid (k37.C wr A5 lt T) ∧ Hid (Below w.heap.size w wr)) (fun _ k _ => lt - (intOf k).toNat)
  case atStart => exact ⟨0, _, _, _, Nat.zero_le _, rfl, rfl, HN0, HQ2, HQ3, HBB⟩
  case round =>
    clear S HN0 HBB HQ2 HQ3
    obtain ⟨i, A6, n6, c6, hi, rfl, rfl, HO, HQ2, HQ3, HB⟩ := hrel
    by_cases hil : i < lt
    · have hltb := HQ3.out.2.1
      obtain ⟨q, hq, hq2⟩ := HSA.out i hil
      have hdr := below_drew1 (Below.refl wr.heap.size wr)
      obtain ⟨ad, rfl, hv⟩ := cellI (by rw [HTL.out]; exact Kd.C_below HQ2.out hdr) i (by rw [HTL.out]; exact hil)
      obtain ⟨ae, B3, d3, B4, d4, rfl, hN⟩ := kid_at (by rw [HLT.out]; exact Kd.C_below HQ3.out hdr) i (by rw [HLT.out]; exact hil)
      obtain ⟨x, hx⟩ : ∃ x, T[i]'(by rw [HLT.out]; exact hil) = x := ⟨_, rfl⟩
      have hx2 : T[i]? = some x := by rw [← hx]; exact List.getElem?_eq_getElem _
      rw [hx] at hN
      have HPi := HP.out i x A6 c6 B3 d3 B4 d4 wr.drew hx2 (by rw [← HO.out.1]; exact Kd.C_below HO.out.2.1 hdr) (by rw [← HO.out.1]; exact HO.out.2.2) hN.K
      rw [hq] at hv HPi
      rw [← HO.out.1] at HPi
      have HPi := Lib.hid HPi
      have HND := Lib.hid hN.cells
      have hwr : IntKind.i64.wrap ((lo : Int) + (q : Int)) = (lo : Int) + q := (i64_w _).trans (w64 (by omega) (by omega))
      clear hx hx2 hN hq
      go_wp2
      refine bws (Sep.start wr) (fun S2 => ?_)
      refine pu 0 66 ?_
      refine pu 1 67 ?_
      refine pu 2 68 ?_
      refine pu 3 69 ?_
      refine pu 4 70 ?_
      refine bwl 5 hv (Below.refl _ _) ?_
      refine pu 6 72 ?_
      refine pu 7 73 ?_
      refine pu 8 74 ?_
      refine pu 9 75 ?_
      refine bwa 10 HND.out (Below.refl _ _) ?_
      refine bwc 11 77 Tryd.func26 HPi.out (fun r' w2 hT => ?_)
      obtain ⟨A7, c7, rfl, ⟨hC7, hc7⟩, hb⟩ := hT
      refine ⟨_, rfl, hb, _, rfl, ?_⟩
      simp only [Act.put, List.setIfInBounds_toArray, List.set_cons_zero, List.set_cons_succ]
      refine pu 12 11 ?_
      refine dn ?_
      clear hwr
      go_wp2
      go_roundw
      case rel => exact ⟨i + 1, _, _, _, by omega, by go_num, rfl, Lib.hid ⟨rfl, hC7, hc7⟩, Lib.hid (Kd.C_below HQ2.out (below_step hdr hb)), Lib.hid (Kd.C_below HQ3.out (below_step hdr hb)), Lib.hid (below_step (below_drew1 HB.out) hb)⟩
      case measure => simp [intOf]; omega
    · obtain rfl : i = lt := by omega
      go_wp2
      obtain ⟨hn6, hC6, hc6⟩ := HO.out
      subst hn6
      exact rt (Sep.start _) ⟨_, _, rfl, ⟨hC6, hc6⟩, HB.out⟩
set_option maxRecDepth 100000 in
set_option maxHeartbeats 4000000 in
theorem place_s2 (n : S37) (A3 A4 : Option Addr) (c3 c4 : Nat) (A : Option Addr) (c : Nat) (out : List Int) (a : Nat) (d p : Nat) (w : World) (sw sq : List Int) (T : List S37) (outs : Nat → List Int)
    (hC : (Kd.int .u64).C w A out.length out) (ha : a < out.length) (h0 : n.f0 ≠ 0) (HSh : ShR_ n A3 c3 A4 c4 (ptS 0 d p) sw sq w) (HT : TaR_ n A3 c3 A4 c4 T w)
    (hlen : out.length + sw.length ≤ 536870000) (hsa : ∀ i, i < T.length → ∃ q : Nat, wd sq i = q ∧ out.length + q ≤ 536870000) (hTl : sq.length = T.length) (hd : d ≤ 65535) (hp : p ≤ 65535) (hd0 : d = 0) (hp0 : p ≠ 0)
    (hO : outs 0 = (out ++ sw).set a (encS ((out.length : Int) - a - 1) d p)) (HP : PlR_ out.length sq T outs) :
    Calls Tryd.prog 26 #[.slice A out.length c, .int .i64 a, ndV n A3 c3 A4 c4] w (WdV w (outs T.length)) := by
  have S := Sep.start w
  have HC := Lib.hid hC
  have HE := fun w' => Lib.hid (encode_s ((out.length : Int) - a - 1) d p w' (by omega) (by omega) (by omega) (by omega) (by omega) (by omega))
  replace HSh := fun w' hw => Lib.hid (HSh w' hw)
  replace HT := fun w' hw => Lib.hid (HT w' hw)
  replace HP := Lib.hid HP
  have HO := Lib.hid hO
  have HL := Lib.hid hlen
  have t0 : (n.f0 == 0) = false := beq_eq_false_iff_ne.2 h0
  obtain ⟨f0, f1, f2, f3, l⟩ := n
  dsimp only [ndV] at *
  generalize f3.length = m3 at *
  generalize l.length = m4 at *
  obtain ⟨lo, hlo⟩ : ∃ m, out.length = m := ⟨_, rfl⟩
  obtain ⟨ls, hls⟩ : ∃ m, sw.length = m := ⟨_, rfl⟩
  obtain ⟨la, hla⟩ : ∃ m, sq.length = m := ⟨_, rfl⟩
  obtain ⟨lt, hlt⟩ : ∃ m, T.length = m := ⟨_, rfl⟩
  have HLO := Lib.hid hlo
  have HLS := Lib.hid hls
  have HTL : Hid (sq.length = lt) := Lib.hid (by rw [hTl, hlt])
  have HLT := Lib.hid hlt
  have HSA := Lib.hid hsa
  rw [hlt] at hTl HSA HT
  rw [hlo] at HC HSA HP hlen ha ⊢
  try rw [hlo] at HE HO
  rw [hls] at HSh hlen
  rw [hTl] at HSh
  generalize encS ((lo : Int) - a - 1) d p = ev at *
  unfold WdV
  rw [hlt]
  clear hC h0 hO hsa hlo hls hla hTl l f3
  have t1 : ((d : Int) == 0) = true := beq_iff_eq.2 (by omega)
  have t2 : ((p : Int) == 0) = false := beq_eq_false_iff_ne.2 (by omega)
  clear hd0 hp0
  go_enter Tryd.func26, Tryd.ntmps26
  go_wp2_with (first | go_skip | ((with_reducible refine wl ?_); refine sp_put (i := a) (y := ev) rfl rfl rfl S ?hpp rfl han (by kernel_rfl) rfl (fun w1 S => ?_); (case hpp => first | (go_simp; done) | (go_simp; rfl))) | ((with_reducible refine wl ?_); first | (refine sn S (fun g w1 S => ?_); first | ((fail_if_success (have := gn)); revert g; intro gn S) | ((fail_if_success (have := gp)); revert g; intro gp S)) | refine ss S (fun w1 S => ?_) | refine sl S ?_ | refine sa S ?_) | ((with_reducible refine (HSh _ S.below).out.mono ?_); rintro r w' ⟨A1, c1, A2, c2, rfl, hq1, hq2, hb⟩; replace S := S.call hb; have HB1 := Lib.hid S.below; have HGN := Lib.hid (blk_cells (cs := [.int .i64 f0, .int .i64 f1, .int .i64 f2, .slice A3 m3 c3, .slice A4 m4 c4]) (S.blk .here)); have HCw := Lib.hid (Kd.C_below HC.out S.below); have HQ1 := Lib.hid hq1; have HQ2 := Lib.hid hq2; replace S := Sep.start w'; clear hq1 hq2 hb) | ((with_reducible refine gate_dst (N := 45) rfl ?_); refine sp_lit (Kd.int .u64) 32 (N := 45) rfl rfl S [] [] ?hr (Reps.none _ _) (by simp) (fun g w1 S => ?_); (case hr => first | (go_simp; done) | (go_simp; rfl))) | ((with_reducible refine gate_builtin (b := .append) (xs := #[.tmp 45, .tmp 46]) rfl ?_); at_builtin; refine sp_rows S rfl rfl Tryd.underlying22 info32 rfl (by decide) (by omega) rfl rfl (Kd.C_below HCw.out S.below) (fun _ _ h => h) (by have := HL.out; have := HLO.out; simp; omega) (fun v1 w1 S => ?_)) | ((with_reducible refine gate_builtin (b := .append) (xs := #[.tmp 47, .tmp 48]) rfl ?_); at_builtin; refine sp_rows S rfl rfl Tryd.underlying22 info32 rfl (by decide) (by omega) rfl rfl (Kd.C_below HQ1.out S.below) (fun _ _ h => h) (by have := HL.out; have := HLO.out; have := HLS.out; simp; omega) (fun v1 w1 S => ?_); obtain ⟨go, no, co, rfl, hno⟩ := R_adrN (S.outR .here) (by have := HLO.out; simp; omega); have HNO := Lib.hid hno.out; clear hno; have han : a < no := by rw [HNO.out]; have := HLO.out; simp; omega) | ((with_reducible refine (HE _).out.mono ?_); rintro r w' ⟨rfl, hb⟩; replace S := S.call hb) | ((with_reducible refine wl ?_); refine sxa S HGN.out ?_) | ((with_reducible refine (HT _ (below_step HB1.out S.below)).out.mono ?_); rintro r w' ⟨A5, c5, rfl, hq3, hb⟩; replace S := S.call hb; have HQ3 := Lib.hid hq3; clear hq3 hb))
  have HN0 : Hid (no = (outs 0).length ∧ (Kd.int .u64).C _ (some ⟨go, 0, none⟩) no (outs 0) ∧ no ≤ co) := Lib.hid (by
    have e0 : ([] ++ out ++ sw).set a ev = outs 0 := by rw [HO.out]; rfl
    have hR := S.outR .here
    rw [e0] at hR
    have h1 := R_C hR
    have h3 := (Kd.R_reads' hR).2.1
    have h2 : no = (outs 0).length := by rw [HNO.out, ← e0, List.length_set]
    rw [h2] at h3 ⊢
    exact ⟨rfl, h1, h3⟩)
  have HBB := Lib.hid (below_step HB1.out S.below)
  have HQ2 := Lib.hid (Kd.C_below HQ2.out S.below)
  clear HSh HT HE HGN HCw HB1 HNO han HO t0 HQ1 HC ha t1 t2 hd hp
  go_loopw [11, 13] (fun v k wr => ∃ (i : Nat) (A6 : Option Addr) (n6 c6 : Nat), i ≤ lt ∧ k = .int .i64 i ∧ v = .slice A6 n6 c6 ∧ Hid (n6 = (outs i).length ∧ (Kd.int .u64).C wr A6 n6 (outs i) ∧ n6 ≤ c6) ∧ Hid ((Kd.int .i64).C wr A2 lt sq) ∧ Hid (k37.C wr A5 lt T) ∧ Hid (Below w.heap.size w wr)) (fun _ k _ => lt - (intOf k).toNat)
  case atStart => exact ⟨0, _, _, _, Nat.zero_le _, rfl, rfl, HN0, HQ2, HQ3, HBB⟩
  case round =>
    clear S HN0 HBB HQ2 HQ3
    obtain ⟨i, A6, n6, c6, hi, rfl, rfl, HO, HQ2, HQ3, HB⟩ := hrel
    by_cases hil : i < lt
    · have hltb := HQ3.out.2.1
      obtain ⟨q, hq, hq2⟩ := HSA.out i hil
      have hdr := below_drew1 (Below.refl wr.heap.size wr)
      obtain ⟨ad, rfl, hv⟩ := cellI (by rw [HTL.out]; exact Kd.C_below HQ2.out hdr) i (by rw [HTL.out]; exact hil)
      obtain ⟨ae, B3, d3, B4, d4, rfl, hN⟩ := kid_at (by rw [HLT.out]; exact Kd.C_below HQ3.out hdr) i (by rw [HLT.out]; exact hil)
      obtain ⟨x, hx⟩ : ∃ x, T[i]'(by rw [HLT.out]; exact hil) = x := ⟨_, rfl⟩
      have hx2 : T[i]? = some x := by rw [← hx]; exact List.getElem?_eq_getElem _
      rw [hx] at hN
      have HPi := HP.out i x A6 c6 B3 d3 B4 d4 wr.drew hx2 (by rw [← HO.out.1]; exact Kd.C_below HO.out.2.1 hdr) (by rw [← HO.out.1]; exact HO.out.2.2) hN.K
      rw [hq] at hv HPi
      rw [← HO.out.1] at HPi
      have HPi := Lib.hid HPi
      have HND := Lib.hid hN.cells
      have hwr : IntKind.i64.wrap ((lo : Int) + (q : Int)) = (lo : Int) + q := (i64_w _).trans (w64 (by omega) (by omega))
      clear hx hx2 hN hq
      go_wp2
      refine bws (Sep.start wr) (fun S2 => ?_)
      refine pu 0 66 ?_
      refine pu 1 67 ?_
      refine pu 2 68 ?_
      refine pu 3 69 ?_
      refine pu 4 70 ?_
      refine bwl 5 hv (Below.refl _ _) ?_
      refine pu 6 72 ?_
      refine pu 7 73 ?_
      refine pu 8 74 ?_
      refine pu 9 75 ?_
      refine bwa 10 HND.out (Below.refl _ _) ?_
      refine bwc 11 77 Tryd.func26 HPi.out (fun r' w2 hT => ?_)
      obtain ⟨A7, c7, rfl, ⟨hC7, hc7⟩, hb⟩ := hT
      refine ⟨_, rfl, hb, _, rfl, ?_⟩
      simp only [Act.put, List.setIfInBounds_toArray, List.set_cons_zero, List.set_cons_succ]
      refine pu 12 11 ?_
      refine dn ?_
      clear hwr
      go_wp2
      go_roundw
      case rel => exact ⟨i + 1, _, _, _, by omega, by go_num, rfl, Lib.hid ⟨rfl, hC7, hc7⟩, Lib.hid (Kd.C_below HQ2.out (below_step hdr hb)), Lib.hid (Kd.C_below HQ3.out (below_step hdr hb)), Lib.hid (below_step (below_drew1 HB.out) hb)⟩
      case measure => simp [intOf]; omega
    · obtain rfl : i = lt := by omega
      go_wp2
      obtain ⟨hn6, hC6, hc6⟩ := HO.out
      subst hn6
      exact rt (Sep.start _) ⟨_, _, rfl, ⟨hC6, hc6⟩, HB.out⟩
set_option maxRecDepth 100000 in
set_option maxHeartbeats 4000000 in
theorem place_s3 (n : S37) (A3 A4 : Option Addr) (c3 c4 : Nat) (A : Option Addr) (c : Nat) (out : List Int) (a : Nat) (d p : Nat) (w : World) (sw sq : List Int) (T : List S37) (outs : Nat → List Int)
    (hC : (Kd.int .u64).C w A out.length out) (ha : a < out.length) (h0 : n.f0 ≠ 0) (HSh : ShR_ n A3 c3 A4 c4 (ptS 0 d p) sw sq w) (HT : TaR_ n A3 c3 A4 c4 T w)
    (hlen : out.length + sw.length ≤ 536870000) (hsa : ∀ i, i < T.length → ∃ q : Nat, wd sq i = q ∧ out.length + q ≤ 536870000) (hTl : sq.length = T.length) (hd : d ≤ 65535) (hp : p ≤ 65535) (hd0 : d = 0) (hp0 : p = 0)
    (hO : outs 0 = (out ++ sw).set a (encS (-1) d p)) (HP : PlR_ out.length sq T outs) :
    Calls Tryd.prog 26 #[.slice A out.length c, .int .i64 a, ndV n A3 c3 A4 c4] w (WdV w (outs T.length)) := by
  have S := Sep.start w
  have HC := Lib.hid hC
  have HE := fun w' => Lib.hid (encode_s (-1) d p w' (by omega) (by omega) (by omega) (by omega) (by omega) (by omega))
  replace HSh := fun w' hw => Lib.hid (HSh w' hw)
  replace HT := fun w' hw => Lib.hid (HT w' hw)
  replace HP := Lib.hid HP
  have HO := Lib.hid hO
  have HL := Lib.hid hlen
  have t0 : (n.f0 == 0) = false := beq_eq_false_iff_ne.2 h0
  obtain ⟨f0, f1, f2, f3, l⟩ := n
  dsimp only [ndV] at *
  generalize f3.length = m3 at *
  generalize l.length = m4 at *
  obtain ⟨lo, hlo⟩ : ∃ m, out.length = m := ⟨_, rfl⟩
  obtain ⟨ls, hls⟩ : ∃ m, sw.length = m := ⟨_, rfl⟩
  obtain ⟨la, hla⟩ : ∃ m, sq.length = m := ⟨_, rfl⟩
  obtain ⟨lt, hlt⟩ : ∃ m, T.length = m := ⟨_, rfl⟩
  have HLO := Lib.hid hlo
  have HLS := Lib.hid hls
  have HTL : Hid (sq.length = lt) := Lib.hid (by rw [hTl, hlt])
  have HLT := Lib.hid hlt
  have HSA := Lib.hid hsa
  rw [hlt] at hTl HSA HT
  rw [hlo] at HC HSA HP hlen ha ⊢
  try rw [hlo] at HE HO
  rw [hls] at HSh hlen
  rw [hTl] at HSh
  generalize encS (-1) d p = ev at *
  unfold WdV
  rw [hlt]
  clear hC h0 hO hsa hlo hls hla hTl l f3
  have t1 : ((d : Int) == 0) = true := beq_iff_eq.2 (by omega)
  have t2 : ((p : Int) == 0) = true := beq_iff_eq.2 (by omega)
  clear hd0 hp0
  go_enter Tryd.func26, Tryd.ntmps26
  go_wp2_with (first | go_skip | ((with_reducible refine wl ?_); refine sp_put (i := a) (y := ev) rfl rfl rfl S ?hpp rfl han (by kernel_rfl) rfl (fun w1 S => ?_); (case hpp => first | (go_simp; done) | (go_simp; rfl))) | ((with_reducible refine wl ?_); first | (refine sn S (fun g w1 S => ?_); first | ((fail_if_success (have := gn)); revert g; intro gn S) | ((fail_if_success (have := gp)); revert g; intro gp S)) | refine ss S (fun w1 S => ?_) | refine sl S ?_ | refine sa S ?_) | ((with_reducible refine (HSh _ S.below).out.mono ?_); rintro r w' ⟨A1, c1, A2, c2, rfl, hq1, hq2, hb⟩; replace S := S.call hb; have HB1 := Lib.hid S.below; have HGN := Lib.hid (blk_cells (cs := [.int .i64 f0, .int .i64 f1, .int .i64 f2, .slice A3 m3 c3, .slice A4 m4 c4]) (S.blk .here)); have HCw := Lib.hid (Kd.C_below HC.out S.below); have HQ1 := Lib.hid hq1; have HQ2 := Lib.hid hq2; replace S := Sep.start w'; clear hq1 hq2 hb) | ((with_reducible refine gate_dst (N := 45) rfl ?_); refine sp_lit (Kd.int .u64) 32 (N := 45) rfl rfl S [] [] ?hr (Reps.none _ _) (by simp) (fun g w1 S => ?_); (case hr => first | (go_simp; done) | (go_simp; rfl))) | ((with_reducible refine gate_builtin (b := .append) (xs := #[.tmp 45, .tmp 46]) rfl ?_); at_builtin; refine sp_rows S rfl rfl Tryd.underlying22 info32 rfl (by decide) (by omega) rfl rfl (Kd.C_below HCw.out S.below) (fun _ _ h => h) (by have := HL.out; have := HLO.out; simp; omega) (fun v1 w1 S => ?_)) | ((with_reducible refine gate_builtin (b := .append) (xs := #[.tmp 47, .tmp 48]) rfl ?_); at_builtin; refine sp_rows S rfl rfl Tryd.underlying22 info32 rfl (by decide) (by omega) rfl rfl (Kd.C_below HQ1.out S.below) (fun _ _ h => h) (by have := HL.out; have := HLO.out; have := HLS.out; simp; omega) (fun v1 w1 S => ?_); obtain ⟨go, no, co, rfl, hno⟩ := R_adrN (S.outR .here) (by have := HLO.out; simp; omega); have HNO := Lib.hid hno.out; clear hno; have han : a < no := by rw [HNO.out]; have := HLO.out; simp; omega) | ((with_reducible refine (HE _).out.mono ?_); rintro r w' ⟨rfl, hb⟩; replace S := S.call hb) | ((with_reducible refine wl ?_); refine sxa S HGN.out ?_) | ((with_reducible refine (HT _ (below_step HB1.out S.below)).out.mono ?_); rintro r w' ⟨A5, c5, rfl, hq3, hb⟩; replace S := S.call hb; have HQ3 := Lib.hid hq3; clear hq3 hb))
  have HN0 : Hid (no = (outs 0).length ∧ (Kd.int .u64).C _ (some ⟨go, 0, none⟩) no (outs 0) ∧ no ≤ co) := Lib.hid (by
    have e0 : ([] ++ out ++ sw).set a ev = outs 0 := by rw [HO.out]; rfl
    have hR := S.outR .here
    rw [e0] at hR
    have h1 := R_C hR
    have h3 := (Kd.R_reads' hR).2.1
    have h2 : no = (outs 0).length := by rw [HNO.out, ← e0, List.length_set]
    rw [h2] at h3 ⊢
    exact ⟨rfl, h1, h3⟩)
  have HBB := Lib.hid (below_step HB1.out S.below)
  have HQ2 := Lib.hid (Kd.C_below HQ2.out S.below)
  clear HSh HT HE HGN HCw HB1 HNO han HO t0 HQ1 HC ha t1 t2 hd hp
  go_loopw [11, 13] (fun v k wr => ∃ (i : Nat) (A6 : Option Addr) (n6 c6 : Nat), i ≤ lt ∧ k = .int .i64 i ∧ v = .slice A6 n6 c6 ∧ Hid (n6 = (outs i).length ∧ (Kd.int .u64).C wr A6 n6 (outs i) ∧ n6 ≤ c6) ∧ Hid ((Kd.int .i64).C wr A2 lt sq) ∧ Hid (k37.C wr A5 lt T) ∧ Hid (Below w.heap.size w wr)) (fun _ k _ => lt - (intOf k).toNat)
  case atStart => exact ⟨0, _, _, _, Nat.zero_le _, rfl, rfl, HN0, HQ2, HQ3, HBB⟩
  case round =>
    clear S HN0 HBB HQ2 HQ3
    obtain ⟨i, A6, n6, c6, hi, rfl, rfl, HO, HQ2, HQ3, HB⟩ := hrel
    by_cases hil : i < lt
    · have hltb := HQ3.out.2.1
      obtain ⟨q, hq, hq2⟩ := HSA.out i hil
      have hdr := below_drew1 (Below.refl wr.heap.size wr)
      obtain ⟨ad, rfl, hv⟩ := cellI (by rw [HTL.out]; exact Kd.C_below HQ2.out hdr) i (by rw [HTL.out]; exact hil)
      obtain ⟨ae, B3, d3, B4, d4, rfl, hN⟩ := kid_at (by rw [HLT.out]; exact Kd.C_below HQ3.out hdr) i (by rw [HLT.out]; exact hil)
      obtain ⟨x, hx⟩ : ∃ x, T[i]'(by rw [HLT.out]; exact hil) = x := ⟨_, rfl⟩
      have hx2 : T[i]? = some x := by rw [← hx]; exact List.getElem?_eq_getElem _
      rw [hx] at hN
      have HPi := HP.out i x A6 c6 B3 d3 B4 d4 wr.drew hx2 (by rw [← HO.out.1]; exact Kd.C_below HO.out.2.1 hdr) (by rw [← HO.out.1]; exact HO.out.2.2) hN.K
      rw [hq] at hv HPi
      rw [← HO.out.1] at HPi
      have HPi := Lib.hid HPi
      have HND := Lib.hid hN.cells
      have hwr : IntKind.i64.wrap ((lo : Int) + (q : Int)) = (lo : Int) + q := (i64_w _).trans (w64 (by omega) (by omega))
      clear hx hx2 hN hq
      go_wp2
      refine bws (Sep.start wr) (fun S2 => ?_)
      refine pu 0 66 ?_
      refine pu 1 67 ?_
      refine pu 2 68 ?_
      refine pu 3 69 ?_
      refine pu 4 70 ?_
      refine bwl 5 hv (Below.refl _ _) ?_
      refine pu 6 72 ?_
      refine pu 7 73 ?_
      refine pu 8 74 ?_
      refine pu 9 75 ?_
      refine bwa 10 HND.out (Below.refl _ _) ?_
      refine bwc 11 77 Tryd.func26 HPi.out (fun r' w2 hT => ?_)
      obtain ⟨A7, c7, rfl, ⟨hC7, hc7⟩, hb⟩ := hT
      refine ⟨_, rfl, hb, _, rfl, ?_⟩
      simp only [Act.put, List.setIfInBounds_toArray, List.set_cons_zero, List.set_cons_succ]
      refine pu 12 11 ?_
      refine dn ?_
      clear hwr
      go_wp2
      go_roundw
      case rel => exact ⟨i + 1, _, _, _, by omega, by go_num, rfl, Lib.hid ⟨rfl, hC7, hc7⟩, Lib.hid (Kd.C_below HQ2.out (below_step hdr hb)), Lib.hid (Kd.C_below HQ3.out (below_step hdr hb)), Lib.hid (below_step (below_drew1 HB.out) hb)⟩
      case measure => simp [intOf]; omega
    · obtain rfl : i = lt := by omega
      go_wp2
      obtain ⟨hn6, hC6, hc6⟩ := HO.out
      subst hn6
      exact rt (Sep.start _) ⟨_, _, rfl, ⟨hC6, hc6⟩, HB.out⟩
set_option maxRecDepth 100000 in
set_option maxHeartbeats 4000000 in
theorem place_l (n : S37) (A3 A4 : Option Addr) (c3 c4 : Nat) (A : Option Addr) (c : Nat) (out : List Int) (a : Nat) (e q : Int) (w : World) (sw sq : List Int) (T : List S37) (outs : Nat → List Int)
    (hC : (Kd.int .u64).C w A out.length out) (ha : a < out.length) (h0 : n.f0 ≠ 0) (HSh : ShR_ n A3 c3 A4 c4 (ptL 0 e q) sw sq w) (HT : TaR_ n A3 c3 A4 c4 T w)
    (hlen : out.length + sw.length ≤ 536870000) (hsa : ∀ i, i < T.length → ∃ q : Nat, wd sq i = q ∧ out.length + q ≤ 536870000) (hTl : sq.length = T.length) (he0 : 0 ≤ e) (he1 : e ≤ 7) (hq0 : 0 ≤ q) (hq1 : q ≤ 536870911)
    (hO : outs 0 = (out ++ sw).set a (encL ((out.length : Int) - a - 1) e q)) (HP : PlR_ out.length sq T outs) :
    Calls Tryd.prog 26 #[.slice A out.length c, .int .i64 a, ndV n A3 c3 A4 c4] w (WdV w (outs T.length)) := by
  have S := Sep.start w
  have HC := Lib.hid hC
  have HE := fun w' => Lib.hid (encode_l ((out.length : Int) - a - 1) e q w' (by omega) (by omega) (by omega) (by omega) (by omega) (by omega))
  replace HSh := fun w' hw => Lib.hid (HSh w' hw)
  replace HT := fun w' hw => Lib.hid (HT w' hw)
  replace HP := Lib.hid HP
  have HO := Lib.hid hO
  have HL := Lib.hid hlen
  have t0 : (n.f0 == 0) = false := beq_eq_false_iff_ne.2 h0
  obtain ⟨f0, f1, f2, f3, l⟩ := n
  dsimp only [ndV] at *
  generalize f3.length = m3 at *
  generalize l.length = m4 at *
  obtain ⟨lo, hlo⟩ : ∃ m, out.length = m := ⟨_, rfl⟩
  obtain ⟨ls, hls⟩ : ∃ m, sw.length = m := ⟨_, rfl⟩
  obtain ⟨la, hla⟩ : ∃ m, sq.length = m := ⟨_, rfl⟩
  obtain ⟨lt, hlt⟩ : ∃ m, T.length = m := ⟨_, rfl⟩
  have HLO := Lib.hid hlo
  have HLS := Lib.hid hls
  have HTL : Hid (sq.length = lt) := Lib.hid (by rw [hTl, hlt])
  have HLT := Lib.hid hlt
  have HSA := Lib.hid hsa
  rw [hlt] at hTl HSA HT
  rw [hlo] at HC HSA HP hlen ha ⊢
  try rw [hlo] at HE HO
  rw [hls] at HSh hlen
  rw [hTl] at HSh
  generalize encL ((lo : Int) - a - 1) e q = ev at *
  unfold WdV
  rw [hlt]
  clear hC h0 hO hsa hlo hls hla hTl l f3
  go_enter Tryd.func26, Tryd.ntmps26
  go_wp2_with (first | go_skip | ((with_reducible refine wl ?_); refine sp_put (i := a) (y := ev) rfl rfl rfl S ?hpp rfl han (by kernel_rfl) rfl (fun w1 S => ?_); (case hpp => first | (go_simp; done) | (go_simp; rfl))) | ((with_reducible refine wl ?_); first | (refine sn S (fun g w1 S => ?_); first | ((fail_if_success (have := gn)); revert g; intro gn S) | ((fail_if_success (have := gp)); revert g; intro gp S)) | refine ss S (fun w1 S => ?_) | refine sl S ?_ | refine sa S ?_) | ((with_reducible refine (HSh _ S.below).out.mono ?_); rintro r w' ⟨A1, c1, A2, c2, rfl, hq1, hq2, hb⟩; replace S := S.call hb; have HB1 := Lib.hid S.below; have HGN := Lib.hid (blk_cells (cs := [.int .i64 f0, .int .i64 f1, .int .i64 f2, .slice A3 m3 c3, .slice A4 m4 c4]) (S.blk .here)); have HCw := Lib.hid (Kd.C_below HC.out S.below); have HQ1 := Lib.hid hq1; have HQ2 := Lib.hid hq2; replace S := Sep.start w'; clear hq1 hq2 hb) | ((with_reducible refine gate_dst (N := 45) rfl ?_); refine sp_lit (Kd.int .u64) 32 (N := 45) rfl rfl S [] [] ?hr (Reps.none _ _) (by simp) (fun g w1 S => ?_); (case hr => first | (go_simp; done) | (go_simp; rfl))) | ((with_reducible refine gate_builtin (b := .append) (xs := #[.tmp 45, .tmp 46]) rfl ?_); at_builtin; refine sp_rows S rfl rfl Tryd.underlying22 info32 rfl (by decide) (by omega) rfl rfl (Kd.C_below HCw.out S.below) (fun _ _ h => h) (by have := HL.out; have := HLO.out; simp; omega) (fun v1 w1 S => ?_)) | ((with_reducible refine gate_builtin (b := .append) (xs := #[.tmp 47, .tmp 48]) rfl ?_); at_builtin; refine sp_rows S rfl rfl Tryd.underlying22 info32 rfl (by decide) (by omega) rfl rfl (Kd.C_below HQ1.out S.below) (fun _ _ h => h) (by have := HL.out; have := HLO.out; have := HLS.out; simp; omega) (fun v1 w1 S => ?_); obtain ⟨go, no, co, rfl, hno⟩ := R_adrN (S.outR .here) (by have := HLO.out; simp; omega); have HNO := Lib.hid hno.out; clear hno; have han : a < no := by rw [HNO.out]; have := HLO.out; simp; omega) | ((with_reducible refine (HE _).out.mono ?_); rintro r w' ⟨rfl, hb⟩; replace S := S.call hb) | ((with_reducible refine wl ?_); refine sxa S HGN.out ?_) | ((with_reducible refine (HT _ (below_step HB1.out S.below)).out.mono ?_); rintro r w' ⟨A5, c5, rfl, hq3, hb⟩; replace S := S.call hb; have HQ3 := Lib.hid hq3; clear hq3 hb))
  have HN0 : Hid (no = (outs 0).length ∧ (Kd.int .u64).C _ (some ⟨go, 0, none⟩) no (outs 0) ∧ no ≤ co) := Lib.hid (by
    have e0 : ([] ++ out ++ sw).set a ev = outs 0 := by rw [HO.out]; rfl
    have hR := S.outR .here
    rw [e0] at hR
    have h1 := R_C hR
    have h3 := (Kd.R_reads' hR).2.1
    have h2 : no = (outs 0).length := by rw [HNO.out, ← e0, List.length_set]
    rw [h2] at h3 ⊢
    exact ⟨rfl, h1, h3⟩)
  have HBB := Lib.hid (below_step HB1.out S.below)
  have HQ2 := Lib.hid (Kd.C_below HQ2.out S.below)
  clear HSh HT HE HGN HCw HB1 HNO han HO t0 HQ1 HC ha he0 he1 hq0 hq1
  go_loopw [11, 13] (fun v k wr => ∃ (i : Nat) (A6 : Option Addr) (n6 c6 : Nat), i ≤ lt ∧ k = .int .i64 i ∧ v = .slice A6 n6 c6 ∧ Hid (n6 = (outs i).length ∧ (Kd.int .u64).C wr A6 n6 (outs i) ∧ n6 ≤ c6) ∧ Hid ((Kd.int .i64).C wr A2 lt sq) ∧ Hid (k37.C wr A5 lt T) ∧ Hid (Below w.heap.size w wr)) (fun _ k _ => lt - (intOf k).toNat)
  case atStart => exact ⟨0, _, _, _, Nat.zero_le _, rfl, rfl, HN0, HQ2, HQ3, HBB⟩
  case round =>
    clear S HN0 HBB HQ2 HQ3
    obtain ⟨i, A6, n6, c6, hi, rfl, rfl, HO, HQ2, HQ3, HB⟩ := hrel
    by_cases hil : i < lt
    · have hltb := HQ3.out.2.1
      obtain ⟨q, hq, hq2⟩ := HSA.out i hil
      have hdr := below_drew1 (Below.refl wr.heap.size wr)
      obtain ⟨ad, rfl, hv⟩ := cellI (by rw [HTL.out]; exact Kd.C_below HQ2.out hdr) i (by rw [HTL.out]; exact hil)
      obtain ⟨ae, B3, d3, B4, d4, rfl, hN⟩ := kid_at (by rw [HLT.out]; exact Kd.C_below HQ3.out hdr) i (by rw [HLT.out]; exact hil)
      obtain ⟨x, hx⟩ : ∃ x, T[i]'(by rw [HLT.out]; exact hil) = x := ⟨_, rfl⟩
      have hx2 : T[i]? = some x := by rw [← hx]; exact List.getElem?_eq_getElem _
      rw [hx] at hN
      have HPi := HP.out i x A6 c6 B3 d3 B4 d4 wr.drew hx2 (by rw [← HO.out.1]; exact Kd.C_below HO.out.2.1 hdr) (by rw [← HO.out.1]; exact HO.out.2.2) hN.K
      rw [hq] at hv HPi
      rw [← HO.out.1] at HPi
      have HPi := Lib.hid HPi
      have HND := Lib.hid hN.cells
      have hwr : IntKind.i64.wrap ((lo : Int) + (q : Int)) = (lo : Int) + q := (i64_w _).trans (w64 (by omega) (by omega))
      clear hx hx2 hN hq
      go_wp2
      refine bws (Sep.start wr) (fun S2 => ?_)
      refine pu 0 66 ?_
      refine pu 1 67 ?_
      refine pu 2 68 ?_
      refine pu 3 69 ?_
      refine pu 4 70 ?_
      refine bwl 5 hv (Below.refl _ _) ?_
      refine pu 6 72 ?_
      refine pu 7 73 ?_
      refine pu 8 74 ?_
      refine pu 9 75 ?_
      refine bwa 10 HND.out (Below.refl _ _) ?_
      refine bwc 11 77 Tryd.func26 HPi.out (fun r' w2 hT => ?_)
      obtain ⟨A7, c7, rfl, ⟨hC7, hc7⟩, hb⟩ := hT
      refine ⟨_, rfl, hb, _, rfl, ?_⟩
      simp only [Act.put, List.setIfInBounds_toArray, List.set_cons_zero, List.set_cons_succ]
      refine pu 12 11 ?_
      refine dn ?_
      clear hwr
      go_wp2
      go_roundw
      case rel => exact ⟨i + 1, _, _, _, by omega, by go_num, rfl, Lib.hid ⟨rfl, hC7, hc7⟩, Lib.hid (Kd.C_below HQ2.out (below_step hdr hb)), Lib.hid (Kd.C_below HQ3.out (below_step hdr hb)), Lib.hid (below_step (below_drew1 HB.out) hb)⟩
      case measure => simp [intOf]; omega
    · obtain rfl : i = lt := by omega
      go_wp2
      obtain ⟨hn6, hC6, hc6⟩ := HO.out
      subst hn6
      exact rt (Sep.start _) ⟨_, _, rfl, ⟨hC6, hc6⟩, HB.out⟩
end Go.Proofs.YtidglmocekghmaaDoor.Pr
end
section
namespace Go.Proofs.YtidglmocekghmaaDoor.Pr
set_option linter.unusedVariables false
set_option linter.unusedSimpArgs false
def BytN (b : List Int) : Prop := ∀ x ∈ b, 0 ≤ x ∧ x < 256
def fitN (n : S37) : Prop :=
 n.f0 = 0 ∨
 (n.f0 = 1 ∧ BytN n.f3 ∧ n.f3.length % 8 = 0 ∧ n.f3.length / 8 ≤ 65535 ∧ n.f4.length ≤ 65535) ∨
 (n.f0 = 2 ∧ 0 ≤ n.f1 ∧ n.f1 < 6 ∧ 0 ≤ n.f2 ∧ n.f2 ≤ 536870911 ∧ BytN n.f3 ∧ n.f3.length ≤ 8 * (wordsE n.f1 n.f2).toNat ∧ (wordsE n.f1 n.f2).toNat ≤ n.f3.length ∧ n.f4 = []) ∨
 (n.f0 = 2 ∧ n.f1 = 6 ∧ n.f2 = n.f4.length ∧ n.f4.length ≤ 536870911 ∧ n.f3 = []) ∨
 (n.f0 = 2 ∧ n.f1 = 7 ∧ n.f2 = n.f4.length ∧ n.f4.length ≤ 536870911 ∧ n.f3 = [] ∧ ∀ x ∈ n.f4, x.f0 = 1)
def fitT : S37 → Prop := AllT fitN
theorem fitN.kind {n : S37} (h : fitN n) (h0 : n.f0 ≠ 0) : n.f0 = 1 ∨ (n.f0 = 2 ∧ (n.f1 = 7 ∨ n.f1 = 6 ∨ n.f4 = [])) := by
 rcases h with h | h | h | h | h
 ·exact (h0 h).elim
 ·exact .inl h.1
 ·exact .inr ⟨h.1, .inr (.inr h.2.2.2.2.2.2.2.2)⟩
 ·exact .inr ⟨h.1, .inr (.inl h.2.1)⟩
 ·exact .inr ⟨h.1, .inl h.2.1⟩
theorem targets_size {n x : S37} (h : x ∈ targetsL n) : tsize x < tsize n := by
 unfold targetsL at h
 by_cases hq : n.f0 = 2 ∧ n.f1 = 7
 ·rw [if_pos hq] at h
  obtain ⟨y, hy, hx⟩ := List.mem_flatMap.1 h
  exact Nat.lt_trans (tsize_kid hx) (tsize_kid hy)
 ·rw [if_neg hq] at h
  exact tsize_kid h
theorem targets_fit {n : S37} (h : fitT n) : ∀ x ∈ targetsL n, fitT x := by
 intro x hx
 unfold targetsL at hx
 by_cases hq : n.f0 = 2 ∧ n.f1 = 7
 ·rw [if_pos hq] at hx
  obtain ⟨y, hy, hx⟩ := List.mem_flatMap.1 hx
  exact AllT.kids (AllT.kids h y hy) x hx
 ·rw [if_neg hq] at hx
  exact AllT.kids h x hx
mutual
theorem placeW_ge : ∀ (n : S37) (out : List Int) (a : Nat), out.length ≤ (placeW n out a).length
 | ⟨k, e, n, b, l⟩, out, a => by
  have h1 := putW_len ⟨k, e, n, b, l⟩ out a
  unfold placeW
  split
  ·exact Nat.le_refl _
  split
  ·exact Nat.le_trans (by omega) (placesW_ge l _ _)
  split
  ·exact Nat.le_trans (by omega) (placeE_ge _ _ l _ _)
  split
  ·exact Nat.le_trans (by omega) (placesW_ge l _ _)
  ·omega
theorem placesW_ge : ∀ (l : List S37) (out : List Int) (a : Nat), out.length ≤ (placesW l out a).length
 | [], out, a => by unfold placesW; exact Nat.le_refl _
 | x :: l, out, a => by unfold placesW; exact Nat.le_trans (placeW_ge x out a) (placesW_ge l _ _)
theorem placeE_ge (A B : Nat) : ∀ (l : List S37) (out : List Int) (a : Nat), out.length ≤ (placeE A B l out a).length
 | [], out, a => by unfold placeE; exact Nat.le_refl _
 | ⟨_, _, _, _, k⟩ :: l, out, a => by unfold placeE; exact Nat.le_trans (placesW_ge k out _) (placeE_ge A B l _ _)
end
theorem plAll_ge : ∀ (l : List S37) (ps : List Int) (st : Nat) (out : List Int), out.length ≤ (plAll l ps st out).length
 | x :: l, q :: ps, st, out => by unfold plAll; exact Nat.le_trans (placeW_ge x out _) (plAll_ge l ps st _)
 | [], _, _, _ => by unfold plAll; exact Nat.le_refl _
 | _ :: _, [], _, _ => by unfold plAll; exact Nat.le_refl _
theorem sq_add (x u : Nat) : (x + u) * (x + u) = x * x + 2 * (x * u) + u * u := by
 rw [Nat.add_mul, Nat.mul_add, Nat.mul_add, Nat.mul_comm u x]
 omega
theorem plAll_le {S : Nat} (hP : ∀ x, tsize x < S → ∀ (out : List Int) (a : Nat), fitT x → (placeW x out a).length ≤ out.length + tsize x * tsize x) : ∀ (l : List S37) (ps : List Int) (st : Nat) (out : List Int), (∀ x ∈ l, tsize x < S ∧ fitT x) → (plAll l ps st out).length ≤ out.length + tsizes l * tsizes l
 | x :: l, q :: ps, st, out, h => by
  unfold plAll
  have h1 := hP x (h x List.mem_cons_self).1 out (st + q.toNat) (h x List.mem_cons_self).2
  have h2 := plAll_le hP l ps st (placeW x out (st + q.toNat)) (fun y hy => h y (List.mem_cons_of_mem _ hy))
  rw [tsizes, sq_add]
  omega
 | [], _, _, _, _ => by unfold plAll; omega
 | _ :: _, [], _, _, _ => by unfold plAll; omega
theorem sumL (l : List S37) : maxD l ≤ tsizes l ∧ maxP l ≤ tsizes (l.flatMap (·.f4)) ∧ l.length + maxD l + tsizes (l.flatMap (·.f4)) ≤ tsizes l := by
 induction l with
 | nil => simp [maxD, maxP, tsizes]
 | cons y l ih =>
  obtain ⟨h1, h2, h3⟩ := ih
  have hs := tsize_eq y
  have ha : tsizes (y.f4 ++ l.flatMap (·.f4)) = tsizes y.f4 + tsizes (l.flatMap (·.f4)) := by
   generalize l.flatMap (·.f4) = m
   induction y.f4 with
   | nil => simp [tsizes]
   | cons z k ih => rw [List.cons_append, tsizes, tsizes, ih]; omega
  have hl := length_tsizes y.f4
  rw [List.flatMap_cons, ha]
  unfold maxD maxP
  rw [tsizes, List.length_cons]
  omega
theorem placeW_le : ∀ (S : Nat) (n : S37), tsize n < S → ∀ (out : List Int) (a : Nat), fitT n → (placeW n out a).length ≤ out.length + tsize n * tsize n
 | 0, n, h, _, _, _ => by omega
 | S + 1, n, h, out, a, hf => by
  by_cases h0 : n.f0 = 0
  ·obtain ⟨k, e, m, b, l⟩ := n
   unfold placeW
   rw [if_pos h0]
   omega
  have hk := (AllT.here hf).kind h0
  rw [placeW_all n out a h0 hk]
  have h1 := plAll_le (S := tsize n) (fun x hx out a hfx => placeW_le S x (by omega) out a hfx) (targetsL n) (atW n) out.length (putW n out a) (fun x hx => ⟨targets_size hx, targets_fit hf x hx⟩)
  rw [putW_len] at h1
  refine Nat.le_trans h1 ?_
  rw [Nat.add_assoc]
  refine Nat.add_le_add_left ?_ _
  have hs := tsize_eq n
  have hl := length_tsizes n.f4
  have main : ∀ (x U : Nat), 1 ≤ x → tsize n = x + U → (shallowW n).length ≤ x + 2 * U → (shallowW n).length + U * U ≤ tsize n * tsize n := by
   intro x U hx e hw
   rw [e, sq_add]
   have y1 : x * 1 ≤ x * x := Nat.mul_le_mul_left _ hx
   have y2 : 1 * U ≤ x * U := Nat.mul_le_mul_right _ hx
   omega
  rcases AllT.here hf with h | ⟨h, _, _, _, _⟩ | ⟨h, e0, e6, _, _, _, _, hw, hn⟩ | ⟨h, e6, _, _, h3⟩ | ⟨h, e7, _, _, h3, _⟩
  ·exact (h0 h).elim
  ·have hT : targetsL n = n.f4 := if_neg (by omega)
   rw [hT]
   refine main (1 + n.f3.length) (tsizes n.f4) (by omega) (by omega) ?_
   unfold shallowW
   rw [if_pos h, List.length_append, wordsB_len, List.length_replicate]
   omega
  ·have hT : targetsL n = n.f4 := if_neg (by omega)
   rw [hT]
   refine main (1 + n.f3.length) (tsizes n.f4) (by omega) (by omega) ?_
   unfold shallowW
   rw [if_neg (by omega), if_neg (by omega), if_neg (by omega), wordsB_len]
   omega
  ·have hT : targetsL n = n.f4 := if_neg (by omega)
   rw [hT]
   refine main (1 + n.f3.length) (tsizes n.f4) (by omega) (by omega) ?_
   unfold shallowW
   rw [if_neg (by omega), if_neg (by omega), if_pos e6, List.length_replicate]
   omega
  ·have hT : targetsL n = n.f4.flatMap (·.f4) := if_pos ⟨h, e7⟩
   rw [hT]
   obtain ⟨s1, s2, s3⟩ := sumL n.f4
   have hw : (shallowW n).length = 1 + n.f4.length * (maxD n.f4 + maxP n.f4) := by
    unfold shallowW
    rw [if_neg (by omega), if_pos e7, List.length_cons, shallowE_len]
    omega
   rw [hw]
   generalize maxD n.f4 = A at *
   generalize maxP n.f4 = B at *
   generalize tsizes (n.f4.flatMap (·.f4)) = U at *
   generalize n.f4.length = m at *
   have y0 : 1 + m + (A + U) ≤ tsize n := by omega
   have y1 : (1 + m + (A + U)) * (1 + m + (A + U)) ≤ tsize n * tsize n := Nat.mul_le_mul y0 y0
   rw [sq_add] at y1
   have y2 : m * (A + B) ≤ (1 + m) * (A + U) := Nat.mul_le_mul (by omega) (by omega)
   have y3 : U * U ≤ (A + U) * (A + U) := Nat.mul_le_mul (by omega) (by omega)
   have y4 : 1 * 1 ≤ (1 + m) * (1 + m) := Nat.mul_le_mul (by omega) (by omega)
   omega
end Go.Proofs.YtidglmocekghmaaDoor.Pr
end
section
namespace Go.Proofs.YtidglmocekghmaaDoor.Pr
open Go.RowKit Go.Proofs.YtidglmocekghmaaDoorW.PrintWords Go.Proofs.YtidglmocekghmaaDoorW.PrintLast Go.Proofs.YtidglmocekghmaaDoorW.PrintMore
set_option linter.unusedVariables false
set_option linter.unusedSimpArgs false
theorem K_below {w w' : World} {x : S37} {cs : List Value} (hb : Below w.heap.size w w') (h : k37.K w x cs) : k37.K w' x cs := k37.K_below hb h
theorem maxD_bd {l : List S37} {k : Nat} (h : ∀ x ∈ l, x.f3.length / 8 ≤ k) : maxD l ≤ k := by
 induction l with
 | nil => exact Nat.zero_le _
 | cons y l ih =>
  have h1 := h y List.mem_cons_self
  have h2 := ih (fun x hx => h x (List.mem_cons_of_mem _ hx))
  unfold maxD
  omega
theorem maxP_bd {l : List S37} {k : Nat} (h : ∀ x ∈ l, x.f4.length ≤ k) : maxP l ≤ k := by
 induction l with
 | nil => exact Nat.zero_le _
 | cons y l ih =>
  have h1 := h y List.mem_cons_self
  have h2 := ih (fun x hx => h x (List.mem_cons_of_mem _ hx))
  unfold maxP
  omega
theorem atW_le {n : S37} (h6 : n.f0 = 1 ∨ n.f1 = 7 ∨ n.f1 = 6 ∨ n.f4 = []) : (atW n).length ≤ (shallowW n).length := by
 unfold atW shallowW
 by_cases h1 : n.f0 = 1
 ·rw [if_pos h1, if_pos h1, atS_len, List.length_append, List.length_replicate]
  omega
 ·rw [if_neg h1, if_neg h1]
  by_cases h7 : n.f1 = 7
  ·rw [if_pos h7, if_pos h7, List.length_cons, shallowE_len]
   have := atE_len (maxD n.f4) (maxP n.f4) n.f4 1 (fun x hx => maxP_le hx)
   omega
  ·rw [if_neg h7, if_neg h7, atS_len]
   by_cases e6 : n.f1 = 6
   ·rw [if_pos e6, List.length_replicate]
    omega
   ·rcases h6 with h6 | h6 | h6 | h6
    ·exact (h1 h6).elim
    ·exact (h7 h6).elim
    ·exact (e6 h6).elim
    ·rw [h6]
     simp
theorem wd_mem {l : List Int} {i : Nat} (h : i < l.length) : wd l i ∈ l := by
 unfold wd
 rw [List.getD_eq_getElem?_getD, List.getElem?_eq_getElem h]
 exact List.getElem_mem h
theorem shallow_any (n : S37) (A3 A4 : Option Addr) (c3 c4 : Nat) (w : World) (h : k37.K w n (ndC n A3 c3 A4 c4)) (hf : fitT n) (h0 : n.f0 ≠ 0) (hs : (shallowW n).length ≤ 536870000) : Calls Tryd.prog 48 #[ndV n A3 c3 A4 c4] w (ShV w n) := by
 rcases AllT.here hf with h' | ⟨h1, hb, h8, hd, hp⟩ | ⟨h2, e0, e6, n0, n1, hb, hl, hw, hk⟩ | ⟨h2, e6, hn, hl, h3⟩ | ⟨h2, e7, hn, hl, h3, hx⟩
 ·exact (h0 h').elim
 ·exact shallow_s n A3 A4 c3 c4 w h h1 hb h8 hd hp
 ·exact shallow_l n A3 A4 c3 c4 w h h2 (by omega) hb n0 n1 hl (fun e => by omega) (by rw [hk]; simp)
 ·exact shallow_l n A3 A4 c3 c4 w h h2 (by omega) (by rw [h3]; intro x hx; cases hx) (by omega) (by omega) (by rw [h3]; simp) (fun _ => ⟨h3, hn.symm⟩) hl
 ·have hk : ∀ x ∈ n.f4, BytN x.f3 ∧ x.f3.length % 8 = 0 ∧ x.f3.length / 8 ≤ 65535 ∧ x.f4.length ≤ 65535 := fun x hx2 => by
   have h1 := hx x hx2
   rcases AllT.here (AllT.kids hf x hx2) with h' | h' | h' | h' | h'
   ·omega
   ·exact h'.2
   ·omega
   ·omega
   ·omega
  have hsl : (shallowW n).length = n.f4.length * (maxD n.f4 + maxP n.f4) + 1 := by
   unfold shallowW
   rw [if_neg (by omega), if_pos e7, List.length_cons, shallowE_len]
  exact shallow_c n A3 A4 c3 c4 w h h2 e7 (fun x hx2 => ⟨(hk x hx2).1, (hk x hx2).2.1⟩) hn hl (maxD_bd (fun x hx2 => (hk x hx2).2.2.1)) (maxP_bd (fun x hx2 => (hk x hx2).2.2.2)) (by omega)
set_option maxRecDepth 100000 in
theorem place_0 (n : S37) (A3 A4 : Option Addr) (c3 c4 : Nat) (A : Option Addr) (c : Nat) (out : List Int) (a : Nat) (w : World) (hC : (Kd.int .u64).C w A out.length out) (hcp : out.length ≤ c) (h0 : n.f0 = 0) :
    Calls Tryd.prog 26 #[.slice A out.length c, .int .i64 a, ndV n A3 c3 A4 c4] w (WdV w out) := by
  have S := Sep.start w
  have HC := Lib.hid hC
  have HCP := Lib.hid hcp
  obtain ⟨f0, f1, f2, f3, l⟩ := n
  dsimp only [ndV] at *
  subst h0
  unfold WdV
  clear hC hcp
  go_enter Tryd.func26, Tryd.ntmps26
  go_wp2_with (first | go_skip | ((with_reducible refine wl ?_); first | refine sn S (fun g w1 S => ?_) | refine sl S ?_))
  exact rt S ⟨_, _, rfl, ⟨Kd.C_below HC.out S.below, HCP.out⟩, S.below⟩
theorem place_any : ∀ (S : Nat) (n : S37), tsize n < S → fitT n → ∀ (A : Option Addr) (c : Nat) (out : List Int) (a : Nat) (A3 : Option Addr) (c3 : Nat) (A4 : Option Addr) (c4 : Nat) (w : World), (Kd.int .u64).C w A out.length out → out.length ≤ c → a < out.length → (placeW n out a).length ≤ 536870000 → k37.K w n (ndC n A3 c3 A4 c4) →
  Calls Tryd.prog 26 #[.slice A out.length c, .int .i64 a, ndV n A3 c3 A4 c4] w (WdV w (placeW n out a))
 | 0, n, h, _ => by omega
 | S + 1, n, hS, hf => by
  intro A c out a A3 c3 A4 c4 w hC hcp ha hlen hK
  by_cases h0 : n.f0 = 0
  ·have e : placeW n out a = out := by
    obtain ⟨k, e, m, b, l⟩ := n
    unfold placeW
    exact if_pos h0
   rw [e]
   exact place_0 n A3 A4 c3 c4 A c out a w hC hcp h0
  have hk := (AllT.here hf).kind h0
  have hk6 : n.f0 = 1 ∨ n.f1 = 7 ∨ n.f1 = 6 ∨ n.f4 = [] := hk.elim .inl (fun h => .inr h.2)
  have hk12 : n.f0 = 1 ∨ n.f0 = 2 := hk.elim .inl (fun h => .inr h.1)
  have hpair := atW_pair n hk12
  have hall := placeW_all n out a h0 hk
  have hput := putW_len n out a
  have hge := plAll_ge (targetsL n) (atW n) out.length (putW n out a)
  rw [← hall] at hge
  have hsl : out.length + (shallowW n).length ≤ 536870000 := by omega
  have hfin : (fun i => plAll ((targetsL n).take i) ((atW n).take i) out.length (putW n out a)) (targetsL n).length = placeW n out a := by
   dsimp only
   rw [List.take_length, ← hpair, List.take_length, hall]
  have HP : PlR_ out.length (atW n) (targetsL n) (fun i => plAll ((targetsL n).take i) ((atW n).take i) out.length (putW n out a)) := by
   intro i x A' c' B3 d3 B4 d4 w' hx hC' hcp' hK'
   obtain ⟨hi, rfl⟩ := List.getElem?_eq_some_iff.1 hx
   have hi2 : i < (atW n).length := by omega
   have hm : wd (atW n) i ∈ atW n := wd_mem hi2
   obtain ⟨q, hq, hql⟩ := atW_mem hk6 hm
   have e1 : plAll ((targetsL n).take (i + 1)) ((atW n).take (i + 1)) out.length (putW n out a) = placeW (targetsL n)[i] (plAll ((targetsL n).take i) ((atW n).take i) out.length (putW n out a)) (out.length + q) := by
    rw [take_snoc _ _ hi, take_wd _ _ hi2, plAll_snoc _ _ _ _ _ _ (by rw [List.length_take, List.length_take]; omega), hq, Int.toNat_natCast]
   have hge2 := plAll_ge ((targetsL n).take i) ((atW n).take i) out.length (putW n out a)
   have hrest : (plAll ((targetsL n).take (i + 1)) ((atW n).take (i + 1)) out.length (putW n out a)).length ≤ (placeW n out a).length := by
    have h1 := plAll_append ((targetsL n).take (i + 1)) ((atW n).take (i + 1)) ((targetsL n).drop (i + 1)) ((atW n).drop (i + 1)) out.length (putW n out a) (by rw [List.length_take, List.length_take]; omega)
    rw [List.take_append_drop, List.take_append_drop, ← hall] at h1
    rw [h1]
    exact plAll_ge _ _ _ _
   have hsz := targets_size (List.getElem_mem hi)
   have IH := place_any S (targetsL n)[i] (by omega) (targets_fit hf _ (List.getElem_mem hi)) A' c' (plAll ((targetsL n).take i) ((atW n).take i) out.length (putW n out a)) (out.length + q) B3 d3 B4 d4 w' hC' hcp' (by omega) (by rw [← e1]; omega) hK'
   rw [← e1, Int.natCast_add] at IH
   rw [hq]
   exact IH
  have HSh : ∀ w', Below w.heap.size w w' → Calls Tryd.prog 48 #[ndV n A3 c3 A4 c4] w' (ShV w' n) := fun w' hb => shallow_any n A3 A4 c3 c4 w' (K_below hb hK) hf h0 (by omega)
  have hle := atW_le hk6
  have HT : TaR_ n A3 c3 A4 c4 (targetsL n) w := fun w' hb => targets_any n A3 A4 c3 c4 w' (K_below hb hK) (by omega)
  have hsa : ∀ i, i < (targetsL n).length → ∃ q : Nat, wd (atW n) i = q ∧ out.length + q ≤ 536870000 := fun i hi => by
   obtain ⟨q, hq, hql⟩ := atW_mem hk6 (wd_mem (by omega : i < (atW n).length))
   exact ⟨q, hq, by omega⟩
  have hO : (fun i => plAll ((targetsL n).take i) ((atW n).take i) out.length (putW n out a)) 0 = (out ++ shallowW n).set a (ptrW n ((out.length : Int) - a - 1)) := by
   dsimp only
   rw [List.take_zero, List.take_zero]
   rfl
  rw [← hfin]
  rcases AllT.here hf with h' | ⟨h1, hb, h8, hd, hp⟩ | ⟨h2, e0, e6, n0, n1, hb, hl, hw, hk⟩ | ⟨h2, e6, hn, hl, h3⟩ | ⟨h2, e7, hn, hl, h3, hx⟩
  ·exact (h0 h').elim
  ·have hv : ptrV n = ptS 0 (n.f3.length / 8 : Nat) n.f4.length := if_pos h1
   have HS2 : ShR_ n A3 c3 A4 c4 (ptS 0 (n.f3.length / 8 : Nat) n.f4.length) (shallowW n) (atW n) w := fun w' hb => by
    have := HSh w' hb
    unfold ShV at this
    rwa [hv] at this
   have hpt : ptrW n ((out.length : Int) - a - 1) = if n.f3.length / 8 + n.f4.length = 0 then encS (-1) 0 0 else encS ((out.length : Int) - a - 1) (n.f3.length / 8 : Nat) n.f4.length := if_pos h1
   rw [hpt] at hO
   by_cases hd0 : n.f3.length / 8 = 0
   ·by_cases hp0 : n.f4.length = 0
    ·rw [if_pos (by omega)] at hO
     exact place_s3 n A3 A4 c3 c4 A c out a _ _ w _ _ _ _ hC ha h0 HS2 HT hsl hsa hpair hd hp hd0 hp0 (hO.trans (by rw [hd0, hp0]; rfl)) HP
    ·rw [if_neg (by omega)] at hO
     exact place_s2 n A3 A4 c3 c4 A c out a _ _ w _ _ _ _ hC ha h0 HS2 HT hsl hsa hpair hd hp hd0 hp0 hO HP
   ·rw [if_neg (by omega)] at hO
    exact place_s1 n A3 A4 c3 c4 A c out a _ _ w _ _ _ _ hC ha h0 HS2 HT hsl hsa hpair hd hp hd0 hO HP
  ·have hv : ptrV n = ptL 0 n.f1 n.f2 := by unfold ptrV; rw [if_neg (by omega), if_neg (by omega)]
   have HS2 : ShR_ n A3 c3 A4 c4 (ptL 0 n.f1 n.f2) (shallowW n) (atW n) w := fun w' hb => by
    have := HSh w' hb
    unfold ShV at this
    rwa [hv] at this
   have hpt : ptrW n ((out.length : Int) - a - 1) = encL ((out.length : Int) - a - 1) n.f1 n.f2 := by unfold ptrW; rw [if_neg (by omega), if_neg (by omega), if_neg (by omega)]
   rw [hpt] at hO
   exact place_l n A3 A4 c3 c4 A c out a _ _ w _ _ _ _ hC ha h0 HS2 HT hsl hsa hpair (by omega) (by omega) (by omega) (by omega) hO HP
  ·have hv : ptrV n = ptL 0 n.f1 n.f2 := by unfold ptrV; rw [if_neg (by omega), if_neg (by omega)]
   have HS2 : ShR_ n A3 c3 A4 c4 (ptL 0 n.f1 n.f2) (shallowW n) (atW n) w := fun w' hb => by
    have := HSh w' hb
    unfold ShV at this
    rwa [hv] at this
   have hpt : ptrW n ((out.length : Int) - a - 1) = encL ((out.length : Int) - a - 1) n.f1 n.f2 := by unfold ptrW; rw [if_neg (by omega), if_neg (by omega), if_pos e6, e6, hn]
   rw [hpt] at hO
   exact place_l n A3 A4 c3 c4 A c out a _ _ w _ _ _ _ hC ha h0 HS2 HT hsl hsa hpair (by omega) (by omega) (by omega) (by omega) hO HP
  ·have hv : ptrV n = ptL 0 7 (n.f4.length * (maxD n.f4 + maxP n.f4) : Nat) := by unfold ptrV; rw [if_neg (by omega), if_pos e7]
   have HS2 : ShR_ n A3 c3 A4 c4 (ptL 0 7 (n.f4.length * (maxD n.f4 + maxP n.f4) : Nat)) (shallowW n) (atW n) w := fun w' hb => by
    have := HSh w' hb
    unfold ShV at this
    rwa [hv] at this
   have hpt : ptrW n ((out.length : Int) - a - 1) = encL ((out.length : Int) - a - 1) 7 (n.f4.length * (maxD n.f4 + maxP n.f4) : Nat) := by unfold ptrW; rw [if_neg (by omega), if_pos e7]
   have hsw : (shallowW n).length = n.f4.length * (maxD n.f4 + maxP n.f4) + 1 := by
    unfold shallowW
    rw [if_neg (by omega), if_pos e7, List.length_cons, shallowE_len]
   rw [hpt] at hO
   exact place_l n A3 A4 c3 c4 A c out a _ _ w _ _ _ _ hC ha h0 HS2 HT hsl hsa hpair (by omega) (by omega) (by omega) (by omega) hO HP
end Go.Proofs.YtidglmocekghmaaDoor.Pr
end
section
namespace Go.Proofs.YtidglmocekghmaaDoor.Pr
set_option linter.unusedVariables false
set_option linter.unusedSimpArgs false
theorem Byt.N {b : List Int} (h : Byt b) : BytN b := fun x hx => by
 obtain ⟨i, hi, rfl⟩ := List.mem_iff_getElem.1 hx
 have := h i
 rwa [List.getD_eq_getElem?_getD, List.getElem?_eq_getElem hi] at this
theorem kidsR_all {v : Int → Int → Tr} {p : S37 → Prop} (hv : ∀ a m, (v a m).2.2 = 0 → p (v a m).1) : ∀ (n : Nat) (a m : Int), (kidsR v n a m).2.2 = 0 → (kidsR v n a m).1.length = n ∧ ∀ x ∈ (kidsR v n a m).1, p x
 | 0, a, m, h => by simp [kidsR]
 | n + 1, a, m, h => by
  revert h
  unfold kidsR
  split
  ·rename_i he
   intro h
   exact (he h).elim
  ·rename_i he
   have he : (v a m).2.2 = 0 := by omega
   intro h
   have h2 := kidsR_all hv n (a + 1) (v a m).2.1 h
   refine ⟨by simp [h2.1], fun x hx => ?_⟩
   rcases List.mem_cons.1 hx with rfl | hx
   ·exact hv a m he
   ·exact h2.2 x hx
theorem fitZ : fitT ndZ := .mk (.inl rfl) (by intro x hx; simp [ndZ] at hx)
theorem cutG_length {G : List (List Int)} {s a n : Int} (h : inG G s a n = true) : (cutG G s a n).length = n.toNat := by
 unfold inG at h
 rw [decide_eq_true_eq] at h
 unfold cutG
 rw [List.length_take, List.length_drop]
 omega
theorem strR_fit {G : List (List Int)} {v : Int → Int → Int → Tr} (hv : ∀ sg a m, (v sg a m).2.2 = 0 → fitT (v sg a m).1) (o : Ob) (m : Int) (d0 : 0 ≤ o.d) (d1 : o.d ≤ 65535) (p0 : 0 ≤ o.p) (p1 : o.p ≤ 65535) (h : (strR G v o m).2.2 = 0) : fitT (strR G v o m).1 ∧ (strR G v o m).1.f0 = 1 := by
 have hk := kidsR_all (hv o.sg) o.p.toNat (o.ad + o.d) m
 revert h
 unfold strR
 split
 ·rename_i he
  intro h
  exact (he h).elim
 ·rename_i he
  intro _
  obtain ⟨h1, h2⟩ := hk (by omega)
  have hc := cutG_length_le G o.sg o.ad o.d d0
  have hb := bytesL_length (cutG G o.sg o.ad o.d)
  refine ⟨.mk (.inr (.inl ⟨rfl, bytesL_bd _, ?_, ?_, ?_⟩)) h2, rfl⟩
  ·show (bytesL _).length % 8 = 0
   omega
  ·show (bytesL _).length / 8 ≤ 65535
   omega
  ·show (kidsR _ _ _ _).1.length ≤ 65535
   omega
theorem wordsE_bytes (e c : Int) (he : e < 6) (c0 : 0 ≤ c) : (wordsE e c).toNat ≤ (bytesE e c).toNat ∧ (bytesE e c).toNat ≤ 8 * (wordsE e c).toNat := by
 have hb : 0 ≤ bitsE e * c := Int.mul_nonneg (bitsE_bd e).1 c0
 unfold wordsE bytesE
 rw [if_neg (by omega)]
 generalize bitsE e * c = z at *
 omega
theorem valR_fit (G : List (List Int)) : ∀ (f : Nat) (sg a m : Int), (valR G f sg a m).2.2 = 0 → fitT (valR G f sg a m).1
 | f, sg, a, m => by
  induction f generalizing sg a m with
  | zero =>
   rw [valR]
   split
   ·exact fun _ => fitZ
   split
   ·exact fun _ => fitZ
   ·exact fun _ => fitZ
  | succ f ih =>
   rw [valR]
   split
   ·exact fun _ => fitZ
   rename_i he
   split
   ·exact fun _ => fitZ
   rename_i hx
   split
   ·exact fun _ => fitZ
   rename_i ho
   have hK := obj_ok G sg a (by omega) (by omega) hx
   generalize objG G sg a = q at *
   obtain ⟨o, _⟩ := q
   dsimp only at hK ⊢
   split
   ·exact fun _ => fitZ
   have hst := fun (o : Ob) m => strR_fit (G := G) (fun sg a m h => ih sg a m h) o m
   unfold bodR
   rcases hK.is with ⟨hk, hi, d0, d1, p0, p1⟩ | ⟨hk, e0, e6, n0, n1, hw, hi⟩ | ⟨hk, e7, n0, n1, d0, d1, p0, p1, C, hi, hCC⟩
   ·rw [if_pos hk]
    intro h
    exact (hst o (m - o.c) d0 d1 p0 p1 h).1
   ·rw [if_neg (by omega)]
    by_cases he6 : o.e < 6
    ·rw [if_pos he6]
     intro _
     obtain ⟨w1, w2⟩ := wordsE_bytes o.e o.n he6 n0
     have hcl := cutG_length hi
     have hbl := bytesL_length (cutG G o.sg o.ad o.c)
     have ht := trimE_length o.e o.n (bytesL (cutG G o.sg o.ad o.c)) (by rw [hbl, hcl, hw]; omega)
     refine .mk (.inr (.inr (.inl ⟨hk ▸ rfl, e0, he6, n0, n1, Byt.N (trimE_byt (bytesL_bd _)), ?_, ?_, rfl⟩))) (by intro x hx; cases hx)
     ·show (trimE _ _ _).length ≤ 8 * (wordsE o.e o.n).toNat
      rw [ht]; exact w2
     ·show (wordsE o.e o.n).toNat ≤ (trimE _ _ _).length
      rw [ht]; exact w1
    ·have he6 : o.e = 6 := by omega
     rw [if_neg (by omega), if_pos he6]
     have hk := kidsR_all (fun a m h => ih o.sg a m h) o.n.toNat o.ad (m - o.c)
     split
     ·rename_i hh
      intro h
      exact (hh h).elim
     ·rename_i hh
      intro _
      obtain ⟨h1, h2⟩ := hk (by omega)
      refine .mk (.inr (.inr (.inr (.inl ⟨rfl, he6, ?_, ?_, rfl⟩)))) h2
      ·show o.n = ((kidsR _ _ _ _).1.length : Int)
       omega
      ·show (kidsR _ _ _ _).1.length ≤ 536870911
       omega
   ·rw [if_neg (by omega), if_neg (by omega), if_neg (by omega), elsR_kids]
    have hkk := kidsR_all (v := fun i m => strR G (valR G f) (elG o i) m) (p := fun x => fitT x ∧ x.f0 = 1) (fun i m h => hst (elG o i) m d0 d1 p0 p1 h) o.n.toNat 0 (m - o.c)
    split
    ·rename_i hh
     intro h
     exact (hh h).elim
    ·rename_i hh
     intro _
     obtain ⟨h1, h2⟩ := hkk (by omega)
     refine .mk (.inr (.inr (.inr (.inr ⟨rfl, e7, ?_, ?_, rfl, fun x hx => (h2 x hx).2⟩)))) (fun x hx => (h2 x hx).1)
     ·show o.n = ((kidsR _ _ _ _).1.length : Int)
      omega
     ·show (kidsR _ _ _ _).1.length ≤ 536870911
      omega
theorem cutK_mem {a x : S37} (h : x ∈ cutK a) : x ∈ a.f4 := by
 unfold cutK at h
 split at h
 ·exact List.mem_of_mem_take h
 ·exact h
theorem ttrim_fit (a : S37) : fitT a → fitT (ttrim a) := by
 refine S37.ind (P := fun a => fitT a → fitT (ttrim a)) (fun a ih h => ?_) a
 have hk : ∀ x ∈ (cutK a).map ttrim, fitT x := fun x hx => by
  obtain ⟨y, hy, rfl⟩ := List.mem_map.1 hx
  exact ih y (cutK_mem hy) (AllT.kids h y (cutK_mem hy))
 rw [ttrim_eq]
 refine .mk ?_ hk
 rcases AllT.here h with h0 | ⟨h1, hb, h8, hd, hp⟩ | ⟨h2, e0, e6, n0, n1, hb, hl, hw, hk0⟩ | ⟨h2, e6, hn, hl, h3⟩ | ⟨h2, e7, hn, hl, h3, hx⟩
 ·exact .inl h0
 ·refine .inr (.inl ⟨h1, ?_, ?_, ?_, ?_⟩)
  all_goals unfold cutD cutK; dsimp only; rw [if_pos h1]
  ·exact fun x hx => hb x (List.mem_of_mem_take hx)
  ·rw [List.length_take]; omega
  ·rw [List.length_take]; omega
  ·rw [List.length_map, List.length_take]; omega
 ·refine .inr (.inr (.inl ⟨h2, e0, e6, n0, n1, ?_, ?_, ?_, ?_⟩))
  all_goals unfold cutD cutK; dsimp only; rw [if_neg (by omega)]
  ·exact hb
  ·exact hl
  ·exact hw
  ·rw [hk0]; rfl
 ·refine .inr (.inr (.inr (.inl ⟨h2, e6, ?_, ?_, ?_⟩)))
  all_goals unfold cutD cutK; dsimp only; rw [if_neg (by omega)]
  ·rw [List.length_map]; exact hn
  ·rw [List.length_map]; exact hl
  ·exact h3
 ·refine .inr (.inr (.inr (.inr ⟨h2, e7, ?_, ?_, ?_, ?_⟩)))
  all_goals unfold cutD cutK; dsimp only; rw [if_neg (by omega)]
  ·rw [List.length_map]; exact hn
  ·rw [List.length_map]; exact hl
  ·exact h3
  ·intro x hx'
   obtain ⟨y, hy, rfl⟩ := List.mem_map.1 hx'
   rw [ttrim_f0]
   exact hx y hy
theorem ttrim_size (a : S37) : tsize (ttrim a) ≤ tsize a := by
 refine S37.ind (P := fun a => tsize (ttrim a) ≤ tsize a) (fun a ih => ?_) a
 have hd : (cutD a).length ≤ a.f3.length := by
  unfold cutD
  split
  ·rw [List.length_take]; omega
  ·exact Nat.le_refl _
 have hm : ∀ l : List S37, (∀ x ∈ l, tsize (ttrim x) ≤ tsize x) → tsizes (l.map ttrim) ≤ tsizes l := by
  intro l
  induction l with
  | nil => intro _; simp [tsizes]
  | cons y l ihl =>
   intro h
   have h1 := h y List.mem_cons_self
   have h2 := ihl (fun x hx => h x (List.mem_cons_of_mem _ hx))
   rw [List.map_cons, tsizes, tsizes]
   omega
 have hc : tsizes (cutK a) ≤ tsizes a.f4 := by
  unfold cutK
  split
  ·generalize keptN nullN a.f4 = k
   have : ∀ (l : List S37) (k : Nat), tsizes (l.take k) ≤ tsizes l := by
    intro l
    induction l with
    | nil => intro k; simp [tsizes]
    | cons y l ihl =>
     intro k
     cases k with
     | zero => simp [tsizes]
     | succ k => have := ihl k; rw [List.take_succ_cons, tsizes, tsizes]; omega
   exact this _ _
  ·exact Nat.le_refl _
 have h2 := hm (cutK a) (fun x hx => ih x (cutK_mem hx))
 rw [ttrim_eq, tsize_eq, tsize_eq a]
 dsimp only
 omega
theorem msg_fit {G : List (List Int)} {D Wd : Int} (hW : Wd ≤ 2000) (h : (msgR G D Wd).2 = 0) : fitT (msgR G D Wd).1 ∧ tsize (msgR G D Wd).1 ≤ 18001 := by
 have hz : tsize ndZ ≤ 18001 := by rw [tsize_eq]; simp [ndZ, tsizes]
 revert h
 unfold msgR
 split
 ·exact fun _ => ⟨fitZ, hz⟩
 split
 ·exact fun _ => ⟨fitZ, hz⟩
 ·rename_i h1 h2
  intro _
  have hs0 : 0 ≤ startM Wd ∧ startM Wd ≤ 2000 := by unfold startM; split <;> omega
  have hv : (valR G D.toNat 0 0 (startM Wd)).2.2 = 0 := by omega
  have hg := valR_good G D.toNat 0 0 (startM Wd) hs0.1 hv
  have hn := valR_sinks G D.toNat 0 0 (startM Wd) hs0.1
  have ht := ttrim_size (valR G D.toNat 0 0 (startM Wd)).1
  exact ⟨ttrim_fit _ (valR_fit G _ _ _ _ hv), by dsimp only; omega⟩
theorem write_len {n : S37} (h : fitT n) (hs : tsize n ≤ 18001) : (writeW n).length ≤ 536870000 := by
 have h1 := placeW_le (tsize n + 1) n (Nat.lt_succ_self _) [0] 0 h
 have h2 : tsize n * tsize n ≤ 18001 * 18001 := Nat.mul_le_mul hs hs
 unfold writeW
 simp only [List.length_cons, List.length_nil] at h1
 omega
end Go.Proofs.YtidglmocekghmaaDoor.Pr
end
section
namespace Go.Proofs.YtidglmocekghmaaDoor.Pr
open Go.RowKit Go.Proofs.YtidglmocekghmaaDoorW.PrintWords Go.Proofs.YtidglmocekghmaaDoorW.PrintLast Go.Proofs.YtidglmocekghmaaDoorW.PrintMore
set_option linter.unusedVariables false
set_option linter.unusedSimpArgs false
set_option maxRecDepth 100000 in
set_option maxHeartbeats 4000000 in
theorem write_any (n : S37) (A3 A4 : Option Addr) (c3 c4 : Nat) (w : World) (h : k37.K w n (ndC n A3 c3 A4 c4)) (hf : fitT n) (hl : (writeW n).length ≤ 536870000) :
    Calls Tryd.prog 15 #[ndV n A3 c3 A4 c4] w (WdV w (writeW n)) := by
  have HP := fun (A : Option Addr) (c : Nat) w' (hw : Below w.heap.size w w') (hC : (Kd.int .u64).C w' A 1 [0]) (hcp : 1 ≤ c) => Lib.hid (show Calls Tryd.prog 26 #[.slice A 1 c, .int .i64 0, ndV n A3 c3 A4 c4] w' (WdV w' (writeW n)) from place_any (tsize n + 1) n (Nat.lt_succ_self _) hf A c [0] 0 A3 c3 A4 c4 w' hC hcp (by simp) hl (K_below hw h))
  have S := Sep.start w
  obtain ⟨f0, f1, f2, f3, l⟩ := n
  dsimp only [ndV] at *
  generalize writeW ⟨f0, f1, f2, f3, l⟩ = T at *
  generalize f3.length = m3 at *
  generalize l.length = m4 at *
  unfold WdV at *
  clear h hf hl
  go_enter Tryd.func15, Tryd.ntmps15
  go_wp2_with (first | go_skip | ((with_reducible refine wl ?_); first | refine sn S (fun g w1 S => ?_) | refine sa S.tail ?_) | ((with_reducible refine gate_dst (N := 3) rfl ?_); refine sp_lit (Kd.int .u64) 32 (N := 3) rfl rfl S [0] [.int .u64 0] ?hr ?hp (by simp) (fun g w1 S => ?_); (case hr => first | (go_simp; done) | (go_simp; rfl)); (case hp => exact Reps.snoc (Reps.none _ _) rfl rfl)) | ((with_reducible refine (HP _ _ _ S.below (R_C (S.outR .here)) (by simp)).out.mono ?_); rintro r w' ⟨A', c', rfl, hC, hb⟩; replace S := S.call hb))
  exact rt S ⟨_, _, rfl, hC, S.below⟩
def W15V (w : World) (q : S37 × Int) (r : Ending) (w' : World) : Prop := (q.2 ≠ 0 ∧ r = .returned (.tuple #[.slice none 0 0, .int .i64 q.2]) ∧ Below w.heap.size w w') ∨ (q.2 = 0 ∧ ∃ A c, r = .returned (.tuple #[.slice A (writeW q.1).length c, .int .i64 0]) ∧ ((Kd.int .u64).C w' A (writeW q.1).length (writeW q.1) ∧ (writeW q.1).length ≤ c) ∧ Below w.heap.size w w')
set_option maxRecDepth 100000 in
set_option maxHeartbeats 4000000 in
theorem words15_any (A : Option Addr) (cp : Nat) (G : List (List Int)) (D Wd O : Int) (w : World) (hE : EnvG w A G) (hD : D ≤ 40) (hW : Wd ≤ 2000) :
    Calls Tryd.prog 12 #[.slice A G.length cp, limV D Wd O] w (W15V w (msgR G D Wd)) := by
  have HM := fun w' (hb : Below w.heap.size w w') => Lib.hid (msg_any A cp G D Wd O w' (hE.below hb) hD hW)
  have HF := fun h => msg_fit (G := G) (D := D) hW h
  have S := Sep.start w
  generalize G.length = lG at *
  generalize msgR G D Wd = q at *
  obtain ⟨n, e⟩ := q
  dsimp only at *
  unfold W15V
  by_cases he : e = 0
  · subst he
    obtain ⟨hf, hs⟩ := HF rfl
    have HWr := fun (B3 : Option Addr) (d3 : Nat) (B4 : Option Addr) (d4 : Nat) w' (h : k37.K w' n (ndC n B3 d3 B4 d4)) => Lib.hid (write_any n B3 B4 d3 d4 w' h hf (write_len hf hs))
    dsimp only
    generalize writeW n = T at *
    obtain ⟨f0, f1, f2, f3, l⟩ := n
    dsimp only [ndV, ndC] at *
    clear hf hs HF hE
    go_enter Tryd.func12, Tryd.ntmps12
    go_wp2_with (first | go_skip | ((with_reducible refine wl ?_); first | refine sn S (fun g w1 S => ?_) | refine ss S (fun w1 S => ?_) | refine sa S ?_) | ((with_reducible refine (HM _ S.below).out.mono ?_); rintro r w' ⟨v3, v4, rfl, hM, hb⟩; obtain ⟨B3, d3, B4, d4, e5, -⟩ := k37_open (k37.K_of_M hM); simp only [List.cons.injEq, true_and, and_true] at e5; obtain ⟨rfl, rfl⟩ := e5; replace S := S.push (a := .made k37 _ _) hb hM; dsimp only at S) | ((with_reducible refine (HWr _ _ _ _ _ (k37.K_of_M (S.out (.there .here)))).out.mono ?_); rintro r w' ⟨A', c', rfl, hC, hb⟩; replace S := S.call hb))
    exact rt S (.inr ⟨trivial, _, _, rfl, hC, S.below⟩)
  · have te : (e != 0) = true := bne_iff_ne.2 he
    have HE := Lib.hid he
    obtain ⟨f0, f1, f2, f3, l⟩ := n
    dsimp only
    clear HF hE he
    go_enter Tryd.func12, Tryd.ntmps12
    go_wp2_with (first | go_skip | ((with_reducible refine wl ?_); first | refine sn S (fun g w1 S => ?_) | refine ss S (fun w1 S => ?_) | refine sa S ?_) | ((with_reducible refine (HM _ S.below).out.mono ?_); rintro r w' ⟨v3, v4, rfl, hM, hb⟩; obtain ⟨B3, d3, B4, d4, e5, -⟩ := k37_open (k37.K_of_M hM); simp only [List.cons.injEq, true_and, and_true] at e5; obtain ⟨rfl, rfl⟩ := e5; replace S := S.push (a := .made k37 _ _) hb hM; dsimp only at S))
    exact rt S (.inl ⟨HE.out, rfl, S.below⟩)
end Go.Proofs.YtidglmocekghmaaDoor.Pr
end
section
namespace Go.Proofs.YtidglmocekghmaaDoor.Pr
open Go.RowKit Go.Proofs.YtidglmocekghmaaDoorW.PrintWords Go.Proofs.YtidglmocekghmaaDoorW.PrintLast Go.Proofs.YtidglmocekghmaaDoorW.PrintMore
set_option linter.unusedVariables false
set_option linter.unusedSimpArgs false
def capnplaw16_awake.f : Option Bool := some true
theorem ex0 : canoncheck_Words.f 0 [4294967296, 5] 5 50 0 = some true := by kernel_rfl
theorem ex1 : canoncheck_Words.f 0 [4294967296, 0] 5 50 0 = some false := by kernel_rfl
theorem ex2 : canoncheck_Words.f 0 [4294967296, 5, 0] 5 50 0 = some false := by kernel_rfl
theorem ex3 : canoncheck_Words.f 0 [4294967300, 0, 5] 5 50 0 = some false := by kernel_rfl
theorem ex4 : canoncheck_Words.f 0 [0] 5 50 0 = some true := by kernel_rfl
theorem ex5 : canoncheck_Words.f 0 [] 5 50 0 = some false := by kernel_rfl
theorem ex6 : canoncheck_Words.f 0 [4294967292] 5 50 0 = some true := by kernel_rfl
theorem ex7 : canoncheck_Words.f 0 [562949953421312, 0, 0] 5 50 0 = some false := by kernel_rfl
theorem ex8 : canoncheck_Words.f 0 [107374182401, 7] 5 50 0 = some true := by kernel_rfl
theorem ex9 : canoncheck_Words.f 0 [107374182401, 15] 5 50 0 = some false := by kernel_rfl
theorem ex10 : canoncheck_Words.f 0 [98784247809, 4294967304, 0, 5] 5 50 0 = some true := by kernel_rfl
theorem ex11 : canoncheck_Words.f 0 [98784247809, 4294967304, 0, 0] 5 50 0 = some false := by kernel_rfl
theorem ex12 : canoncheck_Words.f 0 [4294967296, 5] 5 0 0 = some false := by kernel_rfl
set_option maxRecDepth 100000 in
set_option maxHeartbeats 8000000 in
theorem capnplaw16_awake.calls (r : Bool) (w : World) (h : capnplaw16_awake.f = some r) (ht : Tabs w) : Calls Tryd.prog 8 #[] w fun e w' => e = .returned (.bool r) ∧ Below w.heap.size w w' := by
 obtain rfl : true = r := Option.some.inj h
 clear h
 have HT := Lib.hid ht
 clear ht
 go_enter Tryd.func8, Tryd.ntmps8
 have HB := Lib.hid (Below.refl w.heap.size w)
 go_wp2_with fail
 refine calls_at (fun wa0 hW => ?_)
 have hb : Below w.heap.size w wa0 := by rw [hW]; exact ((Below.refl _ _).alloc (Nat.le_refl _) _).alloc (by simp) _
 have nL : wa0.heap[w.heap.size]? = some (.cells #[.int .i64 5, .int .i64 50, .int .i64 0] 24 (0, 0)) := by rw [hW]; exact blk_alloc (heap_alloc_new _ _) _
 have nS : wa0.heap[w.heap.size + 1]? = some (.cells (nums .u64 [4294967296, 5]).toArray 32 (0, 0)) := by rw [hW]; exact blk_new _ _ _ (by simp)
 clear hW
 replace HB := Lib.hid (below_step HB.out hb)
 replace HT := Lib.hid (HT.out.below hb)
 clear hb
 have L := Lib.hid nL
 clear nL
 have hc := canoncheck_Words.calls 0 _ 2 [4294967296, 5] 5 50 0 true wa0 (C_ints nS (by decide)) (Nat.le_refl _) ex0 HT.out
 refine hc.mono ?_
 clear hc nS
 rintro e w1 ⟨rfl, hb⟩
 replace HB := Lib.hid (below_step HB.out hb)
 replace HT := Lib.hid (HT.out.below hb)
 replace L := Lib.hid (blk_below L.out hb)
 clear hb
 have l_L : w.heap.size < w1.heap.size := blk_lt L.out
 have q_L_0 : w1.cell? ⟨w.heap.size, 0, none⟩ = some (.int .i64 5) := (blk_cell L.out 0).trans rfl
 have q_L_1 : w1.cell? ⟨w.heap.size, 1, none⟩ = some (.int .i64 50) := (blk_cell L.out 1).trans rfl
 have q_L_2 : w1.cell? ⟨w.heap.size, 2, none⟩ = some (.int .i64 0) := (blk_cell L.out 2).trans rfl
 go_wp2_with fail
 clear l_L q_L_0 q_L_1 q_L_2
 refine calls_at (fun wa1 hW => ?_)
 have hb : Below w1.heap.size w1 wa1 := by rw [hW]; exact (Below.refl _ _).alloc (Nat.le_refl _) _
 have nS : wa1.heap[w1.heap.size]? = some (.cells (nums .u64 [4294967296, 0]).toArray 32 (0, 0)) := by rw [hW]; exact heap_alloc_new _ _
 clear hW
 replace HB := Lib.hid (below_step HB.out hb)
 replace HT := Lib.hid (HT.out.below hb)
 replace L := Lib.hid (blk_below L.out hb)
 clear hb
 have hc := canoncheck_Words.calls 0 _ 2 [4294967296, 0] 5 50 0 false wa1 (C_ints nS (by decide)) (Nat.le_refl _) ex1 HT.out
 refine hc.mono ?_
 clear hc nS
 rintro e w2 ⟨rfl, hb⟩
 replace HB := Lib.hid (below_step HB.out hb)
 replace HT := Lib.hid (HT.out.below hb)
 replace L := Lib.hid (blk_below L.out hb)
 clear hb
 have l_L : w.heap.size < w2.heap.size := blk_lt L.out
 have q_L_0 : w2.cell? ⟨w.heap.size, 0, none⟩ = some (.int .i64 5) := (blk_cell L.out 0).trans rfl
 have q_L_1 : w2.cell? ⟨w.heap.size, 1, none⟩ = some (.int .i64 50) := (blk_cell L.out 1).trans rfl
 have q_L_2 : w2.cell? ⟨w.heap.size, 2, none⟩ = some (.int .i64 0) := (blk_cell L.out 2).trans rfl
 go_wp2_with fail
 clear l_L q_L_0 q_L_1 q_L_2
 refine calls_at (fun wa2 hW => ?_)
 have hb : Below w2.heap.size w2 wa2 := by rw [hW]; exact (Below.refl _ _).alloc (Nat.le_refl _) _
 have nS : wa2.heap[w2.heap.size]? = some (.cells (nums .u64 [4294967296, 5, 0]).toArray 32 (0, 0)) := by rw [hW]; exact heap_alloc_new _ _
 clear hW
 replace HB := Lib.hid (below_step HB.out hb)
 replace HT := Lib.hid (HT.out.below hb)
 replace L := Lib.hid (blk_below L.out hb)
 clear hb
 have hc := canoncheck_Words.calls 0 _ 3 [4294967296, 5, 0] 5 50 0 false wa2 (C_ints nS (by decide)) (Nat.le_refl _) ex2 HT.out
 refine hc.mono ?_
 clear hc nS
 rintro e w3 ⟨rfl, hb⟩
 replace HB := Lib.hid (below_step HB.out hb)
 replace HT := Lib.hid (HT.out.below hb)
 replace L := Lib.hid (blk_below L.out hb)
 clear hb
 have l_L : w.heap.size < w3.heap.size := blk_lt L.out
 have q_L_0 : w3.cell? ⟨w.heap.size, 0, none⟩ = some (.int .i64 5) := (blk_cell L.out 0).trans rfl
 have q_L_1 : w3.cell? ⟨w.heap.size, 1, none⟩ = some (.int .i64 50) := (blk_cell L.out 1).trans rfl
 have q_L_2 : w3.cell? ⟨w.heap.size, 2, none⟩ = some (.int .i64 0) := (blk_cell L.out 2).trans rfl
 go_wp2_with fail
 clear l_L q_L_0 q_L_1 q_L_2
 refine calls_at (fun wa3 hW => ?_)
 have hb : Below w3.heap.size w3 wa3 := by rw [hW]; exact (Below.refl _ _).alloc (Nat.le_refl _) _
 have nS : wa3.heap[w3.heap.size]? = some (.cells (nums .u64 [4294967300, 0, 5]).toArray 32 (0, 0)) := by rw [hW]; exact heap_alloc_new _ _
 clear hW
 replace HB := Lib.hid (below_step HB.out hb)
 replace HT := Lib.hid (HT.out.below hb)
 replace L := Lib.hid (blk_below L.out hb)
 clear hb
 have hc := canoncheck_Words.calls 0 _ 3 [4294967300, 0, 5] 5 50 0 false wa3 (C_ints nS (by decide)) (Nat.le_refl _) ex3 HT.out
 refine hc.mono ?_
 clear hc nS
 rintro e w4 ⟨rfl, hb⟩
 replace HB := Lib.hid (below_step HB.out hb)
 replace HT := Lib.hid (HT.out.below hb)
 replace L := Lib.hid (blk_below L.out hb)
 clear hb
 have l_L : w.heap.size < w4.heap.size := blk_lt L.out
 have q_L_0 : w4.cell? ⟨w.heap.size, 0, none⟩ = some (.int .i64 5) := (blk_cell L.out 0).trans rfl
 have q_L_1 : w4.cell? ⟨w.heap.size, 1, none⟩ = some (.int .i64 50) := (blk_cell L.out 1).trans rfl
 have q_L_2 : w4.cell? ⟨w.heap.size, 2, none⟩ = some (.int .i64 0) := (blk_cell L.out 2).trans rfl
 go_wp2_with fail
 clear l_L q_L_0 q_L_1 q_L_2
 refine calls_at (fun wa4 hW => ?_)
 have hb : Below w4.heap.size w4 wa4 := by rw [hW]; exact (Below.refl _ _).alloc (Nat.le_refl _) _
 have nS : wa4.heap[w4.heap.size]? = some (.cells (nums .u64 [0]).toArray 32 (0, 0)) := by rw [hW]; exact heap_alloc_new _ _
 clear hW
 replace HB := Lib.hid (below_step HB.out hb)
 replace HT := Lib.hid (HT.out.below hb)
 replace L := Lib.hid (blk_below L.out hb)
 clear hb
 have hc := canoncheck_Words.calls 0 _ 1 [0] 5 50 0 true wa4 (C_ints nS (by decide)) (Nat.le_refl _) ex4 HT.out
 refine hc.mono ?_
 clear hc nS
 rintro e w5 ⟨rfl, hb⟩
 replace HB := Lib.hid (below_step HB.out hb)
 replace HT := Lib.hid (HT.out.below hb)
 replace L := Lib.hid (blk_below L.out hb)
 clear hb
 have l_L : w.heap.size < w5.heap.size := blk_lt L.out
 have q_L_0 : w5.cell? ⟨w.heap.size, 0, none⟩ = some (.int .i64 5) := (blk_cell L.out 0).trans rfl
 have q_L_1 : w5.cell? ⟨w.heap.size, 1, none⟩ = some (.int .i64 50) := (blk_cell L.out 1).trans rfl
 have q_L_2 : w5.cell? ⟨w.heap.size, 2, none⟩ = some (.int .i64 0) := (blk_cell L.out 2).trans rfl
 go_wp2_with fail
 clear l_L q_L_0 q_L_1 q_L_2
 refine calls_at (fun wa5 hW => ?_)
 have hb : Below w5.heap.size w5 wa5 := by rw [hW]; exact Below.refl _ _
 clear hW
 replace HB := Lib.hid (below_step HB.out hb)
 replace HT := Lib.hid (HT.out.below hb)
 replace L := Lib.hid (blk_below L.out hb)
 clear hb
 have hc := canoncheck_Words.calls 0 none 0 [] 5 50 0 false wa5 (Kd.C_nil _ _) (Nat.le_refl _) ex5 HT.out
 refine hc.mono ?_
 clear hc
 rintro e w6 ⟨rfl, hb⟩
 replace HB := Lib.hid (below_step HB.out hb)
 replace HT := Lib.hid (HT.out.below hb)
 replace L := Lib.hid (blk_below L.out hb)
 clear hb
 have l_L : w.heap.size < w6.heap.size := blk_lt L.out
 have q_L_0 : w6.cell? ⟨w.heap.size, 0, none⟩ = some (.int .i64 5) := (blk_cell L.out 0).trans rfl
 have q_L_1 : w6.cell? ⟨w.heap.size, 1, none⟩ = some (.int .i64 50) := (blk_cell L.out 1).trans rfl
 have q_L_2 : w6.cell? ⟨w.heap.size, 2, none⟩ = some (.int .i64 0) := (blk_cell L.out 2).trans rfl
 go_wp2_with fail
 clear l_L q_L_0 q_L_1 q_L_2
 refine calls_at (fun wa6 hW => ?_)
 have hb : Below w6.heap.size w6 wa6 := by rw [hW]; exact (Below.refl _ _).alloc (Nat.le_refl _) _
 have nS : wa6.heap[w6.heap.size]? = some (.cells (nums .u64 [4294967292]).toArray 32 (0, 0)) := by rw [hW]; exact heap_alloc_new _ _
 clear hW
 replace HB := Lib.hid (below_step HB.out hb)
 replace HT := Lib.hid (HT.out.below hb)
 replace L := Lib.hid (blk_below L.out hb)
 clear hb
 have hc := canoncheck_Words.calls 0 _ 1 [4294967292] 5 50 0 true wa6 (C_ints nS (by decide)) (Nat.le_refl _) ex6 HT.out
 refine hc.mono ?_
 clear hc nS
 rintro e w7 ⟨rfl, hb⟩
 replace HB := Lib.hid (below_step HB.out hb)
 replace HT := Lib.hid (HT.out.below hb)
 replace L := Lib.hid (blk_below L.out hb)
 clear hb
 have l_L : w.heap.size < w7.heap.size := blk_lt L.out
 have q_L_0 : w7.cell? ⟨w.heap.size, 0, none⟩ = some (.int .i64 5) := (blk_cell L.out 0).trans rfl
 have q_L_1 : w7.cell? ⟨w.heap.size, 1, none⟩ = some (.int .i64 50) := (blk_cell L.out 1).trans rfl
 have q_L_2 : w7.cell? ⟨w.heap.size, 2, none⟩ = some (.int .i64 0) := (blk_cell L.out 2).trans rfl
 go_wp2_with fail
 clear l_L q_L_0 q_L_1 q_L_2
 refine calls_at (fun wa7 hW => ?_)
 have hb : Below w7.heap.size w7 wa7 := by rw [hW]; exact (Below.refl _ _).alloc (Nat.le_refl _) _
 have nS : wa7.heap[w7.heap.size]? = some (.cells (nums .u64 [562949953421312, 0, 0]).toArray 32 (0, 0)) := by rw [hW]; exact heap_alloc_new _ _
 clear hW
 replace HB := Lib.hid (below_step HB.out hb)
 replace HT := Lib.hid (HT.out.below hb)
 replace L := Lib.hid (blk_below L.out hb)
 clear hb
 have hc := canoncheck_Words.calls 0 _ 3 [562949953421312, 0, 0] 5 50 0 false wa7 (C_ints nS (by decide)) (Nat.le_refl _) ex7 HT.out
 refine hc.mono ?_
 clear hc nS
 rintro e w8 ⟨rfl, hb⟩
 replace HB := Lib.hid (below_step HB.out hb)
 replace HT := Lib.hid (HT.out.below hb)
 replace L := Lib.hid (blk_below L.out hb)
 clear hb
 have l_L : w.heap.size < w8.heap.size := blk_lt L.out
 have q_L_0 : w8.cell? ⟨w.heap.size, 0, none⟩ = some (.int .i64 5) := (blk_cell L.out 0).trans rfl
 have q_L_1 : w8.cell? ⟨w.heap.size, 1, none⟩ = some (.int .i64 50) := (blk_cell L.out 1).trans rfl
 have q_L_2 : w8.cell? ⟨w.heap.size, 2, none⟩ = some (.int .i64 0) := (blk_cell L.out 2).trans rfl
 go_wp2_with fail
 clear l_L q_L_0 q_L_1 q_L_2
 refine calls_at (fun wa8 hW => ?_)
 have hb : Below w8.heap.size w8 wa8 := by rw [hW]; exact (Below.refl _ _).alloc (Nat.le_refl _) _
 have nS : wa8.heap[w8.heap.size]? = some (.cells (nums .u64 [107374182401, 7]).toArray 32 (0, 0)) := by rw [hW]; exact heap_alloc_new _ _
 clear hW
 replace HB := Lib.hid (below_step HB.out hb)
 replace HT := Lib.hid (HT.out.below hb)
 replace L := Lib.hid (blk_below L.out hb)
 clear hb
 have hc := canoncheck_Words.calls 0 _ 2 [107374182401, 7] 5 50 0 true wa8 (C_ints nS (by decide)) (Nat.le_refl _) ex8 HT.out
 refine hc.mono ?_
 clear hc nS
 rintro e w9 ⟨rfl, hb⟩
 replace HB := Lib.hid (below_step HB.out hb)
 replace HT := Lib.hid (HT.out.below hb)
 replace L := Lib.hid (blk_below L.out hb)
 clear hb
 have l_L : w.heap.size < w9.heap.size := blk_lt L.out
 have q_L_0 : w9.cell? ⟨w.heap.size, 0, none⟩ = some (.int .i64 5) := (blk_cell L.out 0).trans rfl
 have q_L_1 : w9.cell? ⟨w.heap.size, 1, none⟩ = some (.int .i64 50) := (blk_cell L.out 1).trans rfl
 have q_L_2 : w9.cell? ⟨w.heap.size, 2, none⟩ = some (.int .i64 0) := (blk_cell L.out 2).trans rfl
 go_wp2_with fail
 clear l_L q_L_0 q_L_1 q_L_2
 refine calls_at (fun wa9 hW => ?_)
 have hb : Below w9.heap.size w9 wa9 := by rw [hW]; exact (Below.refl _ _).alloc (Nat.le_refl _) _
 have nS : wa9.heap[w9.heap.size]? = some (.cells (nums .u64 [107374182401, 15]).toArray 32 (0, 0)) := by rw [hW]; exact heap_alloc_new _ _
 clear hW
 replace HB := Lib.hid (below_step HB.out hb)
 replace HT := Lib.hid (HT.out.below hb)
 replace L := Lib.hid (blk_below L.out hb)
 clear hb
 have hc := canoncheck_Words.calls 0 _ 2 [107374182401, 15] 5 50 0 false wa9 (C_ints nS (by decide)) (Nat.le_refl _) ex9 HT.out
 refine hc.mono ?_
 clear hc nS
 rintro e w10 ⟨rfl, hb⟩
 replace HB := Lib.hid (below_step HB.out hb)
 replace HT := Lib.hid (HT.out.below hb)
 replace L := Lib.hid (blk_below L.out hb)
 clear hb
 have l_L : w.heap.size < w10.heap.size := blk_lt L.out
 have q_L_0 : w10.cell? ⟨w.heap.size, 0, none⟩ = some (.int .i64 5) := (blk_cell L.out 0).trans rfl
 have q_L_1 : w10.cell? ⟨w.heap.size, 1, none⟩ = some (.int .i64 50) := (blk_cell L.out 1).trans rfl
 have q_L_2 : w10.cell? ⟨w.heap.size, 2, none⟩ = some (.int .i64 0) := (blk_cell L.out 2).trans rfl
 go_wp2_with fail
 clear l_L q_L_0 q_L_1 q_L_2
 refine calls_at (fun wa10 hW => ?_)
 have hb : Below w10.heap.size w10 wa10 := by rw [hW]; exact (Below.refl _ _).alloc (Nat.le_refl _) _
 have nS : wa10.heap[w10.heap.size]? = some (.cells (nums .u64 [98784247809, 4294967304, 0, 5]).toArray 32 (0, 0)) := by rw [hW]; exact heap_alloc_new _ _
 clear hW
 replace HB := Lib.hid (below_step HB.out hb)
 replace HT := Lib.hid (HT.out.below hb)
 replace L := Lib.hid (blk_below L.out hb)
 clear hb
 have hc := canoncheck_Words.calls 0 _ 4 [98784247809, 4294967304, 0, 5] 5 50 0 true wa10 (C_ints nS (by decide)) (Nat.le_refl _) ex10 HT.out
 refine hc.mono ?_
 clear hc nS
 rintro e w11 ⟨rfl, hb⟩
 replace HB := Lib.hid (below_step HB.out hb)
 replace HT := Lib.hid (HT.out.below hb)
 replace L := Lib.hid (blk_below L.out hb)
 clear hb
 have l_L : w.heap.size < w11.heap.size := blk_lt L.out
 have q_L_0 : w11.cell? ⟨w.heap.size, 0, none⟩ = some (.int .i64 5) := (blk_cell L.out 0).trans rfl
 have q_L_1 : w11.cell? ⟨w.heap.size, 1, none⟩ = some (.int .i64 50) := (blk_cell L.out 1).trans rfl
 have q_L_2 : w11.cell? ⟨w.heap.size, 2, none⟩ = some (.int .i64 0) := (blk_cell L.out 2).trans rfl
 go_wp2_with fail
 clear l_L q_L_0 q_L_1 q_L_2
 refine calls_at (fun wa11 hW => ?_)
 have hb : Below w11.heap.size w11 wa11 := by rw [hW]; exact (Below.refl _ _).alloc (Nat.le_refl _) _
 have nS : wa11.heap[w11.heap.size]? = some (.cells (nums .u64 [98784247809, 4294967304, 0, 0]).toArray 32 (0, 0)) := by rw [hW]; exact heap_alloc_new _ _
 clear hW
 replace HB := Lib.hid (below_step HB.out hb)
 replace HT := Lib.hid (HT.out.below hb)
 replace L := Lib.hid (blk_below L.out hb)
 clear hb
 have hc := canoncheck_Words.calls 0 _ 4 [98784247809, 4294967304, 0, 0] 5 50 0 false wa11 (C_ints nS (by decide)) (Nat.le_refl _) ex11 HT.out
 refine hc.mono ?_
 clear hc nS
 rintro e w12 ⟨rfl, hb⟩
 replace HB := Lib.hid (below_step HB.out hb)
 replace HT := Lib.hid (HT.out.below hb)
 replace L := Lib.hid (blk_below L.out hb)
 clear hb
 have l_L : w.heap.size < w12.heap.size := blk_lt L.out
 have q_L_0 : w12.cell? ⟨w.heap.size, 0, none⟩ = some (.int .i64 5) := (blk_cell L.out 0).trans rfl
 have q_L_1 : w12.cell? ⟨w.heap.size, 1, none⟩ = some (.int .i64 50) := (blk_cell L.out 1).trans rfl
 have q_L_2 : w12.cell? ⟨w.heap.size, 2, none⟩ = some (.int .i64 0) := (blk_cell L.out 2).trans rfl
 go_wp2_with fail
 clear l_L q_L_0 q_L_1 q_L_2
 refine calls_at (fun wa12 hW => ?_)
 have hb : Below w12.heap.size w12 wa12 := by rw [hW]; exact (Below.refl _ _).alloc (Nat.le_refl _) _
 have nS : wa12.heap[w12.heap.size]? = some (.cells (nums .u64 [4294967296, 5]).toArray 32 (0, 0)) := by rw [hW]; exact heap_alloc_new _ _
 clear hW
 replace HB := Lib.hid (below_step HB.out hb)
 replace HT := Lib.hid (HT.out.below hb)
 replace L := Lib.hid (blk_below L.out hb)
 clear hb
 have hc := canoncheck_Words.calls 0 _ 2 [4294967296, 5] 5 0 0 false wa12 (C_ints nS (by decide)) (Nat.le_refl _) ex12 HT.out
 refine hc.mono ?_
 clear hc nS
 rintro e w13 ⟨rfl, hb⟩
 replace HB := Lib.hid (below_step HB.out hb)
 replace HT := Lib.hid (HT.out.below hb)
 replace L := Lib.hid (blk_below L.out hb)
 clear hb
 have l_L : w.heap.size < w13.heap.size := blk_lt L.out
 have q_L_0 : w13.cell? ⟨w.heap.size, 0, none⟩ = some (.int .i64 5) := (blk_cell L.out 0).trans rfl
 have q_L_1 : w13.cell? ⟨w.heap.size, 1, none⟩ = some (.int .i64 50) := (blk_cell L.out 1).trans rfl
 have q_L_2 : w13.cell? ⟨w.heap.size, 2, none⟩ = some (.int .i64 0) := (blk_cell L.out 2).trans rfl
 go_wp2
 go_ret
 exact ⟨rfl, HB.out⟩
end Go.Proofs.YtidglmocekghmaaDoor.Pr
end
section
namespace Go.Proofs.YtidglmocekghmaaDoor.Pr
open Go.RowKit Go.Proofs.YtidglmocekghmaaDoorW.PrintWords Go.Proofs.YtidglmocekghmaaDoorW.PrintLast Go.Proofs.YtidglmocekghmaaDoorW.PrintMore
set_option linter.unusedVariables false
set_option linter.unusedSimpArgs false
theorem smallG_lim {G : List (List Int)} {D Wd : Int} (h : smallG G D Wd = true) : D ≤ 40 ∧ Wd ≤ 2000 := by
 unfold smallG at h
 simp only [Bool.and_eq_true, decide_eq_true_eq] at h
 exact h.1
end Go.Proofs.YtidglmocekghmaaDoor.Pr
end
section
namespace Go.Proofs.YtidglmocekghmaaDoor.Pr
open Go.RowKit Go.Proofs.YtidglmocekghmaaDoorW.PrintWords Go.Proofs.YtidglmocekghmaaDoorW.PrintLast Go.Proofs.YtidglmocekghmaaDoorW.PrintMore
set_option linter.unusedVariables false
set_option linter.unusedSimpArgs false
theorem cellW {w : World} {A : Option Addr} {s : List Int} (h : (Kd.int .u64).C w A s.length s) (i : Nat) (hi : i < s.length) : ∃ ad, A = some ad ∧ w.cell? (ad.add i) = some (.int .u64 (wd s i)) := by
 obtain ⟨a0, c, e0, _, hK, hcc⟩ := Kd.C_get h (0 : Int) i (by omega) (Int.ofNat_lt.2 hi)
 obtain rfl : c = [.int .u64 (wd s i)] := hK
 refine ⟨a0, e0, ?_⟩
 have := hcc 0 _ rfl
 simpa [Kd.int, Kd.scalar] using this
theorem same_wd {s t : List Int} (hl : s.length = t.length) (h : ∀ i, i < s.length → wd s i = wd t i) : s = t := by
 refine List.ext_getElem hl (fun i hi hi' => ?_)
 have := h i hi
 unfold wd at this
 rw [List.getD_eq_getElem?_getD, List.getD_eq_getElem?_getD, List.getElem?_eq_getElem hi, List.getElem?_eq_getElem hi'] at this
 simpa using this
set_option maxHeartbeats 1000000 in
theorem same_words (A B : Option Addr) (c d : Nat) (s t : List Int) (w : World) (hs : (Kd.int .u64).C w A s.length s) (ht : (Kd.int .u64).C w B t.length t) :
    Calls Tryd.prog 13 #[.slice A s.length c, .slice B t.length d] w fun e w' => e = .returned (.bool (decide (s = t))) ∧ Below w.heap.size w w' := by
  have S := Sep.start w
  have HA := Lib.hid (fun i hi => cellW hs i hi)
  have HB := Lib.hid (fun i hi => cellW ht i hi)
  have hsl := hs.2.1
  by_cases hl : s.length = t.length
  · have H1 : Hid (∀ (h : ∀ i, i < s.length → wd s i = wd t i), decide (s = t) = true) := Lib.hid (fun h => decide_eq_true (same_wd hl h))
    have H2 : Hid (∀ i, i < s.length → wd s i ≠ wd t i → decide (s = t) = false) := Lib.hid (fun i hi h => decide_eq_false (fun e => h (by rw [e])))
    generalize decide (s = t) = r at *
    rw [← hl] at HB ⊢
    obtain ⟨n, hn⟩ : ∃ n, s.length = n := ⟨_, rfl⟩
    rw [hn] at HA HB H1 H2 hsl ⊢
    clear hs ht hl hn
    go_enter Tryd.func13, Tryd.ntmps13
    go_wp2
    have S := Lib.hid S
    go_loopw [5] (fun v wr => ∃ j : Nat, j ≤ n ∧ v = .int .i64 j ∧ Hid (∀ i, i < j → wd s i = wd t i) ∧ Hid (Sep w wr [])) (fun v _ => n - (intOf v).toNat)
    case atStart => exact ⟨0, Nat.zero_le _, rfl, Lib.hid (fun i hi => by omega), S⟩
    case round =>
      clear S
      obtain ⟨j, hj, rfl, hall, S⟩ := hrel
      by_cases hjn : j < n
      · have hjI : (j : Int) < (n : Int) := by omega
        obtain ⟨aa, rfl, hva⟩ := HA.out j hjn
        obtain ⟨ab, rfl, hvb⟩ := HB.out j hjn
        have hva := pw_cell_below S.out.below hva
        have hvb := pw_cell_below S.out.below hvb
        by_cases he : wd s j = wd t j
        · have hall2 : Hid (∀ i, i < j + 1 → wd s i = wd t i) := Lib.hid (fun i hi => by
            by_cases hij : i = j
            · subst hij; exact he
            · exact hall.out i (by omega))
          rw [he] at hva
          clear he hall
          generalize wd t j = y at *
          go_wp2
          go_quiet (fail)
          go_wp2
          go_roundw
          case rel => exact ⟨j + 1, by omega, by go_num, hall2, Lib.hid (S.out.drewN _)⟩
          case measure => simp [intOf]; omega
        · have hr : Hid (r = false) := Lib.hid (H2.out j hjn he)
          have hne : (wd s j != wd t j) = true := bne_iff_ne.2 he
          clear he hall H1 H2
          generalize wd s j = x at *
          generalize wd t j = y at *
          go_wp2
          go_quiet (fail)
          go_wp2
          exact rt (S.out.drewN _) ⟨by rw [hr.out], (S.out.drewN _).below⟩
      · obtain rfl : n = j := by omega
        have hr : Hid (r = true) := Lib.hid (H1.out hall.out)
        clear H1 H2 hall
        go_wp2
        exact rt S.out ⟨by rw [hr.out], S.out.below⟩
  · have hr : Hid (decide (s = t) = false) := Lib.hid (decide_eq_false (fun e => hl (by rw [e])))
    generalize decide (s = t) = r at *
    have tl : ((s.length : Int) != (t.length : Int)) = true := bne_iff_ne.2 (by omega)
    clear hs ht hl
    go_enter Tryd.func13, Tryd.ntmps13
    go_wp2
    exact rt S ⟨by rw [hr.out], S.below⟩
end Go.Proofs.YtidglmocekghmaaDoor.Pr
end
section
namespace Go.Proofs.YtidglmocekghmaaDoor.Pr
theorem maxD_att : ∀ l : List S37, maxD l = 0 ∨ ∃ x ∈ l, x.f3.length / 8 = maxD l
 | [] => .inl rfl
 | y :: l => by
  unfold maxD
  by_cases h : maxD l ≤ y.f3.length / 8
  ·exact .inr ⟨y, List.mem_cons_self, by omega⟩
  ·rcases maxD_att l with h1 | ⟨x, h1, h2⟩
   ·omega
   ·exact .inr ⟨x, List.mem_cons_of_mem _ h1, by omega⟩
theorem maxP_att : ∀ l : List S37, maxP l = 0 ∨ ∃ x ∈ l, x.f4.length = maxP l
 | [] => .inl rfl
 | y :: l => by
  unfold maxP
  by_cases h : maxP l ≤ y.f4.length
  ·exact .inr ⟨y, List.mem_cons_self, by omega⟩
  ·rcases maxP_att l with h1 | ⟨x, h1, h2⟩
   ·omega
   ·exact .inr ⟨x, List.mem_cons_of_mem _ h1, by omega⟩
theorem lays_full {s : List Int} {a nx q : Nat} {kids : List S37} (h : lays s ((kids.take (keptN nullN kids)).map ttrim) a nx q) (hz : ∀ j, keptN nullN kids ≤ j → j < kids.length → wd s (a + j) = 0) : lays s (kids.map ttrim) a nx q := by
 obtain ⟨m, h1, h2, h3⟩ := keptN_parts nullN kids
 have hnull : ∀ (m : List S37) (b nx : Nat), (∀ x ∈ m, nullN x = true) → (∀ j, j < m.length → wd s (b + j) = 0) → lays s (m.map ttrim) b nx nx := fun m => by
  induction m with
  | nil => intro b nx _ _; rfl
  | cons x m ih =>
   intro b nx hx hw
   refine ⟨nx, ?_, ih (b + 1) nx (fun y hy => hx y (List.mem_cons_of_mem _ hy)) (fun j hj => by rw [show b + 1 + j = b + (j + 1) by omega]; exact hw (j + 1) (by simpa using hj))⟩
   have hx0 := hx x List.mem_cons_self
   obtain ⟨k, e, n, bb, l⟩ := x
   rw [ttrim_eq]
   unfold lay
   rw [if_pos (by simpa [nullN] using hx0)]
   exact ⟨hw 0 (by simp), rfl⟩
 have hlen : kids.length = keptN nullN kids + m.length := by
  have := congrArg List.length h1
  rw [List.length_append, h3] at this
  exact this
 conv => arg 2; rw [h1]
 rw [List.map_append, lays_append]
 refine ⟨q, h, hnull m _ q h2 (fun j hj => ?_)⟩
 rw [List.length_map, h3, Nat.add_assoc]
 exact hz _ (by omega) (by omega)
def ElF (s : List Int) (d p at_ : Nat) (x : S37) : Prop := ∃ l : List S37, x = ⟨1, 0, 0, bytesL (seg s at_ d), l⟩ ∧ l.length = p
theorem el_val {s : List Int} {f : Nat} (d p ad k0 i m : Nat) (cost : Int) (h1 : (strR [s] (valR [s] f) (elG ⟨2, 0, (ad : Int), d, p, 7, k0, cost⟩ (i : Int)) m).2.2 = 0) :
  (kidsR (valR [s] f 0) p ((ad + i * (d + p) + d : Nat) : Int) m).2.2 = 0 ∧ (strR [s] (valR [s] f) (elG ⟨2, 0, (ad : Int), d, p, 7, k0, cost⟩ (i : Int)) m).1 = ⟨1, 0, 0, bytesL (seg s (ad + i * (d + p)) d), (kidsR (valR [s] f 0) p ((ad + i * (d + p) + d : Nat) : Int) m).1⟩ := by
 have hE : elG ⟨2, 0, (ad : Int), d, p, 7, k0, cost⟩ (i : Int) = ⟨1, 0, ((ad + i * (d + p) : Nat) : Int), d, p, 0, 0, 0⟩ := by unfold elG; simp
 rw [hE] at h1 ⊢
 have h2 := strR_2 [s] (valR [s] f) ⟨1, 0, ((ad + i * (d + p) : Nat) : Int), d, p, 0, 0, 0⟩ m
 dsimp only at h2
 rw [Int.toNat_natCast, show (((ad + i * (d + p) : Nat) : Int) + (d : Int)) = ((ad + i * (d + p) + d : Nat) : Int) by omega] at h2
 rw [h2] at h1
 refine ⟨h1, ?_⟩
 unfold strR
 dsimp only
 rw [Int.toNat_natCast, show (((ad + i * (d + p) : Nat) : Int) + (d : Int)) = ((ad + i * (d + p) + d : Nat) : Int) by omega, if_neg (by rw [h1]; simp), cutG_one]
theorem els_form {s : List Int} {f : Nat} (d p ad k0 : Nat) (cost : Int) : ∀ (k i m : Nat), (kidsR (fun i m => strR [s] (valR [s] f) (elG ⟨2, 0, (ad : Int), d, p, 7, k0, cost⟩ i) m) k i m).2.2 = 0 → ∀ (j : Nat) (x : S37), (kidsR (fun i m => strR [s] (valR [s] f) (elG ⟨2, 0, (ad : Int), d, p, 7, k0, cost⟩ i) m) k i m).1[j]? = some x → ElF s d p (ad + (i + j) * (d + p)) x
 | 0, i, m, _, j, x, hx => by simp [kidsR] at hx
 | k + 1, i, m, he, j, x, hx => by
  have hsk := strR_sinks [s] (valR_sinks [s] f) (elG ⟨2, 0, (ad : Int), d, p, 7, k0, cost⟩ (i : Int)) m (by omega)
  revert he hx
  unfold kidsR
  by_cases h1 : (strR [s] (valR [s] f) (elG ⟨2, 0, (ad : Int), d, p, 7, k0, cost⟩ (i : Int)) m).2.2 ≠ 0
  ·rw [if_pos h1]
   intro he
   exact (h1 he).elim
  rw [if_neg h1]
  intro he hx
  have h1 : (strR [s] (valR [s] f) (elG ⟨2, 0, (ad : Int), d, p, 7, k0, cost⟩ (i : Int)) m).2.2 = 0 := by simpa using h1
  obtain ⟨hk0, hT1⟩ := el_val d p ad k0 i m cost h1
  dsimp only at he hx
  generalize strR [s] (valR [s] f) (elG ⟨2, 0, (ad : Int), d, p, 7, k0, cost⟩ (i : Int)) m = T at *
  cases j with
  | zero =>
   simp only [List.getElem?_cons_zero, Option.some.injEq] at hx
   subst hx
   exact ⟨_, by rw [hT1, Nat.add_zero], kidsR_len _ _ _ hk0⟩
  | succ j =>
   simp only [List.getElem?_cons_succ] at hx
   have e1 : ((T.2.1.toNat : Nat) : Int) = T.2.1 := by omega
   have e2 : ((i + 1 : Nat) : Int) = (i : Int) + 1 := by omega
   have := els_form d p ad k0 cost k (i + 1) T.2.1.toNat (by rw [e1, e2]; exact he) j x (by rw [e1, e2]; exact hx)
   rwa [show i + 1 + j = i + (j + 1) by omega] at this
theorem layE_vis {s : List Int} {f : Nat} (H : VisP s f) (d p ad k0 : Nat) (cost : Int) : ∀ (k i nx r m : Nat), ad + (i + k) * (d + p) ≤ s.length → nx ≤ s.length → (kidsR (fun i m => strR [s] (valR [s] f) (elG ⟨2, 0, (ad : Int), d, p, 7, k0, cost⟩ i) m) k i m).2.2 = 0 →
  layE s d p ((kidsR (fun i m => strR [s] (valR [s] f) (elG ⟨2, 0, (ad : Int), d, p, 7, k0, cost⟩ i) m) k i m).1.map ttrim) (ad + i * (d + p)) nx r →
  velems (visV s f) p (d + p) k (ad + i * (d + p) + d) nx = some r ∧ r ≤ s.length ∧ ∀ (j : Nat) (x : S37), (kidsR (fun i m => strR [s] (valR [s] f) (elG ⟨2, 0, (ad : Int), d, p, 7, k0, cost⟩ i) m) k i m).1[j]? = some x → ElK s d p (ad + (i + j) * (d + p)) x
 | 0, i, nx, r, m, _, hn, _, h => by
  simp only [kidsR, List.map_nil, layE] at h
  subst h
  exact ⟨rfl, hn, fun j x hx => by simp [kidsR] at hx⟩
 | k + 1, i, nx, r, m, hin, hn, he, h => by
  have y1 : (i + (k + 1)) * (d + p) = i * (d + p) + k * (d + p) + (d + p) := by rw [Nat.add_mul, Nat.add_mul, Nat.one_mul]; omega
  have y2 : (i + 1 + k) * (d + p) = i * (d + p) + k * (d + p) + (d + p) := by rw [Nat.add_mul, Nat.add_mul, Nat.one_mul]; omega
  have y3 : (i + 1) * (d + p) = i * (d + p) + (d + p) := by rw [Nat.add_mul, Nat.one_mul]
  have hsk := strR_sinks [s] (valR_sinks [s] f) (elG ⟨2, 0, (ad : Int), d, p, 7, k0, cost⟩ (i : Int)) m (by omega)
  revert he h
  unfold kidsR
  by_cases h1 : (strR [s] (valR [s] f) (elG ⟨2, 0, (ad : Int), d, p, 7, k0, cost⟩ (i : Int)) m).2.2 ≠ 0
  ·rw [if_pos h1]
   intro he
   exact (h1 he).elim
  rw [if_neg h1]
  intro he h
  have h1 : (strR [s] (valR [s] f) (elG ⟨2, 0, (ad : Int), d, p, 7, k0, cost⟩ (i : Int)) m).2.2 = 0 := by simpa using h1
  obtain ⟨hk0, hT1⟩ := el_val d p ad k0 i m cost h1
  dsimp only at he h
  generalize strR [s] (valR [s] f) (elG ⟨2, 0, (ad : Int), d, p, 7, k0, cost⟩ (i : Int)) m = T at *
  have hkl := kidsR_len _ _ _ hk0
  rw [List.map_cons, hT1, ttrim_struct] at h
  unfold layE at h
  obtain ⟨g1, g2, q, g3, g4⟩ := h
  have hfull := lays_full g3 (fun j hj1 hj2 => g2 j (by rw [List.length_map, List.length_take]; omega) (by omega))
  obtain ⟨i1, i2, i3, i4⟩ := lays_vis H p (ad + i * (d + p) + d) nx q m (by omega) hn hk0 hfull
  have e1 : ((T.2.1.toNat : Nat) : Int) = T.2.1 := by omega
  have e2 : ((i + 1 : Nat) : Int) = (i : Int) + 1 := by omega
  have e3 : ad + i * (d + p) + d + (d + p) = ad + (i + 1) * (d + p) + d := by omega
  have e4 : ad + i * (d + p) + (d + p) = ad + (i + 1) * (d + p) := by omega
  rw [e4] at g4
  have := layE_vis H d p ad k0 cost k (i + 1) q r T.2.1.toNat (by omega) i2 (by rw [e1, e2]; exact he) (by rw [e1, e2]; exact g4)
  rw [e1, e2] at this
  obtain ⟨j1, j2, j3⟩ := this
  refine ⟨by rw [velems, i1]; dsimp only; rw [e3]; exact j1, j2, fun j x hx => ?_⟩
  cases j with
  | zero =>
   simp only [List.getElem?_cons_zero, Option.some.injEq] at hx
   subst hx
   exact ⟨_, by rw [hT1, Nat.add_zero], hkl, fun q y hy => by rw [Nat.add_zero]; exact i4 q y hy⟩
  | succ j =>
   simp only [List.getElem?_cons_succ] at hx
   have := j3 j x hx
   rwa [show i + 1 + j = i + (j + 1) by omega] at this
end Go.Proofs.YtidglmocekghmaaDoor.Pr
end
section
namespace Go.Proofs.YtidglmocekghmaaDoor.Pr
theorem vis_cmp {s : List Int} {f : Nat} (hok : ∀ x ∈ s, 0 ≤ x ∧ x < 18446744073709551616) (hlen : s.length ≤ 536870000) (H : VisP s f) (a nx r m : Nat) (ha : a < s.length) (hn : nx ≤ s.length) (h0 : wd s a ≠ 0) (hk1 : kindW (wd s a) = 1) (he7 : elemW (wd s a) = 7) (he : (valR [s] (f + 1) 0 a m).2.2 = 0) (hL : lay s (ttrim (valR [s] (f + 1) 0 a m).1) a nx r) :
  visV s (f + 1) a nx = some r ∧ r ≤ s.length ∧ ((valR [s] (f + 1) 0 a m).1.f0 = 0 ↔ wd s a = 0) := by
 have hwd : ∀ i, i < s.length → 0 ≤ wd s i ∧ wd s i < 18446744073709551616 := fun i hi => hok _ (by
  unfold wd
  rw [List.getD_eq_getElem?_getD, List.getElem?_eq_getElem hi]
  exact List.getElem_mem _)
 have hwr := hwd a ha
 have ho : Okv s (f + 1) a := ⟨m, he⟩
 have hob := (ok_obj ha h0 (by omega) he).1
 obtain ⟨S, hS⟩ := st_nat ha h0 (by omega) hob
 obtain ⟨c, hc⟩ := Int.eq_ofNat_of_zero_le (cntW_bd (wd s a)).1
 have hcb := (cntW_bd (wd s a)).2
 obtain ⟨hin, d, p, k, cost, hd, hp, hk2, hkc, hO, _⟩ := cmp_ok ha h0 hk1 he7 hc hS ho
 obtain ⟨hm, hV⟩ := val_obj ha h0 (by omega) hO he
 have hW := encL_of hwr.1 hwr.2 hk1
 rw [hc, he7] at hW
 have hoff := offW_bd (wd s a)
 have hfin : ∀ {P Q R : Prop}, (P ∧ Q) → R → P ∧ Q ∧ R := fun h1 h2 => ⟨h1.1, h1.2, h2⟩
 have htr := hwd S (by omega)
 have hkt : kindW (wd s S) = 0 := by
  have hO2 : objG [s] 0 a = tagM 0 S 7 ((c : Int) + 1) c (wd s S) := by
   have hI : inG [s] 0 (S : Int) ((c : Int) + 1) = true := by rw [inG_one, decide_eq_true_eq]; omega
   have hWc : wordsE 7 (c : Int) = (c : Int) + 1 := rfl
   unfold objG desM
   rw [folM_one ha (by omega)]
   simp only [pO, pD, pP, pE, pC, hk1, he7, hc, h0, hS, hWc, hI, ne_eq, not_true_eq_false, if_false, if_true, show ((1 : Int) = 3) = False by simp, show ((1 : Int) = 0) = False by simp, show ((1 : Int) ≤ 1) = True by simp, show (true = false) = False by simp]
   rw [wdG_one (by omega) (by omega), Int.toNat_natCast]
  rw [hO2] at hob
  unfold tagM at hob
  by_cases h : kindW (wd s S) = 0
  ·exact h
  ·rw [if_pos h] at hob
   simp at hob
 have hT := encS_of htr.1 htr.2 hkt
 rw [hk2, hd, hp] at hT
 have hdb := (dataW_bd (wd s S)).2
 have hpb := (ptrsW_bd (wd s S)).2
 have hkb := (offW_bd (wd s S)).2
 unfold bodR at hV
 dsimp only at hV hm
 rw [if_neg (by omega), if_neg (by omega), if_neg (by omega), Int.toNat_natCast, elsR_kids] at hV
 have e1 : (m : Int) - cost = (((m : Int) - cost).toNat : Nat) := by omega
 rw [e1, show (S : Int) + 1 = ((S + 1 : Nat) : Int) by omega] at hV
 by_cases hke : (kidsR (fun i m => strR [s] (valR [s] f) (elG ⟨2, 0, ((S + 1 : Nat) : Int), d, p, 7, k, cost⟩ i) m) k 0 (((m : Int) - cost).toNat : Nat)).2.2 = 0
 ·rw [if_neg (by rw [hke]; simp)] at hV
  rw [hV] at hL
  refine hfin ?_ (by rw [hV]; simp [h0])
  have hkl := kidsR_len _ _ _ hke
  have hform := els_form (s := s) (f := f) d p (S + 1) k cost k 0 _ hke
  dsimp only at hL
  rw [ttrim_list] at hL
  have hvis := layE_vis H d p (S + 1) k cost k 0 (S + (c + 1)) r (((m : Int) - cost).toNat)
  generalize hels : (kidsR (fun i m => strR [s] (valR [s] f) (elG ⟨2, 0, ((S + 1 : Nat) : Int), d, p, 7, k, cost⟩ i) m) k 0 (((m : Int) - cost).toNat : Nat)).1 = els at *
  have hmd : ∀ (j : Nat) (x : S37), els[j]? = some x → (ttrim x).f3.length / 8 ≤ d ∧ (ttrim x).f4.length ≤ p := fun j x hx => by
   obtain ⟨l, rfl, hl2⟩ := hform j x hx
   rw [ttrim_struct]
   dsimp only
   rw [List.length_take, List.length_map, List.length_take, bytesL_length]
   have h5 : (seg s (S + 1 + (0 + j) * (d + p)) d).length ≤ d := by unfold seg; rw [List.length_take]; omega
   have := keptN_le nullN l
   omega
  have hMD : maxD (els.map ttrim) ≤ d := by
   rcases maxD_att (els.map ttrim) with h | ⟨x, hx, h⟩
   ·omega
   ·obtain ⟨y, hy, rfl⟩ := List.mem_map.1 hx
    obtain ⟨j, _, e⟩ := mem_at hy
    have := (hmd j y e).1
    omega
  have hMP : maxP (els.map ttrim) ≤ p := by
   rcases maxP_att (els.map ttrim) with h | ⟨x, hx, h⟩
   ·omega
   ·obtain ⟨y, hy, rfl⟩ := List.mem_map.1 hx
    obtain ⟨j, _, e⟩ := mem_at hy
    have := (hmd j y e).2
    omega
  unfold lay at hL
  rw [if_neg (by omega), if_neg (by omega), if_pos rfl, List.length_map, hkl] at hL
  obtain ⟨l1, l2, l3, l4⟩ := hL
  have h1 := encL_inj (hW.symm.trans l1) (by omega) (by omega) (by omega) (by omega)
  have hSn := off_eq h1.2.2 hS (by omega) (by omega) hoff
  subst hSn
  have h2 := encS_inj (hT.symm.trans l3) (by omega) (by omega) (by omega) (by omega)
  have hD : maxD (els.map ttrim) = d := by omega
  have hP : maxP (els.map ttrim) = p := by omega
  rw [hD, hP] at h1 l4
  have hq : k * (d + p) = c := by omega
  rw [hq, show S + 1 + c = S + (c + 1) by omega] at l4
  obtain ⟨v1, v2, v3⟩ := hvis (by rw [Nat.zero_add, hq]; omega) hin hke (by rw [Nat.zero_mul, Nat.add_zero]; exact l4)
  rw [Nat.zero_mul, Nat.add_zero] at v1
  have hb : ∀ j, j < k → j * (d + p) + (d + p) ≤ c := fun j hj => by
   have := Nat.mul_le_mul_right (d + p) (show j + 1 ≤ k by omega)
   rw [Nat.add_mul, Nat.one_mul] at this
   omega
  have hf1 : (decide (d = 0) || anyM s (d + p) k (S + 1 + d - 1)) = true := by
   by_cases hd0 : d = 0
   ·simp [hd0]
   ·rw [Bool.or_eq_true, anyM_iff]
    right
    rcases maxD_att (els.map ttrim) with h | ⟨x, hx, h⟩
    ·omega
    ·obtain ⟨y, hy, rfl⟩ := List.mem_map.1 hx
     obtain ⟨j, hj, e⟩ := mem_at hy
     obtain ⟨l, rfl, hl2, _⟩ := v3 j y e
     have hjk : j < k := by omega
     have h5 := hb j hjk
     rw [Nat.zero_add] at h
     have hws : (seg s (S + 1 + j * (d + p)) d).length = d := by unfold seg; rw [List.length_take, List.length_drop]; omega
     rw [ttrim_struct, hD] at h
     dsimp only at h
     have ht := twords_le_len (seg s (S + 1 + j * (d + p)) d)
     rw [List.length_take, bytesL_length, hws] at h
     rw [hws] at ht
     refine ⟨j, hjk, ?_⟩
     have := last_twords (seg s (S + 1 + j * (d + p)) d) (by omega) (by omega)
     rw [hws, seg_last (by omega)] at this
     rw [show S + 1 + d - 1 + j * (d + p) = S + 1 + j * (d + p) + d - 1 by omega]
     exact this
  have hf2 : (decide (p = 0) || anyM s (d + p) k (S + 1 + (d + p) - 1)) = true := by
   by_cases hp0 : p = 0
   ·simp [hp0]
   ·rw [Bool.or_eq_true, anyM_iff]
    right
    rcases maxP_att (els.map ttrim) with h | ⟨x, hx, h⟩
    ·omega
    ·obtain ⟨y, hy, rfl⟩ := List.mem_map.1 hx
     obtain ⟨j, hj, e⟩ := mem_at hy
     obtain ⟨l, rfl, hl2, hl3⟩ := v3 j y e
     have hjk : j < k := by omega
     have h5 := hb j hjk
     rw [ttrim_struct, hP] at h
     dsimp only at h
     rw [List.length_map, List.length_take] at h
     have hkn := keptN_le nullN l
     have hkp : keptN nullN l = l.length := by omega
     refine ⟨j, hjk, fun hz => ?_⟩
     have hlt : l.length - 1 < l.length := by omega
     have h6 := kept_last hkp (by omega) _ (List.getElem?_eq_getElem hlt)
     have h7 := hl3 (l.length - 1) _ (List.getElem?_eq_getElem hlt)
     rw [Nat.zero_add, show S + 1 + j * (d + p) + d + (l.length - 1) = S + 1 + (d + p) - 1 + j * (d + p) by omega] at h7
     exact h6 (h7.2 hz)
  rw [visV, if_neg h0, if_neg (by omega), if_pos hk1]
  unfold vlist vcomp
  rw [if_pos he7, if_pos hS, hk2, hd, hp, hc]
  simp only [Int.toNat_natCast]
  rw [if_pos (by rw [← hq]; push_cast; rfl), if_pos (by rw [hf1, hf2]; rfl)]
  exact ⟨v1, v2⟩
 ·rw [if_pos hke] at hV
  rw [hV] at he
  exact (hke he).elim
theorem vis_lay {s : List Int} (hok : ∀ x ∈ s, 0 ≤ x ∧ x < 18446744073709551616) (hlen : s.length ≤ 536870000) : ∀ f, VisP s f
 | 0 => fun a nx r m ha hn he hL => by
  by_cases h0 : wd s a = 0
  ·have hk : kindW (wd s a) ≠ 2 := by rw [h0]; decide
   have hV : valR [s] 0 0 a m = (ndZ, (m : Int), 0) := by
    rw [valR, folM_one ha hk]
    simp [h0]
   rw [hV] at hL ⊢
   dsimp only at hL
   rw [ttrim_null] at hL
   unfold ndZ lay at hL
   rw [if_pos rfl] at hL
   rw [visV, if_pos h0]
   exact ⟨by rw [hL.2], by omega, by simp [ndZ, h0]⟩
  ·exfalso
   rcases lay_kind _ hL with h | h
   ·exact h0 h
   ·rw [valR, folM_one ha (by omega)] at he
    simp [h0] at he
 | f + 1 => fun a nx r m ha hn he hL => by
  have H := vis_lay hok hlen f
  by_cases h0 : wd s a = 0
  ·have hk : kindW (wd s a) ≠ 2 := by rw [h0]; decide
   have hV : valR [s] (f + 1) 0 a m = (ndZ, (m : Int), 0) := by
    rw [valR, folM_one ha hk]
    simp [h0]
   rw [hV] at hL ⊢
   dsimp only at hL
   rw [ttrim_null] at hL
   unfold ndZ lay at hL
   rw [if_pos rfl] at hL
   rw [visV, if_pos h0]
   exact ⟨by rw [hL.2], by omega, by simp [ndZ, h0]⟩
  ·rcases lay_kind _ hL with h | h
   ·exact (h0 h).elim
   ·have hkb := kindW_bd (wd s a)
    by_cases hk0 : kindW (wd s a) = 0
    ·exact vis_str hok hlen H a nx r m ha hn h0 hk0 he hL
    ·by_cases he7 : elemW (wd s a) = 7
     ·exact vis_cmp hok hlen H a nx r m ha hn h0 (by omega) he7 he hL
     ·exact vis_lst hok hlen H a nx r m ha hn h0 (by omega) he7 he hL
theorem wordsM_iff {s : List Int} {D Wd : Int} (hok : ∀ x ∈ s, 0 ≤ x ∧ x < 18446744073709551616) (hlen : s.length ≤ 536870000) (h0 : 0 < s.length) : wordsM s D Wd = true ↔ (msgR [s] D Wd).2 = 0 ∧ lay s (msgR [s] D Wd).1 0 1 s.length := by
  refine ⟨wordsM_lay hok, fun ⟨h1, h2⟩ => ?_⟩
  rw [wordsM_R]
  unfold wordsR
  have hs : ((Wd.toNat : Nat) : Int) = startM Wd := by unfold startM; split <;> omega
  have h3 := h1
  rw [msgR_2 D Wd h0] at h3
  have hm : (msgR [s] D Wd).1 = ttrim (valR [s] D.toNat 0 0 (startM Wd)).1 := by
    unfold msgR
    rw [if_neg (fun h => by
      have h2 := h.2
      rw [show sgG [s] 0 = s from rfl] at h2
      omega), if_neg (by rw [h3]; simp)]
  rw [hm, ← hs] at h2
  rw [← hs] at h3
  have h4 := (vis_lay hok hlen D.toNat 0 1 s.length Wd.toNat h0 h0 h3 h2).1
  rw [h4, h1, visI_some]
  simp [h0]
end Go.Proofs.YtidglmocekghmaaDoor.Pr
end
section
namespace Go.Proofs.YtidglmocekghmaaDoor.Pr
open Go.RowKit Go.Proofs.YtidglmocekghmaaDoorW.PrintWords Go.Proofs.YtidglmocekghmaaDoorW.PrintLast Go.Proofs.YtidglmocekghmaaDoorW.PrintMore
set_option linter.unusedVariables false
set_option linter.unusedSimpArgs false
theorem env_one {w w' : World} {A : Option Addr} {cp : Nat} {s : List Int} {g : Nat} (hr : (Kd.int .u64).C w' A s.length s) (hc : s.length ≤ cp) (hl : s.length ≤ 17592186040320) (ok : ∀ x ∈ s, 0 ≤ x ∧ x < 18446744073709551616) (hg : w'.heap[g]? = some (.cells #[.slice A s.length cp] 22 (0, 0))) : EnvG w' (some ⟨g, 0, none⟩) [s] :=
 ⟨C_sl1 hg hc hr, by simp, fun x hx => by simp at hx; subst hx; exact hl, fun x hx => by simp at hx; subst hx; exact ok⟩
end Go.Proofs.YtidglmocekghmaaDoor.Pr
end
section
namespace Go.Proofs.YtidglmocekghmaaDoor.Pr
open Go.RowKit Go.Proofs.YtidglmocekghmaaDoorW.PrintWords Go.Proofs.YtidglmocekghmaaDoorW.PrintLast Go.Proofs.YtidglmocekghmaaDoorW.PrintMore
set_option linter.unusedVariables false
set_option linter.unusedSimpArgs false
section
variable {P : Program} {md : Region.Mode} {ops : Array Oper} {Q : Exit → Act → World → Prop} {w0 W w : World} {L : List Asr} {SP : World → Prop} {ds : List Nat} {α : Type} {d : Kd α} {e : Nat} {v : Value} {xs ys : List α}
theorem bs0 (S : Sep w0 W L) {id n : Nat} {l : Array Bool} {a : Act} (h : Sep w0 W.drew L → wpAnyLast P .any ops Q (Bw w0) [] n l a W.drew)
  (h1 : P.follows .mixedOrders = true := by kernel_rfl) (h2 : ops.size = n := by simp only [List.size_toArray, List.length_cons, List.length_nil, Nat.reduceAdd]; rfl)
  (h3 : Array.replicate n false = l := by simp only [Array.replicate_succ, Array.replicate_zero, List.push_toArray, List.nil_append, List.cons_append]; rfl) : (Code.region id ops true).wp P Q a W :=
 start_ (S := Bw w0) l h1 h2 h3 S.drew.below (fun _ => h S.drew)
def BgAt (P : Program) (md : Region.Mode) (ops : Array Oper) (Q : Exit → Act → World → Prop) (i : Nat) (l l' : Array Bool) (a a' : Act) (ad : Addr) (cs : List Value) : Prop :=
 ∃ oi t p, ops[i]? = some oi ∧ l.setIfInBounds i true = l' ∧ takeB md ops [] l l' i = true ∧ Region.wanted oi (yielded ops a.tmps) = true ∧ oi.op = .load t p ∧ a.eval p = .pointer (some ad) ∧ aggB P t = true ∧ (P.info? t).map (·.size) = some cs.length ∧ a.put oi.dst (.agg cs.toArray) = a' ∧ (∀ c v a w, Q (.panic c) (a.put oi.dst v) w → Q (.panic c) a w)
theorem bgAt {i : Nat} {l l' : Array Bool} {a a' : Act} {ad : Addr} {cs : List Value} {oi : Oper} {t : TypeId} {p : Operand} (h1 : ops[i]? = some oi) (h2 : l.setIfInBounds i true = l') (h3 : takeB md ops [] l l' i = true) (h4 : Region.wanted oi (yielded ops a.tmps) = true) (h5 : oi.op = .load t p) (h6 : a.eval p = .pointer (some ad)) (h7 : aggB P t = true) (h10 : (P.info? t).map (·.size) = some cs.length) (h8 : a.put oi.dst (.agg cs.toArray) = a') (h9 : ∀ c v a w, Q (.panic c) (a.put oi.dst v) w → Q (.panic c) a w) : BgAt P md ops Q i l l' a a' ad cs := ⟨oi, t, p, h1, h2, h3, h4, h5, h6, h7, h10, h8, h9⟩
theorem bwg (i : Nat) {w1 : World} {ad : Addr} {cs : List Value} (hv : ∀ j v, cs[j]? = some v → w1.cell? (ad.add j) = some v) (hb : Bw w1 w) {l l' : Array Bool} {a a' : Act} {fuel : Nat} (h : wpAnyLast P md ops Q (Bw w1) [] fuel l' a' w)
    (k : BgAt P md ops Q i l l' a a' ad cs := by
      apply bgAt
      case h1 => simp only [List.getElem?_toArray, List.getElem?_cons_zero, List.getElem?_cons_succ]; rfl
      case h2 => simp only [List.setIfInBounds_toArray, List.set_cons_zero, List.set_cons_succ]; rfl
      case h3 => kernel_rfl
      case h4 => rfl
      case h5 => with_reducible rfl
      case h6 => first | (go_simp; done) | (go_simp; rfl)
      case h7 => kernel_rfl
      case h10 => kernel_rfl
      case h8 => simp only [Act.put, List.setIfInBounds_toArray, List.set_cons_zero, List.set_cons_succ]; rfl
      case h9 => exact fun _ _ _ _ h => h) : wpAnyLast P md ops Q (Bw w1) [] (fuel + 1) l a w := by
  obtain ⟨oi, t, p, h1, h2, h3, h4, h5, h6, h7, h10, h8, h9⟩ := k
  refine take_ l' h1 rfl h3 (fun c a w => h9 c _ a w) (.inl ⟨h4, fun w' s => ?_⟩) hb h8 h
  have hr := run_load_agg (P := P) h7 h10 (fun j v hj => pw_cell_below s (hv j v hj))
  unfold execOp
  simp only [h5, h6, Sem.run_bind, Sem.run_pure, Result.andThen_ok, hr]
def RlAt (P : Program) (W : World) (ops : Array Oper) (i n : Nat) (l l' : Array Bool) (a : Act) (inner : List Value) (m : Nat) (e : TypeId) (f : Nat → Act) : Prop :=
 ∃ oi : Oper, ops[i]? = some oi ∧ oi.dst = some n ∧ l.setIfInBounds i true = l' ∧ Region.wanted oi (yielded ops a.tmps) = true ∧ (execOp a.eval oi).run P W = .ok (.value (.slice (some ⟨W.heap.size, 0, none⟩) m m)) (W.alloc (.cells inner.toArray e)) ∧ ∀ g, a.put (some n) (.slice (some ⟨g, 0, none⟩) m m) = f g
theorem rlAt {W : World} {i n : Nat} {l l' : Array Bool} {a : Act} {inner : List Value} {m : Nat} {e : TypeId} {f : Nat → Act} {oi : Oper} (h1 : ops[i]? = some oi) (h2 : oi.dst = some n) (h3 : l.setIfInBounds i true = l') (h5 : Region.wanted oi (yielded ops a.tmps) = true) (h6 : (execOp a.eval oi).run P W = .ok (.value (.slice (some ⟨W.heap.size, 0, none⟩) m m)) (W.alloc (.cells inner.toArray e))) (h7 : ∀ g, a.put (some n) (.slice (some ⟨g, 0, none⟩) m m) = f g) : RlAt P W ops i n l l' a inner m e f := ⟨oi, h1, h2, h3, h5, h6, h7⟩
theorem rlg (d : Kd α) (e n : Nat) {i : Nat} (S : Sep w0 W L) (xs : List α) (inner : List Value) {fuel : Nat} {l l' : Array Bool} {a : Act} {f : Nat → Act} (hr : Reps (d.M W W.heap.size (fun _ => False)) d.sz xs inner) (hm : xs.length ≤ 9223372036854775807)
    (h : ∀ g w1, Sep w0 w1 (.row d e (.slice (some ⟨g, 0, none⟩) xs.length xs.length) xs :: L) → SP w1 ∧ wpAnyLast P md ops Q SP ds fuel l' (f g) w1)
    (hd : i ∉ ds := by decide)
    (k : RlAt P W ops i n l l' a inner xs.length e f := by
      apply rlAt
      case h1 => simp only [List.getElem?_toArray, List.getElem?_cons_zero, List.getElem?_cons_succ]; rfl
      case h2 => rfl
      case h3 => simp only [List.setIfInBounds_toArray, List.set_cons_zero, List.set_cons_succ]; rfl
      case h5 => rfl
      case h6 => first | (go_simp; done) | (go_simp; rfl)
      case h7 => intro g; simp only [Act.put, List.setIfInBounds_toArray, List.set_cons_zero, List.set_cons_succ]; rfl) : Rdy P md ops Q SP ds fuel l a W i := by
  obtain ⟨oi, h1, h2, h3, h5, h6, h7⟩ := k
  refine ⟨oi, h1, hd, fun K hK => ?_⟩
  rw [h2]
  subst h3
  have hh := h _ _ (S.push (a := .row d e _ xs) (below_alloc (Below.refl _ _) _) (R_litX d e W hr hm))
  refine value_ h5 h2 h6 ?_
  rw [h7]
  exact hK.out _ _ hh.1 (fun _ => hh.2)
section
variable {rest : List Oper} {o : Oper} {a a' : Act}
theorem sp_get {enc : α → Value} {h1 : ∀ x, (enc x).oneCell' = true} {g n c i : Nat} (z : α) {t : TypeId} {p : Operand} (ho : o.op = .load t p) (hg : o.guard = none) (S : Sep w0 W (.row (Kd.scalar enc h1) e (.slice (some ⟨g, 0, none⟩) n c) xs :: L))
  (hp : a.eval p = .pointer (some ⟨g, i, none⟩)) (hi : i < n) (ht : scalB P t = true) (h : wpList P ops Q rest (a.put o.dst (enc (xs.getD i z))) W) : wpList P ops Q (o :: rest) a W := by
 have h2 := (Kd.R_celln z (S.outR .here) (i : Int) (by omega) (by omega)).1
 rw [Int.toNat_natCast, show rdOf z xs (i : Int) = xs.getD i z by unfold rdOf; rw [Int.toNat_natCast]] at h2
 have hr := run_load_one (P := P) ht h2
 refine wpList_plain hg fun K hK => ?_
 unfold Oper.wp
 have he : (execOp a.eval o).run P W = .ok (.value (enc (xs.getD i z))) W := by
  unfold execOp
  simp only [ho, hp, Sem.run_bind, Sem.run_pure, Result.andThen_ok, hr]
 rw [he]
 exact hK _ _ h
end
def RaAt (P : Program) (ops : Array Oper) (i n : Nat) (l l' : Array Bool) (a : Act) (v : Value) (A : Option Addr) (m c : Nat) (e sz bytes : Nat) (f : Value → Act) : Prop :=
 ∃ (oi : Oper) (s x : Operand) (t : TypeId) (z : Value), ops[i]? = some oi ∧ oi.dst = some n ∧ l.setIfInBounds i true = l' ∧ Region.wanted oi (yielded ops a.tmps) = true ∧ oi.op = .call { callee := .builtin .append, args := #[s, x], argTypes := #[t, t] } ∧ P.underlying t = some (.slice e) ∧ (P.info? e).map (fun i => (i.zero, i.size, i.bytes)) = some (some z, sz, bytes) ∧ z.cells.size = sz ∧ a.eval s = v ∧ a.eval x = .slice A m c ∧ ∀ v1, a.put (some n) v1 = f v1
theorem raAt {i n : Nat} {l l' : Array Bool} {a : Act} {v : Value} {A : Option Addr} {m c : Nat} {e sz bytes : Nat} {f : Value → Act} {oi : Oper} {s x : Operand} {t : TypeId} {z : Value} (h1 : ops[i]? = some oi) (h2 : oi.dst = some n) (h3 : l.setIfInBounds i true = l') (h4 : Region.wanted oi (yielded ops a.tmps) = true) (h5 : oi.op = .call { callee := .builtin .append, args := #[s, x], argTypes := #[t, t] }) (h6 : P.underlying t = some (.slice e)) (h7 : (P.info? e).map (fun i => (i.zero, i.size, i.bytes)) = some (some z, sz, bytes)) (h8 : z.cells.size = sz) (h9 : a.eval s = v) (h10 : a.eval x = .slice A m c) (h11 : ∀ v1, a.put (some n) v1 = f v1) : RaAt P ops i n l l' a v A m c e sz bytes f := ⟨oi, s, x, t, z, h1, h2, h3, h4, h5, h6, h7, h8, h9, h10, h11⟩
theorem rag (n bytes : Nat) {i : Nat} (S : Sep w0 W (.row d e v xs :: L)) {A : Option Addr} {m c : Nat} {fuel : Nat} {l l' : Array Bool} {a : Act} {f : Value → Act} (hr : d.C W A m ys) (hKM : ∀ x cs, d.K W x cs → d.M W w0.heap.size (fun _ => False) x cs) (hs0 : 0 < d.sz) (hb0 : 0 < bytes) (hl : (xs.length + m) * bytes ≤ 140737488355328)
  (h : ∀ v1 w1, Sep w0 w1 (.row d e v1 (xs ++ ys) :: L) → SP w1 ∧ wpAnyLast P md ops Q SP ds fuel l' (f v1) w1)
  (k : RaAt P ops i n l l' a v A m c e d.sz bytes f)
  (hd : i ∉ ds := by decide) : Rdy P md ops Q SP ds fuel l a W i := by
 obtain ⟨oi, s, x, t, z, h1, h2, h3, h4, h5, h6, h7, h8, h9, h10, h11⟩ := k
 obtain ⟨B, F, k1, k2, k3⟩ := S
 refine ⟨oi, h1, hd, fun K hK => ?_⟩
 subst h3
 refine Kd.R_append_rows_step d (w0 := w0) (Rr := d.K W) w0.heap.size h4 s x t e z bytes h5 h6 h7 h8 hs0 hb0 v xs ys A m c (fun k => F k ∨ W.heap.size ≤ k) (fun _ => False) h9 h10 (Kd.R_mono k2 (fun k hk => .inl hk)) hr hKM (fun k hk => hk.elim) (fun k hk => .inr hk) B B.size hl ?_
 intro v1 w1 hr hb hg _
 have hh := h v1 w1 (Sep.grown B k1 k2.1 k3 hr hb hg)
 rw [h2, h11]
 exact hK.out _ _ hh.1 (fun _ => hh.2)
def RgAt (P : Program) (ops : Array Oper) (i n : Nat) (l l' : Array Bool) (a : Act) (f : FuncId) (fn : Func) (args : Array Value) : Prop :=
 ∃ (oi : Oper) (av : Array Operand) (ts : Array TypeId), ops[i]? = some oi ∧ oi.dst = some n ∧ l.setIfInBounds i true = l' ∧ Region.wanted oi (yielded ops a.tmps) = true ∧ (fn.name == "runtime.NumGoroutine") = false ∧ fn.body.isSome = true ∧ oi.op = .call { callee := .value (.func f), args := av, argTypes := ts } ∧ av.map a.eval = args
theorem rgAt {i n : Nat} {l l' : Array Bool} {a : Act} {f : FuncId} {fn : Func} {args : Array Value} {oi : Oper} {av : Array Operand} {ts : Array TypeId} (h1 : ops[i]? = some oi) (h2 : oi.dst = some n) (h3 : l.setIfInBounds i true = l') (h5 : Region.wanted oi (yielded ops a.tmps) = true) (h7 : (fn.name == "runtime.NumGoroutine") = false) (h8 : fn.body.isSome = true) (h9 : oi.op = .call { callee := .value (.func f), args := av, argTypes := ts }) (h10 : av.map a.eval = args) : RgAt P ops i n l l' a f fn args :=
 ⟨oi, av, ts, h1, h2, h3, h5, h7, h8, h9, h10⟩
theorem rcg (n : Nat) {i : Nat} {f : FuncId} {args : Array Value} {R : Ending → World → Prop} {fuel : Nat} {l l' : Array Bool} {a : Act} {fn : Func} (h6 : P.funcs[f]? = some fn) (hC : Calls P f args w R)
    (h : ∀ e w1, R e w1 → ∃ v, e = .returned v ∧ SP w1 ∧ ∃ a', a.put (some n) v = a' ∧ wpAnyLast P md ops Q SP ds fuel l' a' w1)
    (hd : i ∉ ds := by decide)
    (k : RgAt P ops i n l l' a f fn args := by
      apply rgAt
      case h1 => simp only [List.getElem?_toArray, List.getElem?_cons_zero, List.getElem?_cons_succ]; rfl
      case h2 => rfl
      case h3 => simp only [List.setIfInBounds_toArray, List.set_cons_zero, List.set_cons_succ]; rfl
      case h5 => rfl
      case h7 => kernel_rfl
      case h8 => kernel_rfl
      case h9 => rfl
      case h10 => simp only [List.map_toArray, List.map_cons, List.map_nil]; rfl) : Rdy P md ops Q SP ds fuel l a w i := by
  obtain ⟨oi, av, ts, h1, h2, h3, h5, h7, h8, h9, h10⟩ := k
  refine ⟨oi, h1, hd, fun K hK => ?_⟩
  rw [h2]
  refine goes_ h6 h7 h8 args h5 h2 h9 h10 (hC.mono ?_)
  intro e w1 hR
  obtain ⟨v, he, hk, a', ha, hh⟩ := h e w1 hR
  subst ha h3
  exact ⟨v, he, hK.out _ _ hk (fun _ => hh)⟩
end
end Go.Proofs.YtidglmocekghmaaDoor.Pr
end
section
namespace Go.Proofs.YtidglmocekghmaaDoor.Pr
set_option linter.unusedVariables false
set_option linter.unusedSimpArgs false
def canN (n : S37) : Prop :=
 n = ndZ ∨
 (n.f0 = 1 ∧ n.f1 = 0 ∧ n.f2 = 0 ∧ BytN n.f3 ∧ n.f3.length % 8 = 0 ∧ n.f3.length / 8 ≤ 65535 ∧ n.f4.length ≤ 65535 ∧ 8 * twords n.f3 = n.f3.length ∧ keptN nullN n.f4 = n.f4.length) ∨
 (n.f0 = 2 ∧ 0 ≤ n.f1 ∧ n.f1 < 6 ∧ 0 ≤ n.f2 ∧ n.f2 ≤ 536870911 ∧ BytN n.f3 ∧ n.f3.length = (bytesE n.f1 n.f2).toNat ∧ trimE n.f1 n.f2 n.f3 = n.f3 ∧ n.f4 = []) ∨
 (n.f0 = 2 ∧ n.f1 = 6 ∧ n.f2 = n.f4.length ∧ n.f4.length ≤ 536870911 ∧ n.f3 = []) ∨
 (n.f0 = 2 ∧ n.f1 = 7 ∧ n.f2 = n.f4.length ∧ n.f4.length ≤ 536870911 ∧ n.f3 = [] ∧ ∀ x ∈ n.f4, x.f0 = 1)
def canT : S37 → Prop := AllT canN
def cosC (A B k : Nat) : Nat := 1 + (if A + B = 0 then k else k * (A + B))
mutual
def costN : S37 → Nat
 | ⟨k, e, n, b, l⟩ => if k = 0 then 0 else if k = 1 then b.length / 8 + l.length + costs l else if e = 7 then cosC (maxD l) (maxP l) l.length + costE l else if e = 6 then l.length + costs l else (wordsE e n).toNat
def costs : List S37 → Nat
 | [] => 0
 | x :: l => costN x + costs l
def costE : List S37 → Nat
 | [] => 0
 | ⟨_, _, _, _, k⟩ :: l => costs k + costE l
end
mutual
def depN : S37 → Nat
 | ⟨k, e, n, b, l⟩ => if k = 0 then 0 else if k = 1 then 1 + deps l else if e = 7 then 1 + depE l else 1 + deps l
def deps : List S37 → Nat
 | [] => 0
 | x :: l => max (depN x) (deps l)
def depE : List S37 → Nat
 | [] => 0
 | ⟨_, _, _, _, k⟩ :: l => max (deps k) (depE l)
end
theorem can_fit {n : S37} : canT n → fitT n := by
 refine S37.ind (P := fun n => canT n → fitT n) (fun a ih h => ?_) n
 refine .mk ?_ (fun x hx => ih x hx (AllT.kids h x hx))
 rcases AllT.here h with rfl | ⟨h1, _, _, hb, h8, hd, hp, _, _⟩ | ⟨h2, e0, e6, n0, n1, hb, hl, ht, hk⟩ | ⟨h2, e6, hn, hl, h3⟩ | ⟨h2, e7, hn, hl, h3, hx⟩
 ·exact .inl rfl
 ·exact .inr (.inl ⟨h1, hb, h8, hd, hp⟩)
 ·obtain ⟨w1, w2⟩ := wordsE_bytes a.f1 a.f2 e6 n0
  exact .inr (.inr (.inl ⟨h2, e0, e6, n0, n1, hb, by omega, by omega, hk⟩))
 ·exact .inr (.inr (.inr (.inl ⟨h2, e6, hn, hl, h3⟩)))
 ·exact .inr (.inr (.inr (.inr ⟨h2, e7, hn, hl, h3, hx⟩)))
theorem BytN.byt {b : List Int} (h : BytN b) : Byt b := byt_of h
theorem bytes_words {n : Nat} {b : List Int} (h : BytN b) (hl : b.length ≤ 8 * n) : bytesL (wordsB n b) = b ++ List.replicate (8 * n - b.length) 0 := by
 have h1 : (bytesL (wordsB n b)).length = 8 * n := by rw [bytesL_length, wordsB_len]
 refine List.ext_getElem (by rw [h1, List.length_append, List.length_replicate]; omega) (fun i hi hi' => ?_)
 have h2 := bytesL_wordsB n b h.byt i (by omega)
 rw [List.getD_eq_getElem?_getD, List.getElem?_eq_getElem hi] at h2
 have h3 := getD_zeros b (8 * n - b.length) i
 rw [List.getD_eq_getElem?_getD, List.getElem?_eq_getElem hi', ← h2] at h3
 exact h3.symm
theorem trimE_pre (e c : Int) (b z : List Int) (h : b.length = (bytesE e c).toNat) : trimE e c (b ++ z) = trimE e c b := by
 unfold trimE
 by_cases h1 : e = 1 ∧ 0 < c % 8
 ·rw [if_pos h1, if_pos h1, ← h, List.take_left, List.take_of_length_le (Nat.le_refl _)]
  by_cases hc : 0 < b.length
  ·rw [List.getD_eq_getElem?_getD, List.getElem?_append_left (by omega), List.getD_eq_getElem?_getD]
  ·obtain rfl := List.eq_nil_of_length_eq_zero (by omega : b.length = 0)
   rfl
 ·rw [if_neg h1, if_neg h1, ← h, List.take_left, List.take_of_length_le (Nat.le_refl _)]
theorem twords_zeros (b : List Int) (k : Nat) : twords (b ++ List.replicate k 0) = twords b := by
 unfold twords
 rw [keptN_all zeroB b _ (fun x hx => by rw [(List.mem_replicate.1 hx).2]; rfl)]
theorem kept_nulls (l : List S37) (k : Nat) : keptN nullN (l ++ List.replicate k ndZ) = keptN nullN l :=
 keptN_all nullN l _ (fun x hx => by rw [(List.mem_replicate.1 hx).2]; rfl)
theorem kept_trim (l : List S37) : keptN nullN (l.map ttrim) = keptN nullN l := keptN_map nullN nullN ttrim l (fun x _ => by unfold nullN; rw [ttrim_f0])
theorem trim_str {b b' : List Int} {l vs : List S37} (k : Nat) (j : Nat) (hb : b' = b ++ List.replicate k 0) (hv : vs.map ttrim = l) (h1 : 8 * twords b = b.length) (h2 : keptN nullN l = l.length) : ttrim ⟨1, 0, 0, b', vs ++ List.replicate j ndZ⟩ = ⟨1, 0, 0, b, l⟩ := by
 have hl : l.length = vs.length := by rw [← hv, List.length_map]
 have hk : keptN nullN vs = vs.length := by rw [← kept_trim, hv, h2, hl]
 rw [ttrim_struct, hb, twords_zeros, h1, List.take_left, kept_nulls, hk, List.take_left, hv]
theorem kidsR_add {v : Int → Int → Tr} : ∀ (n k : Nat) (a m : Int), (kidsR v n a m).2.2 = 0 → kidsR v (n + k) a m = ((kidsR v n a m).1 ++ (kidsR v k (a + n) (kidsR v n a m).2.1).1, (kidsR v k (a + n) (kidsR v n a m).2.1).2)
 | 0, k, a, m, _ => by simp [kidsR]
 | n + 1, k, a, m, h => by
  have e : n + 1 + k = (n + k) + 1 := by omega
  by_cases he : (v a m).2.2 ≠ 0
  ·rw [kidsR, if_pos he] at h
   exact (he h).elim
  ·rw [kidsR, if_neg he] at h
   dsimp only at h
   have ih := kidsR_add n k (a + 1) (v a m).2.1 h
   rw [e, kidsR, if_neg he, ih, kidsR, if_neg he]
   have e2 : a + ((n + 1 : Nat) : Int) = a + 1 + n := by omega
   simp only [e2, List.cons_append]
theorem val_null {s : List Int} {f a m : Nat} (ha : a < s.length) (h0 : wd s a = 0) : valR [s] f 0 a m = (ndZ, (m : Int), 0) := by
 have hk : kindW (wd s a) ≠ 2 := by rw [h0]; decide
 cases f <;> rw [valR, folM_one ha hk] <;> simp [h0]
theorem nulls_val {s : List Int} {f : Nat} : ∀ (k a m : Nat), a + k ≤ s.length → (∀ j, j < k → wd s (a + j) = 0) → kidsR (valR [s] f 0) k a m = (List.replicate k ndZ, (m : Int), 0)
 | 0, a, m, _, _ => rfl
 | k + 1, a, m, hl, h => by
  have h1 := val_null (f := f) (m := m) (show a < s.length by omega) (h 0 (by omega))
  have h2 := nulls_val (s := s) (f := f) k (a + 1) m (by omega) (fun j hj => by rw [Nat.add_assoc, Nat.add_comm 1 j]; exact h (j + 1) (by omega))
  rw [kidsR, h1]
  dsimp only
  rw [if_neg (by simp), show (a : Int) + 1 = ((a + 1 : Nat) : Int) by omega, h2, List.replicate_succ]
end Go.Proofs.YtidglmocekghmaaDoor.Pr
end
section
namespace Go.Proofs.YtidglmocekghmaaDoor.Pr
set_option linter.unusedVariables false
set_option linter.unusedSimpArgs false
theorem objS {s : List Int} {a st d p : Nat} {off : Int} (ha : a < s.length) (hw : wd s a = encS off d p) (h0 : wd s a ≠ 0) (o0 : -536870912 ≤ off) (o1 : off ≤ 536870911) (d1 : d ≤ 65535) (p1 : p ≤ 65535) (hst : (a : Int) + 1 + off = st) (hin : st + (d + p) ≤ s.length) : objG [s] 0 a = (⟨1, 0, st, d, p, 0, 0, (d : Int) + p⟩, 0) := by
 obtain ⟨hk, ho, hd, hp⟩ := encS_dec (d := d) (p := p) o0 o1 (by omega) (by omega) (by omega) (by omega)
 rw [← hw] at hk ho hd hp
 have hi : inG [s] 0 (st : Int) ((d : Int) + p) = true := by rw [inG_one, decide_eq_true_eq]; omega
 unfold objG desM
 rw [folM_one ha (by omega)]
 simp only [pO, pD, pP, hk, hd, hp, h0, ho, hst, hi, ne_eq, not_true_eq_false, if_false, if_true, show ((0 : Int) = 3) = False by simp, show ((0 : Int) ≤ 1) = True by simp]
theorem objL {s : List Int} {a st n : Nat} {e c off : Int} (ha : a < s.length) (hw : wd s a = encL off e c) (h0 : wd s a ≠ 0) (o0 : -536870912 ≤ off) (o1 : off ≤ 536870911) (e0 : 0 ≤ e) (e7 : e < 7) (c0 : 0 ≤ c) (c1 : c ≤ 536870911) (hn : wordsE e c = n) (hst : (a : Int) + 1 + off = st) (hin : st + n ≤ s.length) : objG [s] 0 a = (⟨2, 0, st, 0, 0, e, c, n⟩, 0) := by
 obtain ⟨hk, ho, he, hc⟩ := encL_dec (e := e) (c := c) o0 o1 e0 (by omega) c0 c1
 rw [← hw] at hk ho he hc
 have hi : inG [s] 0 (st : Int) n = true := by rw [inG_one, decide_eq_true_eq]; omega
 have h7 : e ≠ 7 := by omega
 unfold objG desM
 rw [folM_one ha (by omega)]
 simp only [pO, pD, pP, pE, pC, hk, he, hc, h0, ho, hst, hn, hi, h7, ne_eq, not_true_eq_false, not_false_eq_true, if_false, if_true, show ((1 : Int) = 3) = False by simp, show ((1 : Int) = 0) = False by simp, show ((1 : Int) ≤ 1) = True by simp, show (true = false) = False by simp]
theorem objC {s : List Int} {a st d p k c : Nat} {off : Int} (ha : a < s.length) (hw : wd s a = encL off 7 c) (h0 : wd s a ≠ 0) (o0 : -536870912 ≤ off) (o1 : off ≤ 536870911) (c1 : c ≤ 536870911) (hst : (a : Int) + 1 + off = st) (hin : st + 1 + c ≤ s.length) (ht : wd s st = encS k d p) (k1 : k ≤ 536870911) (d1 : d ≤ 65535) (p1 : p ≤ 65535) (hq : k * (d + p) ≤ c) :
  objG [s] 0 a = (⟨2, 0, ((st + 1 : Nat) : Int), d, p, 7, k, ((1 + c + (if d + p = 0 then k else 0) : Nat) : Int)⟩, 0) := by
 obtain ⟨hk, ho, he, hc⟩ := encL_dec (off := off) (e := 7) (c := c) o0 o1 (by omega) (by omega) (by omega) (by omega)
 rw [← hw] at hk ho he hc
 obtain ⟨tk, tf, td, tp⟩ := encS_dec (off := k) (d := d) (p := p) (by omega) (by omega) (by omega) (by omega) (by omega) (by omega)
 rw [← ht] at tk tf td tp
 have hi : inG [s] 0 (st : Int) ((c : Int) + 1) = true := by rw [inG_one, decide_eq_true_eq]; omega
 have hWc : wordsE 7 (c : Int) = (c : Int) + 1 := rfl
 have hqI : ¬ (c : Int) < (k : Int) * ((d : Int) + p) := by
  have : ((k * (d + p) : Nat) : Int) ≤ c := by omega
  rw [Int.natCast_mul, Int.natCast_add] at this
  omega
 unfold objG desM tagM
 rw [folM_one ha (by omega)]
 simp only [pO, pD, pP, pE, pC, hk, he, hc, h0, ho, hst, hWc, hi, ne_eq, not_true_eq_false, not_false_eq_true, if_false, if_true, show ((1 : Int) = 3) = False by simp, show ((1 : Int) = 0) = False by simp, show ((1 : Int) ≤ 1) = True by simp, show (true = false) = False by simp]
 rw [wdG_one (by omega) (by omega), Int.toNat_natCast]
 simp only [tk, tf, td, tp, hqI, ne_eq, not_true_eq_false, if_false, if_true, show ((0 : Int) ≤ 1) = True by simp, show ((k : Int) < 0) = False by simp]
 by_cases hz : d + p = 0
 ·rw [if_pos (by omega), if_pos hz]
  simp only [Prod.mk.injEq, and_true]
  congr 1
  omega
 ·rw [if_neg (by omega), if_neg hz]
  simp only [Prod.mk.injEq, and_true]
  congr 1
  omega
theorem encS_ne {off : Int} {d p : Nat} (d1 : d ≤ 65535) (p1 : p ≤ 65535) (h : d + p ≠ 0) : encS off d p ≠ 0 := by unfold encS; omega
theorem encL_ne {off e c : Int} (e0 : 0 ≤ e) (c0 : 0 ≤ c) : encL off e c ≠ 0 := by unfold encL; omega
theorem cut_seg {s : List Int} {a n : Nat} {l : List Int} (h : seg s a n = l) : cutG [s] 0 (a : Int) (n : Int) = l := by rw [cutG_one]; exact h
theorem val_at {s : List Int} {f a m c : Nat} {o : Ob} (ha : a < s.length) (h0 : wd s a ≠ 0) (hk : kindW (wd s a) ≠ 2) (hO : objG [s] 0 a = (o, 0)) (hc : o.c = c) (hm : c ≤ m) : valR [s] (f + 1) 0 a m = bodR [s] (valR [s] f) o ((m - c : Nat) : Int) := by
 rw [valR_obj ha h0 hk, hO]
 dsimp only
 rw [if_neg (by simp), hc, if_neg (by omega), show ((m : Int) - c) = ((m - c : Nat) : Int) by omega]
theorem str_back {s : List Int} {f d p at_ m j : Nat} {b : List Int} {l vs : List S37} (k : Nat) {cost : Int} {e n0 : Int} (hb : BytN b) (hd : seg s at_ d = wordsB d b) (hbl : b.length ≤ 8 * d) (h1 : 8 * twords b = b.length) (h2 : keptN nullN l = l.length) (hv : vs.map ttrim = l) {mr : Nat}
  (hk : kidsR (valR [s] f 0) p ((at_ + d : Nat) : Int) m = (vs ++ List.replicate j ndZ, (mr : Int), 0)) : ∃ v, strR [s] (valR [s] f) ⟨1, 0, at_, d, p, e, n0, cost⟩ m = (v, (mr : Int), 0) ∧ ttrim v = ⟨1, 0, 0, b, l⟩ := by
 unfold strR
 dsimp only
 rw [show (at_ : Int) + d = ((at_ + d : Nat) : Int) by omega, Int.toNat_natCast, hk]
 dsimp only
 rw [if_neg (by simp), cut_seg hd, bytes_words hb hbl]
 exact ⟨_, rfl, trim_str _ j rfl hv h1 h2⟩
mutual
theorem lay_end {s : List Int} : ∀ (n : S37) (a nx r : Nat), lay s n a nx r → nx ≤ s.length → r ≤ s.length
 | ⟨k, e, n, b, l⟩, a, nx, r, h, hn => by
  unfold lay at h
  split at h
  ·omega
  split at h
  ·split at h
   ·omega
   ·exact lays_end l _ _ _ h.2.2.2 (by omega)
  split at h
  ·exact layE_end _ _ l _ _ _ h.2.2.2 (by omega)
  split at h
  ·exact lays_end l _ _ _ h.2.2 (by omega)
  ·omega
theorem lays_end {s : List Int} : ∀ (l : List S37) (a nx r : Nat), lays s l a nx r → nx ≤ s.length → r ≤ s.length
 | [], a, nx, r, h, hn => by unfold lays at h; omega
 | x :: l, a, nx, r, h, hn => by
  unfold lays at h
  obtain ⟨q, h1, h2⟩ := h
  exact lays_end l _ _ _ h2 (lay_end x _ _ _ h1 hn)
theorem layE_end {s : List Int} (A B : Nat) : ∀ (l : List S37) (a nx r : Nat), layE s A B l a nx r → nx ≤ s.length → r ≤ s.length
 | [], a, nx, r, h, hn => by unfold layE at h; omega
 | ⟨_, _, _, _, x⟩ :: l, a, nx, r, h, hn => by
  unfold layE at h
  obtain ⟨_, _, q, h1, h2⟩ := h
  exact layE_end A B l _ _ _ h2 (lays_end x _ _ _ h1 hn)
end
end Go.Proofs.YtidglmocekghmaaDoor.Pr
end
