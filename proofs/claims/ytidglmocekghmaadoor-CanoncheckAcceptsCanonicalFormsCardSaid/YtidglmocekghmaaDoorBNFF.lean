/- For every message, all limits and all turns of a word the canonical form is accepted and what is turned is not: the law answers true and leaves its arguments as they were. The listed variables: the table of decoders, the elements' sizes. -/
import Derived.Test.YtidglmocekghmaaDoorBNFE
import Derived.Below
import Derived.Deep.Draws
import Derived.Deep.AppendLies
import Derived.Maps.AppendAt
import Derived.OwnWalk
import Derived.Laws.BytesArg
import Derived.Laws.MakeOwn
import Derived.Laws.OwnMore
import Derived.Deep.OwnRows
import Derived.Tactics
import Derived.Lib.ConvBytes
import Derived.Laws.Slices
import Derived.WalkKit
import Derived.KernelRfl
import Derived.RowKit3
import Derived.Deep.LoopGhost
import Derived.Deep.QuietTactic
import Derived.BigQuiet
import Derived.WideLaws
import Derived.Deep.DeepCutAuto
import Derived.Deep.CutBlock
import Derived.Deep.RegionHeld3
import Derived.Laws.Rows
import Derived.Lib.AppendStr
import Derived.ArgAppend
import Derived.Laws.IdiomCopy
import Derived.RowKit
import Derived.OrdersHeld
import Derived.Laws.BitsLemmas
import Derived.Laws.StructEq
import Derived.SizedLaws
import Derived.ChangeSlices
import Derived.Test.YtidglmocekghmaaDoorProg
import Derived.Lib.Hide
import Derived.WalkLawsBesides
import Derived.WalkSpells
import Derived.Outline
import Derived.IntWalk
import Derived.Laws.AppendOwn
import Derived.RangeFuncBox
import Derived.Lib.JoinLaws
import Derived.Defers
import Derived.Recover
import Derived.Laws.Pointers
import Derived.Test.YtidglmocekghmaaDoorCards
import Derived.ProofKit
import Derived.LaidMore
import Derived.LaidHandle
import Derived.Maps.Keyed
import Derived.WideKeyElems2
import Derived.Lib.LaidTab
import Derived.OpenShut
import Derived.Lib.SmallJoins
import Derived.Deep.Matrix
import Derived.Test.YtidglmocekghmaaDoorTie
import Derived.ShutString
import Derived.ChangeOld
import Derived.JoinedCond
import Derived.Deep.DeepHandedRow
set_option linter.unusedVariables false
set_option linter.unusedSimpArgs false
section
namespace Go.Proofs.YtidglmocekghmaaDoor.Pr
set_option linter.unusedVariables false
set_option linter.unusedSimpArgs false
mutual
theorem lay_val {s : List Int} (hlen : s.length ≤ 536870000) : ∀ (n : S37) (f a nx r m : Nat), canT n → lay s n a nx r → a < s.length → nx ≤ s.length → depN n ≤ f → costN n ≤ m → ∃ v, valR [s] f 0 a m = (v, ((m - costN n : Nat) : Int), 0) ∧ ttrim v = n
  | ⟨k, e, n, b, l⟩, f, a, nx, r, m, hc, h, ha, hn, hf, hm => by
    have hkids := AllT.kids hc
    dsimp only at hkids
    unfold lay at h
    unfold depN at hf
    unfold costN at hm ⊢
    rcases AllT.here hc with hz | ⟨h1, f1, f2, hb, h8, hd, hp, ht, hk⟩ | ⟨h2, e0, e6, n0, n1, hb, hl, ht, hk⟩ | ⟨h2, e6, hnn, hl, h3⟩ | ⟨h2, e7, hnn, hl, h3, hx⟩
    · unfold ndZ at hz
      injection hz with z0 z1 z2 z3 z4
      subst z0 z1 z2 z3 z4
      rw [if_pos rfl] at h hm ⊢
      exact ⟨ndZ, by rw [val_null ha h.1]; rfl, ttrim_null⟩
    · dsimp only at h1 f1 f2 hb h8 hd hp ht hk
      subst h1 f1 f2
      rw [if_neg (by omega), if_pos rfl] at h hf hm ⊢
      obtain ⟨f', rfl⟩ : ∃ f', f = f' + 1 := ⟨f - 1, by omega⟩
      by_cases hz : b.length / 8 + l.length = 0
      · rw [if_pos hz] at h
        obtain rfl : b = [] := List.eq_nil_of_length_eq_zero (by omega)
        obtain rfl : l = [] := List.eq_nil_of_length_eq_zero (by omega)
        have h0 : wd s a ≠ 0 := by rw [h.1]; decide
        have hO := objS (d := 0) (p := 0) (st := a) (off := -1) ha h.1 h0 (by omega) (by omega) (by omega) (by omega) (by omega) (by omega)
        have hV := val_at (f := f') (m := m) (c := 0) ha h0 (by rw [h.1]; decide) hO rfl (by omega)
        rw [hV]
        unfold bodR
        rw [if_pos rfl]
        obtain ⟨v, e1, e2⟩ := str_back (s := s) (f := f') (d := 0) (p := 0) (at_ := a) (m := m - 0) (j := 0) (b := []) (l := []) (vs := []) (cost := ((0 : Nat) : Int) + (0 : Nat)) (e := 0) (n0 := 0) (mr := m - 0) 0 hb (by simp [seg, wordsB]) (by simp) ht hk rfl rfl
        exact ⟨v, e1, e2⟩
      · rw [if_neg hz] at h
        obtain ⟨hw, hin, hsg, hL⟩ := h
        have h0 : wd s a ≠ 0 := by rw [hw]; exact encS_ne hd hp hz
        have hO := objS ha hw h0 (by omega) (by omega) hd hp (show (a : Int) + 1 + ((nx : Int) - a - 1) = nx by omega) hin
        have hkd := (encS_dec (off := (nx : Int) - a - 1) (d := (b.length / 8 : Nat)) (p := l.length) (by omega) (by omega) (by omega) (by omega) (by omega) (by omega)).1
        have hV := val_at (f := f') (m := m) (c := b.length / 8 + l.length) ha h0 (by rw [hw, hkd]; decide) hO (by dsimp only; omega) (by omega)
        rw [hV]
        unfold bodR
        rw [if_pos rfl]
        obtain ⟨vs, k1, k2⟩ := lays_val hlen l f' (nx + b.length / 8) (nx + (b.length / 8 + l.length)) r (m - (b.length / 8 + l.length)) hkids hL (by omega) (by omega) (by omega) (by omega)
        obtain ⟨v, e1, e2⟩ := str_back (s := s) (f := f') (j := 0) (cost := ((b.length / 8 : Nat) : Int) + l.length) (e := 0) (n0 := 0) 0 hb hsg (by omega) ht hk k2 (by rw [List.replicate_zero, List.append_nil]; exact k1)
        exact ⟨v, by rw [e1, show m - (b.length / 8 + l.length) - costs l = m - (b.length / 8 + l.length + costs l) by omega], e2⟩
    · dsimp only at h2 e0 e6 n0 n1 hb hl ht hk
      subst h2 hk
      rw [if_neg (by omega), if_neg (by omega), if_neg (by omega), if_neg (by omega)] at h hm ⊢
      rw [if_neg (by omega), if_neg (by omega), if_neg (by omega)] at hf
      obtain ⟨hw, hin, hsg, hr⟩ := h
      obtain ⟨f', rfl⟩ : ∃ f', f = f' + 1 := ⟨f - 1, by omega⟩
      have hb0 := wordsE_bd e n n0 n1
      have hO := objL (n := (wordsE e n).toNat) ha hw (by rw [hw]; exact encL_ne e0 n0) (by omega) (by omega) e0 (by omega) n0 n1 (by omega) (show (a : Int) + 1 + ((nx : Int) - a - 1) = nx by omega) hin
      have hkd := (encL_dec (off := (nx : Int) - a - 1) (e := e) (c := n) (by omega) (by omega) e0 (by omega) n0 n1).1
      have hV := val_at (f := f') (m := m) (c := (wordsE e n).toNat) ha (by rw [hw]; exact encL_ne e0 n0) (by rw [hw, hkd]; decide) hO rfl (by omega)
      rw [hV]
      unfold bodR
      dsimp only
      rw [if_neg (by omega), if_pos e6, cut_seg hsg]
      obtain ⟨w1, w2⟩ := wordsE_bytes e n e6 n0
      rw [bytes_words hb (by omega), trimE_pre _ _ _ _ hl, ht]
      exact ⟨_, rfl, by rw [ttrim_list]; rfl⟩
    · dsimp only at h2 e6 hnn hl h3
      subst h2 e6 hnn h3
      rw [if_neg (by omega), if_neg (by omega), if_neg (by omega), if_pos rfl] at h hm ⊢
      rw [if_neg (by omega), if_neg (by omega), if_neg (by omega)] at hf
      obtain ⟨hw, hin, hL⟩ := h
      obtain ⟨f', rfl⟩ : ∃ f', f = f' + 1 := ⟨f - 1, by omega⟩
      have hwe : wordsE 6 (l.length : Int) = l.length := by unfold wordsE bitsE; simp; omega
      have hO := objL (n := l.length) ha hw (by rw [hw]; exact encL_ne (by omega) (by omega)) (by omega) (by omega) (by omega) (by omega) (by omega) (by omega) hwe (show (a : Int) + 1 + ((nx : Int) - a - 1) = nx by omega) hin
      have hkd := (encL_dec (off := (nx : Int) - a - 1) (e := 6) (c := l.length) (by omega) (by omega) (by omega) (by omega) (by omega) (by omega)).1
      have hV := val_at (f := f') (m := m) (c := l.length) ha (by rw [hw]; exact encL_ne (by omega) (by omega)) (by rw [hw, hkd]; decide) hO rfl (by omega)
      rw [hV]
      unfold bodR
      dsimp only
      obtain ⟨vs, k1, k2⟩ := lays_val hlen l f' nx (nx + l.length) r (m - l.length) hkids hL (by omega) (by omega) (by omega) (by omega)
      rw [if_neg (by omega), if_neg (by omega), if_pos rfl, Int.toNat_natCast, k1]
      dsimp only
      rw [if_neg (by simp)]
      exact ⟨_, by rw [show m - l.length - costs l = m - (l.length + costs l) by omega], by rw [ttrim_list, k2]⟩
    · dsimp only at h2 e7 hnn hl h3 hx
      subst h2 e7 hnn h3
      rw [if_neg (by omega), if_neg (by omega), if_pos rfl] at h hm hf ⊢
      obtain ⟨hw, hin, htg, hL⟩ := h
      obtain ⟨f', rfl⟩ : ∃ f', f = f' + 1 := ⟨f - 1, by omega⟩
      have hbd : ∀ x ∈ l, x.f3.length / 8 ≤ 65535 ∧ x.f4.length ≤ 65535 := fun x hx2 => by
        have h1 := hx x hx2
        rcases AllT.here (hkids x hx2) with h' | h' | h' | h' | h'
        · rw [h'] at h1; cases h1
        · exact ⟨h'.2.2.2.2.2.1, h'.2.2.2.2.2.2.1⟩
        · omega
        · omega
        · omega
      have hA : maxD l ≤ 65535 := by
        rcases maxD_att l with h | ⟨x, hx2, h⟩
        · omega
        · rw [← h]; exact (hbd x hx2).1
      have hB : maxP l ≤ 65535 := by
        rcases maxP_att l with h | ⟨x, hx2, h⟩
        · omega
        · rw [← h]; exact (hbd x hx2).2
      have hO := objC ha hw (by rw [hw]; exact encL_ne (by omega) (by omega)) (by omega) (by omega) (by omega) (show (a : Int) + 1 + ((nx : Int) - a - 1) = nx by omega) hin htg hl hA hB (Nat.le_refl _)
      have hkd := (encL_dec (off := (nx : Int) - a - 1) (e := 7) (c := (l.length * (maxD l + maxP l) : Nat)) (by omega) (by omega) (by omega) (by omega) (by omega) (by omega)).1
      have hcc : 1 + l.length * (maxD l + maxP l) + (if maxD l + maxP l = 0 then l.length else 0) = cosC (maxD l) (maxP l) l.length := by
        unfold cosC
        by_cases hz : maxD l + maxP l = 0
        · rw [if_pos hz, if_pos hz, hz, Nat.mul_zero]
        · rw [if_neg hz, if_neg hz, Nat.add_zero]
      rw [hcc] at hO
      have hV := val_at (f := f') (m := m) (c := cosC (maxD l) (maxP l) l.length) ha (by rw [hw]; exact encL_ne (by omega) (by omega)) (by rw [hw, hkd]; decide) hO rfl (by omega)
      rw [hV]
      unfold bodR
      dsimp only
      obtain ⟨vs, k1, k2⟩ := layE_val hlen (maxD l) (maxP l) (nx + 1) l.length ((cosC (maxD l) (maxP l) l.length : Nat) : Int) l f' 0 (nx + 1 + l.length * (maxD l + maxP l)) r (m - cosC (maxD l) (maxP l) l.length) hkids hx (fun x hx2 => maxD_le hx2) (fun x hx2 => maxP_le hx2) (by rw [Nat.zero_mul, Nat.add_zero]; exact hL) (by rw [Nat.zero_add]; omega) (by omega) (by omega) (by omega)
      rw [if_neg (by omega), if_neg (by omega), if_neg (by omega), Int.toNat_natCast, elsR_kids]
      rw [show ((0 : Nat) : Int) = 0 from rfl] at k1
      rw [k1]
      dsimp only
      rw [if_neg (by simp)]
      exact ⟨_, by rw [show m - cosC (maxD l) (maxP l) l.length - costE l = m - (cosC (maxD l) (maxP l) l.length + costE l) by omega], by rw [ttrim_list, k2]⟩
theorem lays_val {s : List Int} (hlen : s.length ≤ 536870000) : ∀ (l : List S37) (f a nx r m : Nat), (∀ x ∈ l, canT x) → lays s l a nx r → a + l.length ≤ s.length → nx ≤ s.length → deps l ≤ f → costs l ≤ m → ∃ vs, kidsR (valR [s] f 0) l.length a m = (vs, ((m - costs l : Nat) : Int), 0) ∧ vs.map ttrim = l
  | [], f, a, nx, r, m, _, _, _, _, _, _ => ⟨[], by simp [kidsR, costs], rfl⟩
  | x :: l, f, a, nx, r, m, hc, h, ha, hn, hf, hm => by
    unfold lays at h
    unfold deps at hf
    unfold costs at hm ⊢
    obtain ⟨q, h1, h2⟩ := h
    rw [List.length_cons] at ha
    obtain ⟨v, v1, v2⟩ := lay_val hlen x f a nx q m (hc x List.mem_cons_self) h1 (by omega) hn (by omega) (by omega)
    have hq : q ≤ s.length := lay_end x a nx q h1 hn
    obtain ⟨vs, w1, w2⟩ := lays_val hlen l f (a + 1) q r (m - costN x) (fun y hy => hc y (List.mem_cons_of_mem _ hy)) h2 (by omega) hq (by omega) (by omega)
    refine ⟨v :: vs, ?_, by rw [List.map_cons, v2, w2]⟩
    rw [List.length_cons, kidsR, v1]
    dsimp only
    rw [if_neg (by simp), show (a : Int) + 1 = ((a + 1 : Nat) : Int) by omega, w1, show m - costN x - costs l = m - (costN x + costs l) by omega]
theorem layE_val {s : List Int} (hlen : s.length ≤ 536870000) (A B ad N : Nat) (cost : Int) : ∀ (l : List S37) (f i nx r m : Nat), (∀ x ∈ l, canT x) → (∀ x ∈ l, x.f0 = 1) → (∀ x ∈ l, x.f3.length / 8 ≤ A) → (∀ x ∈ l, x.f4.length ≤ B) → layE s A B l (ad + i * (A + B)) nx r → ad + (i + l.length) * (A + B) ≤ s.length → nx ≤ s.length → depE l ≤ f → costE l ≤ m →
    ∃ vs, kidsR (fun i m => strR [s] (valR [s] f) (elG ⟨2, 0, (ad : Int), A, B, 7, N, cost⟩ i) m) l.length i m = (vs, ((m - costE l : Nat) : Int), 0) ∧ vs.map ttrim = l
  | [], f, i, nx, r, m, _, _, _, _, _, _, _, _, _ => ⟨[], by simp [kidsR, costE], rfl⟩
  | ⟨k, e, n, b, x⟩ :: l, f, i, nx, r, m, hc, hx, hA, hB, h, ha, hn, hf, hm => by
    have hk : k = 1 := hx _ List.mem_cons_self
    subst hk
    have hbl := hA _ List.mem_cons_self
    have hxl := hB _ List.mem_cons_self
    have hcx := hc _ List.mem_cons_self
    unfold layE at h
    unfold depE at hf
    unfold costE at hm ⊢
    obtain ⟨h1, h2, q, h3, h4⟩ := h
    rw [List.length_cons] at ha
    dsimp only at hbl hxl
    have e1 : (i + (l.length + 1)) * (A + B) = i * (A + B) + (A + B) + l.length * (A + B) := by rw [Nat.add_mul, Nat.add_mul, Nat.one_mul]; omega
    have e2 : (i + 1) * (A + B) = i * (A + B) + (A + B) := by rw [Nat.add_mul, Nat.one_mul]
    have e3 : (i + 1 + l.length) * (A + B) = i * (A + B) + (A + B) + l.length * (A + B) := by rw [Nat.add_mul, Nat.add_mul, Nat.one_mul]
    rcases AllT.here hcx with hz | ⟨_, f1, f2, hb, h8, hd, hp, ht, hk⟩ | ⟨h', _⟩ | ⟨h', _⟩ | ⟨h', _⟩
    · unfold ndZ at hz
      injection hz with z0
      exact absurd z0 (by decide)
    rotate_left
    · cases h'
    · cases h'
    · cases h'
    replace f1 : e = 0 := f1
    replace f2 : n = 0 := f2
    replace h8 : b.length % 8 = 0 := h8
    replace hb : BytN b := hb
    replace ht : 8 * twords b = b.length := ht
    replace hk : keptN nullN x = x.length := hk
    subst f1 f2
    obtain ⟨vs, v1, v2⟩ := lays_val hlen x f (ad + i * (A + B) + A) nx q m (AllT.kids hcx) h3 (by omega) hn (by omega) (by omega)
    have hz := nulls_val (s := s) (f := f) (B - x.length) (ad + i * (A + B) + A + x.length) (m - costs x) (by omega) (fun j hj => by
      have := h2 (x.length + j) (by omega) (by omega)
      rwa [← Nat.add_assoc] at this)
    have hk2 : kidsR (valR [s] f 0) B ((ad + i * (A + B) + A : Nat) : Int) m = (vs ++ List.replicate (B - x.length) ndZ, ((m - costs x : Nat) : Int), 0) := by
      have := kidsR_add (v := valR [s] f 0) x.length (B - x.length) ((ad + i * (A + B) + A : Nat) : Int) m (by rw [v1])
      rw [show x.length + (B - x.length) = B by omega, v1] at this
      dsimp only at this
      rw [show ((ad + i * (A + B) + A : Nat) : Int) + (x.length : Int) = ((ad + i * (A + B) + A + x.length : Nat) : Int) by omega, hz] at this
      exact this
    obtain ⟨v, s1, s2⟩ := str_back (s := s) (f := f) (cost := 0) (e := 0) (n0 := 0) 0 hb h1 (by omega) ht hk v2 hk2
    obtain ⟨ws, w1, w2⟩ := layE_val hlen A B ad N cost l f (i + 1) q r (m - costs x) (fun y hy => hc y (List.mem_cons_of_mem _ hy)) (fun y hy => hx y (List.mem_cons_of_mem _ hy)) (fun y hy => hA y (List.mem_cons_of_mem _ hy)) (fun y hy => hB y (List.mem_cons_of_mem _ hy)) (by rw [e2, ← Nat.add_assoc]; exact h4) (by rw [e3]; omega) (lays_end x _ _ _ h3 hn) (by omega) (by omega)
    have hel : elG ⟨2, 0, (ad : Int), A, B, 7, N, cost⟩ (i : Int) = ⟨1, 0, ((ad + i * (A + B) : Nat) : Int), A, B, 0, 0, 0⟩ := by
      unfold elG
      dsimp only
      rw [Int.natCast_add, Int.natCast_mul, Int.natCast_add]
    refine ⟨v :: ws, ?_, by rw [List.map_cons, s2, w2]⟩
    rw [List.length_cons, kidsR, hel, s1]
    rw [if_neg (by simp), show (i : Int) + 1 = ((i + 1 : Nat) : Int) by omega, w1, show m - costs x - costE l = m - (costs x + costE l) by omega]
end
end Go.Proofs.YtidglmocekghmaaDoor.Pr
end
section
namespace Go.Proofs.YtidglmocekghmaaDoor.Pr
set_option linter.unusedVariables false
set_option linter.unusedSimpArgs false
def preN (n : S37) : Prop :=
 n = ndZ ∨
 (n.f0 = 1 ∧ n.f1 = 0 ∧ n.f2 = 0 ∧ BytN n.f3 ∧ n.f3.length % 8 = 0 ∧ n.f3.length / 8 ≤ 65535 ∧ n.f4.length ≤ 65535) ∨
 (n.f0 = 2 ∧ 0 ≤ n.f1 ∧ n.f1 < 6 ∧ 0 ≤ n.f2 ∧ n.f2 ≤ 536870911 ∧ BytN n.f3 ∧ n.f3.length = (bytesE n.f1 n.f2).toNat ∧ trimE n.f1 n.f2 n.f3 = n.f3 ∧ n.f4 = []) ∨
 (n.f0 = 2 ∧ n.f1 = 6 ∧ n.f2 = n.f4.length ∧ n.f4.length ≤ 536870911 ∧ n.f3 = []) ∨
 (n.f0 = 2 ∧ n.f1 = 7 ∧ n.f2 = n.f4.length ∧ n.f4.length ≤ 536870911 ∧ n.f3 = [] ∧ ∀ x ∈ n.f4, x.f0 = 1)
def preT : S37 → Prop := AllT preN
theorem preZ : preT ndZ := .mk (.inl rfl) (by intro x hx; simp [ndZ] at hx)
theorem trimE_idem (e c : Int) (b : List Int) (c0 : 0 ≤ c) (h : (bytesE e c).toNat ≤ b.length) : trimE e c (trimE e c b) = trimE e c b := by
 have h1 := trimE_length e c b h
 have h2 := trimE_length e c (trimE e c b) (by rw [h1]; exact Nat.le_refl _)
 refine same_wd (by rw [h2, h1]) (fun j hj => ?_)
 rw [h2] at hj
 rw [trimE_at e c (trimE e c b) c0 j (by omega) (by rw [h1]; exact Nat.le_refl _), trimE_at e c b c0 j (by omega) h]
 split
 ·rw [Int.emod_emod_of_dvd _ (Int.dvd_refl _)]
 ·rfl
theorem strR_pre {G : List (List Int)} {v : Int → Int → Int → Tr} (hv : ∀ sg a m, (v sg a m).2.2 = 0 → preT (v sg a m).1) (o : Ob) (m : Int) (d0 : 0 ≤ o.d) (d1 : o.d ≤ 65535) (p0 : 0 ≤ o.p) (p1 : o.p ≤ 65535) (h : (strR G v o m).2.2 = 0) : preT (strR G v o m).1 ∧ (strR G v o m).1.f0 = 1 := by
 have hk := kidsR_all (hv o.sg) o.p.toNat (o.ad + o.d) m
 revert h
 unfold strR
 split
 ·rename_i he
  intro h
  exact (he h).elim
 ·rename_i he
  intro _
  obtain ⟨h1, h2⟩ := hk (by omega)
  have hc := cutG_length_le G o.sg o.ad o.d d0
  have hb := bytesL_length (cutG G o.sg o.ad o.d)
  refine ⟨.mk (.inr (.inl ⟨rfl, rfl, rfl, bytesL_bd _, ?_, ?_, ?_⟩)) h2, rfl⟩
  ·show (bytesL _).length % 8 = 0
   omega
  ·show (bytesL _).length / 8 ≤ 65535
   omega
  ·show (kidsR _ _ _ _).1.length ≤ 65535
   omega
theorem valR_pre (G : List (List Int)) : ∀ (f : Nat) (sg a m : Int), (valR G f sg a m).2.2 = 0 → preT (valR G f sg a m).1
 | f, sg, a, m => by
  induction f generalizing sg a m with
  | zero =>
   rw [valR]
   split
   ·exact fun _ => preZ
   split
   ·exact fun _ => preZ
   ·exact fun _ => preZ
  | succ f ih =>
   rw [valR]
   split
   ·exact fun _ => preZ
   rename_i he
   split
   ·exact fun _ => preZ
   rename_i hx
   split
   ·exact fun _ => preZ
   rename_i ho
   have hK := obj_ok G sg a (by omega) (by omega) hx
   generalize objG G sg a = q at *
   obtain ⟨o, _⟩ := q
   dsimp only at hK ⊢
   split
   ·exact fun _ => preZ
   have hst := fun (o : Ob) m => strR_pre (G := G) (fun sg a m h => ih sg a m h) o m
   unfold bodR
   rcases hK.is with ⟨hk, hi, d0, d1, p0, p1⟩ | ⟨hk, e0, e6, n0, n1, hw, hi⟩ | ⟨hk, e7, n0, n1, d0, d1, p0, p1, C, hi, hCC⟩
   ·rw [if_pos hk]
    intro h
    exact (hst o (m - o.c) d0 d1 p0 p1 h).1
   ·rw [if_neg (by omega)]
    by_cases he6 : o.e < 6
    ·rw [if_pos he6]
     intro _
     obtain ⟨w1, w2⟩ := wordsE_bytes o.e o.n he6 n0
     have hcl := cutG_length hi
     have hbl := bytesL_length (cutG G o.sg o.ad o.c)
     have hle : (bytesE o.e o.n).toNat ≤ (bytesL (cutG G o.sg o.ad o.c)).length := by rw [hbl, hcl, hw]; omega
     have ht := trimE_length o.e o.n (bytesL (cutG G o.sg o.ad o.c)) hle
     exact .mk (.inr (.inr (.inl ⟨hk ▸ rfl, e0, he6, n0, n1, Byt.N (trimE_byt (bytesL_bd _)), ht, trimE_idem _ _ _ n0 hle, rfl⟩))) (by intro x hx; cases hx)
    ·have he6 : o.e = 6 := by omega
     rw [if_neg (by omega), if_pos he6]
     have hk := kidsR_all (fun a m h => ih o.sg a m h) o.n.toNat o.ad (m - o.c)
     split
     ·rename_i hh
      intro h
      exact (hh h).elim
     ·rename_i hh
      intro _
      obtain ⟨h1, h2⟩ := hk (by omega)
      refine .mk (.inr (.inr (.inr (.inl ⟨rfl, he6, ?_, ?_, rfl⟩)))) h2
      ·show o.n = ((kidsR _ _ _ _).1.length : Int)
       omega
      ·show (kidsR _ _ _ _).1.length ≤ 536870911
       omega
   ·rw [if_neg (by omega), if_neg (by omega), if_neg (by omega), elsR_kids]
    have hkk := kidsR_all (v := fun i m => strR G (valR G f) (elG o i) m) (p := fun x => preT x ∧ x.f0 = 1) (fun i m h => hst (elG o i) m d0 d1 p0 p1 h) o.n.toNat 0 (m - o.c)
    split
    ·rename_i hh
     intro h
     exact (hh h).elim
    ·rename_i hh
     intro _
     obtain ⟨h1, h2⟩ := hkk (by omega)
     refine .mk (.inr (.inr (.inr (.inr ⟨rfl, e7, ?_, ?_, rfl, fun x hx => (h2 x hx).2⟩)))) (fun x hx => (h2 x hx).1)
     ·show o.n = ((kidsR _ _ _ _).1.length : Int)
      omega
     ·show (kidsR _ _ _ _).1.length ≤ 536870911
      omega
theorem kept_take {α : Type} (p : α → Bool) (l : List α) : keptN p (l.take (keptN p l)) = keptN p l := keptN_cut p l _ (Nat.le_refl _)
theorem ttrim_can (a : S37) : preT a → canT (ttrim a) := by
 refine S37.ind (P := fun a => preT a → canT (ttrim a)) (fun a ih h => ?_) a
 have hk : ∀ x ∈ (cutK a).map ttrim, canT x := fun x hx => by
  obtain ⟨y, hy, rfl⟩ := List.mem_map.1 hx
  exact ih y (cutK_mem hy) (AllT.kids h y (cutK_mem hy))
 rw [ttrim_eq]
 refine .mk ?_ hk
 rcases AllT.here h with rfl | ⟨h1, f1, f2, hb, h8, hd, hp⟩ | ⟨h2, e0, e6, n0, n1, hb, hl, ht, hk0⟩ | ⟨h2, e6, hn, hl, h3⟩ | ⟨h2, e7, hn, hl, h3, hx⟩
 ·exact .inl rfl
 ·have hw := twords_le a.f3 h8
  have hke := keptN_le nullN a.f4
  have e1 : cutD a = a.f3.take (8 * twords a.f3) := if_pos h1
  have e2 : cutK a = a.f4.take (keptN nullN a.f4) := if_pos h1
  rw [e1, e2]
  refine .inr (.inl ⟨h1, f1, f2, fun x hx => hb x (List.mem_of_mem_take hx), ?_, ?_, ?_, ?_, ?_⟩)
  all_goals dsimp only
  ·rw [List.length_take]; omega
  ·rw [List.length_take]; omega
  ·rw [List.length_map, List.length_take]; omega
  ·rw [twords_cut, List.length_take]; omega
  ·rw [kept_trim, kept_take, List.length_map, List.length_take]; omega
 ·have e1 : cutD a = a.f3 := if_neg (by omega)
  have e2 : cutK a = a.f4 := if_neg (by omega)
  rw [e1, e2]
  exact .inr (.inr (.inl ⟨h2, e0, e6, n0, n1, hb, hl, ht, by rw [hk0]; rfl⟩))
 ·have e1 : cutD a = a.f3 := if_neg (by omega)
  have e2 : cutK a = a.f4 := if_neg (by omega)
  rw [e1, e2]
  exact .inr (.inr (.inr (.inl ⟨h2, e6, by rw [List.length_map]; exact hn, by rw [List.length_map]; exact hl, h3⟩)))
 ·have e1 : cutD a = a.f3 := if_neg (by omega)
  have e2 : cutK a = a.f4 := if_neg (by omega)
  rw [e1, e2]
  refine .inr (.inr (.inr (.inr ⟨h2, e7, by rw [List.length_map]; exact hn, by rw [List.length_map]; exact hl, h3, fun x hx' => ?_⟩)))
  obtain ⟨y, hy, rfl⟩ := List.mem_map.1 hx'
  rw [ttrim_f0]
  exact hx y hy
theorem costs_take : ∀ (l : List S37) (k : Nat), costs (l.take k) ≤ costs l ∧ deps (l.take k) ≤ deps l
 | [], k => by simp
 | x :: l, 0 => by simp [costs, deps]
 | x :: l, k + 1 => by
  have := costs_take l k
  rw [List.take_succ_cons, costs, costs, deps, deps]
  omega
def Cd (f : Nat) (q : Tr) (m : Int) : Prop := q.2.2 = 0 → (costN (ttrim q.1) : Int) ≤ m - q.2.1 ∧ depN (ttrim q.1) ≤ f
theorem kidsR_cd {v : Int → Int → Tr} {f : Nat} (hv : ∀ a m, Cd f (v a m) m) : ∀ (n : Nat) (a m : Int), (kidsR v n a m).2.2 = 0 → (costs ((kidsR v n a m).1.map ttrim) : Int) ≤ m - (kidsR v n a m).2.1 ∧ deps ((kidsR v n a m).1.map ttrim) ≤ f
 | 0, a, m, h => by simp [kidsR, costs, deps]
 | n + 1, a, m, h => by
  revert h
  unfold kidsR
  split
  ·rename_i he
   intro h
   exact (he h).elim
  ·rename_i he
   have he : (v a m).2.2 = 0 := by omega
   intro h
   have h1 := hv a m he
   have h2 := kidsR_cd hv n (a + 1) (v a m).2.1 h
   dsimp only
   rw [List.map_cons, costs, deps]
   omega
structure StC (f : Nat) (d p : Int) (q : Tr) (m : Int) : Prop where
 k : (ttrim q.1).f0 = 1
 d : ((ttrim q.1).f3.length / 8 : Nat) ≤ d
 p : ((ttrim q.1).f4.length : Int) ≤ p
 c : (costs (ttrim q.1).f4 : Int) ≤ m - q.2.1
 f : deps (ttrim q.1).f4 ≤ f
theorem strR_cd (G : List (List Int)) {v : Int → Int → Int → Tr} {f : Nat} (hv : ∀ sg a m, Cd f (v sg a m) m) (o : Ob) (m : Int) (d0 : 0 ≤ o.d) (p0 : 0 ≤ o.p) (h : (strR G v o m).2.2 = 0) : StC f o.d o.p (strR G v o m) m := by
 have hk := kidsR_cd (hv o.sg) o.p.toNat (o.ad + o.d) m
 have hl := kidsR_all (v := v o.sg) (p := fun _ => True) (fun _ _ _ => trivial) o.p.toNat (o.ad + o.d) m
 have hc := cutG_length_le G o.sg o.ad o.d d0
 revert h
 unfold strR
 split
 ·rename_i he
  intro h
  exact (he h).elim
 ·rename_i he
  intro _
  obtain ⟨h1, h2⟩ := hk (by omega)
  have hln := (hl (by omega)).1
  generalize (kidsR (v o.sg) o.p.toNat (o.ad + o.d) m).1 = kids at *
  generalize (kidsR (v o.sg) o.p.toNat (o.ad + o.d) m).2.1 = mr at *
  have ht := twords_le_len (cutG G o.sg o.ad o.d)
  have hke := keptN_le nullN kids
  have hct := costs_take (kids.map ttrim) (keptN nullN kids)
  have e : ttrim ⟨1, 0, 0, bytesL (cutG G o.sg o.ad o.d), kids⟩ = ⟨1, 0, 0, (bytesL (cutG G o.sg o.ad o.d)).take (8 * twords (bytesL (cutG G o.sg o.ad o.d))), (kids.map ttrim).take (keptN nullN kids)⟩ := by rw [ttrim_struct, List.map_take]
  refine ⟨by rw [e], ?_, ?_, ?_, ?_⟩
  all_goals rw [e]; dsimp only
  ·rw [List.length_take]; omega
  ·rw [List.length_take, List.length_map]; omega
  ·omega
  ·omega
theorem obj_c1 (G : List (List Int)) (s a : Int) (h : (objG G s a).2 = 0) (he : (folM G s a).2.2.2 = 0) (hx : (folM G s a).1 ≠ 0) (hk : (objG G s a).1.kd = 2) (h7 : (objG G s a).1.e = 7) : 1 + (objG G s a).1.n * ((objG G s a).1.d + (objG G s a).1.p) ≤ (objG G s a).1.c ∧ ((objG G s a).1.d + (objG G s a).1.p = 0 → 1 + (objG G s a).1.n ≤ (objG G s a).1.c) := by
 revert h hk h7
 unfold objG
 rw [if_neg (by simpa using he), if_neg hx]
 generalize folM G s a = q
 obtain ⟨x, sg, ba, er⟩ := q
 dsimp only
 have q3 := pE_bd x
 have q4 := pC_bd x
 unfold desM
 split
 ·split
  ·intro h; cases h
  ·intro h; cases h
 split
 ·split
  ·intro _ hk; simp at hk
  ·intro h; cases h
 split
 ·intro h; cases h
 split
 ·rename_i h6
  intro _ _ h7
  exact (h6 h7).elim
 rename_i he7
 have he7 : pE x = 7 := by omega
 have hw : wordsE (pE x) (pC x) = pC x + 1 := by rw [he7]; rfl
 rw [hw]
 generalize wdG G sg (ba + pO x) = t
 unfold tagM
 split
 ·intro h; cases h
 split
 ·intro h; cases h
 split
 ·intro h; cases h
 split
 all_goals
  intro _ _ _
  dsimp only
  exact ⟨by omega, fun hz => by omega⟩
theorem maxD_map {l : List S37} {k : Int} (h0 : 0 ≤ k) (h : ∀ x ∈ l, ((ttrim x).f3.length / 8 : Nat) ≤ k) : (maxD (l.map ttrim) : Int) ≤ k := by
 induction l with
 | nil => simpa [maxD] using h0
 | cons y l ih =>
  have h1 := h y List.mem_cons_self
  have h2 := ih (fun x hx => h x (List.mem_cons_of_mem _ hx))
  rw [List.map_cons]
  unfold maxD
  omega
theorem maxP_map {l : List S37} {k : Int} (h0 : 0 ≤ k) (h : ∀ x ∈ l, ((ttrim x).f4.length : Int) ≤ k) : (maxP (l.map ttrim) : Int) ≤ k := by
 induction l with
 | nil => simpa [maxP] using h0
 | cons y l ih =>
  have h1 := h y List.mem_cons_self
  have h2 := ih (fun x hx => h x (List.mem_cons_of_mem _ hx))
  rw [List.map_cons]
  unfold maxP
  omega
theorem els_cd {v : Int → Int → Tr} {f : Nat} {d p : Int} (hv : ∀ a m, (v a m).2.2 = 0 → StC f d p (v a m) m) : ∀ (n : Nat) (a m : Int), (kidsR v n a m).2.2 = 0 → (costE ((kidsR v n a m).1.map ttrim) : Int) ≤ m - (kidsR v n a m).2.1 ∧ depE ((kidsR v n a m).1.map ttrim) ≤ f ∧ ∀ x ∈ (kidsR v n a m).1, ((ttrim x).f3.length / 8 : Nat) ≤ d ∧ ((ttrim x).f4.length : Int) ≤ p
 | 0, a, m, h => by simp [kidsR, costE, depE]
 | n + 1, a, m, h => by
  revert h
  unfold kidsR
  split
  ·rename_i he
   intro h
   exact (he h).elim
  ·rename_i he
   have he : (v a m).2.2 = 0 := by omega
   intro h
   have h1 := hv a m he
   obtain ⟨i1, i2, i3⟩ := els_cd hv n (a + 1) (v a m).2.1 h
   obtain ⟨k1, k2, k3, k4, k5⟩ := h1
   refine ⟨?_, ?_, fun x hx => ?_⟩
   ·dsimp only
    rw [List.map_cons]
    cases hq : ttrim (v a m).1 with
    | mk _ _ _ _ l =>
     rw [hq] at k4
     rw [costE]
     dsimp only at k4
     omega
   ·dsimp only
    rw [List.map_cons]
    cases hq : ttrim (v a m).1 with
    | mk _ _ _ _ l =>
     rw [hq] at k5
     rw [depE]
     dsimp only at k5
     omega
   ·rcases List.mem_cons.1 hx with rfl | hx
    ·exact ⟨k2, k3⟩
    ·exact i3 x hx
theorem cdZ (f : Nat) (m e : Int) : Cd f (ndZ, m, e) m := fun _ => by
 rw [ttrim_null]
 unfold ndZ costN depN
 simp
theorem valR_cd (G : List (List Int)) : ∀ (f : Nat) (sg a m : Int), Cd f (valR G f sg a m) m
 | f, sg, a, m => by
  induction f generalizing sg a m with
  | zero =>
   rw [valR]
   split
   ·exact cdZ _ _ _
   split
   ·exact cdZ _ _ _
   ·exact cdZ _ _ _
  | succ f ih =>
   rw [valR]
   split
   ·exact cdZ _ _ _
   rename_i he
   split
   ·exact cdZ _ _ _
   rename_i hx
   split
   ·exact cdZ _ _ _
   rename_i ho
   have hK := obj_ok G sg a (by omega) (by omega) hx
   have hC := obj_c G sg a (by omega) (by omega) hx
   have hC1 := obj_c1 G sg a (by omega) (by omega) hx
   generalize objG G sg a = q at *
   obtain ⟨o, _⟩ := q
   dsimp only at hK hC hC1 ⊢
   split
   ·exact cdZ _ _ _
   have hst := fun (o : Ob) m => strR_cd G (fun sg a m => ih sg a m) o m
   unfold bodR
   rcases hK.is with ⟨hk, hi, d0, d1, p0, p1⟩ | ⟨hk, e0, e6, n0, n1, hw, hi⟩ | ⟨hk, e7, n0, n1, d0, d1, p0, p1, C, hi, hCC⟩
   ·rw [if_pos hk]
    intro h
    obtain ⟨k1, k2, k3, k4, k5⟩ := hst o (m - o.c) d0 p0 h
    have hcc := hC.1 hk
    generalize strR G (valR G f) o (m - o.c) = q at *
    cases hq : ttrim q.1 with
    | mk a0 a1 a2 b l =>
     rw [hq] at k1 k2 k3 k4 k5
     dsimp only at k1 k2 k3 k4 k5
     subst k1
     rw [costN, depN, if_neg (by omega), if_pos rfl, if_neg (by omega), if_pos rfl]
     omega
   ·rw [if_neg (by omega)]
    by_cases he6 : o.e < 6
    ·rw [if_pos he6]
     intro _
     have hb := wordsE_bd o.e o.n n0 n1
     dsimp only
     rw [ttrim_list, costN, depN]
     simp only [if_neg (show ¬ (2 : Int) = 0 by omega), if_neg (show ¬ (2 : Int) = 1 by omega), if_neg (show ¬ o.e = 7 by omega), if_neg (show ¬ o.e = 6 by omega), List.map_nil, deps]
     omega
    ·have he6 : o.e = 6 := by omega
     rw [if_neg (by omega), if_pos he6]
     have hwn : o.c = o.n := by rw [hw, he6]; unfold wordsE bitsE; simp; omega
     have hk := kidsR_cd (fun a m => ih o.sg a m) o.n.toNat o.ad (m - o.c)
     have hl := kidsR_all (v := valR G f o.sg) (p := fun _ => True) (fun _ _ _ => trivial) o.n.toNat o.ad (m - o.c)
     split
     ·rename_i hh
      intro h
      exact (hh h).elim
     ·rename_i hh
      intro _
      obtain ⟨h1, h2⟩ := hk (by omega)
      have h3 := (hl (by omega)).1
      dsimp only
      rw [ttrim_list, costN, depN]
      simp only [if_neg (show ¬ (2 : Int) = 0 by omega), if_neg (show ¬ (2 : Int) = 1 by omega), if_neg (show ¬ o.e = 7 by omega), if_pos he6, List.length_map]
      omega
   ·rw [if_neg (by omega), if_neg (by omega), if_neg (by omega), elsR_kids]
    have hkk := els_cd (v := fun i m => strR G (valR G f) (elG o i) m) (f := f) (d := o.d) (p := o.p) (fun i m h => hst (elG o i) m d0 p0 h) o.n.toNat 0 (m - o.c)
    have hl := kidsR_all (v := fun i m => strR G (valR G f) (elG o i) m) (p := fun _ => True) (fun _ _ _ => trivial) o.n.toNat 0 (m - o.c)
    split
    ·rename_i hh
     intro h
     exact (hh h).elim
    ·rename_i hh
     intro _
     obtain ⟨h1, h2, h3⟩ := hkk (by omega)
     have h4 := (hl (by omega)).1
     obtain ⟨c1, c2⟩ := hC1 hk e7
     have m1 := maxD_map d0 (fun x hx => (h3 x hx).1)
     have m2 := maxP_map p0 (fun x hx => (h3 x hx).2)
     dsimp only
     rw [ttrim_list, costN, depN]
     simp only [if_neg (show ¬ (2 : Int) = 0 by omega), if_neg (show ¬ (2 : Int) = 1 by omega), if_pos e7, List.length_map]
     generalize (kidsR (fun i m => strR G (valR G f) (elG o i) m) o.n.toNat 0 (m - o.c)).1 = kids at *
     generalize maxD (kids.map ttrim) = A at *
     generalize maxP (kids.map ttrim) = B at *
     have hcos : (cosC A B kids.length : Int) ≤ o.c := by
      unfold cosC
      rw [h4]
      by_cases hz : A + B = 0
      ·rw [if_pos hz]
       by_cases hdp : o.d + o.p = 0
       ·have := c2 hdp
        omega
       ·have y : o.n * 1 ≤ o.n * (o.d + o.p) := Int.mul_le_mul_of_nonneg_left (by omega) n0
        omega
      ·rw [if_neg hz]
       have y : o.n * ((A : Int) + B) ≤ o.n * (o.d + o.p) := Int.mul_le_mul_of_nonneg_left (by omega) n0
       have y2 : ((o.n.toNat * (A + B) : Nat) : Int) = o.n * ((A : Int) + B) := by rw [Int.natCast_mul, Int.natCast_add, Int.toNat_of_nonneg n0]
       omega
     omega
end Go.Proofs.YtidglmocekghmaaDoor.Pr
end
section
namespace Go.Proofs.YtidglmocekghmaaDoor.Pr
theorem wd_append {s t : List Int} {i : Nat} (h : i < s.length) : wd (s ++ t) i = wd s i := by
 unfold wd
 simp [List.getElem?_append_left h]
theorem objM_append {s t : List Int} {a : Nat} {off : Int} {n nx : Nat} (h : objM s a off n nx = true) : objM (s ++ t) a off n nx = true := by
 have := objM_in h
 unfold objM
 simp
 omega
theorem anyM_append {s t : List Int} {size : Nat} : ∀ k a, (∀ i, i < k → a + i * size < s.length) → anyM (s ++ t) size k a = anyM s size k a
 | 0, _, _ => rfl
 | k + 1, a, h => by
  have h0 := h 0 (by omega)
  rw [anyM, anyM, wd_append (by omega), anyM_append k (a + size) (fun i hi => by have := h (i + 1) (by omega); rw [Nat.add_mul] at this; omega)]
theorem restM_append {s t : List Int} {e c : Int} {nx n : Nat} (h : nx + n ≤ s.length) : restM (s ++ t) e c nx n = restM s e c nx n := by
 unfold restM
 have e1 : ((s ++ t).drop nx).take n = (s.drop nx).take n := by
  rw [List.drop_append_of_le_length (by omega), List.take_append_of_le_length (by simp; omega)]
 rw [e1]
def Loc (n : Nat) (v v' : Nat → Nat → Nat → Option (Nat × Nat)) : Prop := ∀ a nx m r, a < n → v a nx m = some r → v' a nx m = some r
theorem ptrsM_loc {N : Nat} {v v' : Nat → Nat → Nat → Option (Nat × Nat)} (hv : Loc N v v') : ∀ n a nx m r, a + n ≤ N → ptrsM v n a nx m = some r → ptrsM v' n a nx m = some r
 | 0, _, _, _, _, _, h => h
 | n + 1, a, nx, m, r, ha, h => by
  rw [ptrsM] at h ⊢
  cases h1 : v a nx m with
  | none => rw [h1] at h; cases h
  | some q =>
   rw [h1] at h
   rw [hv a nx m q (by omega) h1]
   exact ptrsM_loc hv n _ _ _ _ (by omega) h
theorem elemsM_loc {N : Nat} {v v' : Nat → Nat → Nat → Option (Nat × Nat)} (hv : Loc N v v') (p size : Nat) : ∀ k a nx m r, (∀ i, i < k → a + i * size + p ≤ N) → elemsM v p size k a nx m = some r → elemsM v' p size k a nx m = some r
 | 0, _, _, _, _, _, h => h
 | k + 1, a, nx, m, r, ha, h => by
  rw [elemsM] at h ⊢
  cases h1 : ptrsM v p a nx m with
  | none => rw [h1] at h; cases h
  | some q =>
   rw [h1] at h
   rw [ptrsM_loc hv p a nx m q (by have := ha 0 (by omega); omega) h1]
   exact elemsM_loc hv p size k _ _ _ _ (fun i hi => by have := ha (i + 1) (by omega); rw [Nat.add_mul] at this; omega) h
theorem structM_loc {s t : List Int} {v v' : Nat → Nat → Nat → Option (Nat × Nat)} (hv : Loc s.length v v') {a : Nat} {w : Int} {nx m : Nat} {r : Nat × Nat} (h : structM s v a w nx m = some r) : structM (s ++ t) v' a w nx m = some r := by
 unfold structM at h ⊢
 dsimp only at h ⊢
 generalize (dataW w).toNat = d at h ⊢
 generalize (ptrsW w).toNat = p at h ⊢
 by_cases h0 : d + p = 0
 ·rw [if_pos h0] at h ⊢; exact h
 ·rw [if_neg h0] at h ⊢
  by_cases h1 : objM s a (offW w) (d + p) nx = true
  ·have hl := (objM_in h1).2
   rw [if_pos h1] at h
   rw [if_pos (objM_append h1)]
   by_cases h2 : d + p ≤ m
   ·rw [if_pos h2] at h ⊢
    have e1 : lastM (s ++ t) nx d = lastM s nx d := by
     unfold lastM
     by_cases hd : d = 0
     ·simp [hd]
     ·rw [wd_append (by omega)]
    rw [e1]
    by_cases h3 : lastM s nx d = true
    ·rw [if_pos h3] at h ⊢
     have e2 : (decide (p = 0) || decide (wd (s ++ t) (nx + d + p - 1) ≠ 0)) = (decide (p = 0) || decide (wd s (nx + d + p - 1) ≠ 0)) := by
      by_cases hp : p = 0
      ·simp [hp]
      ·rw [wd_append (by omega)]
     rw [e2]
     by_cases h4 : (decide (p = 0) || decide (wd s (nx + d + p - 1) ≠ 0)) = true
     ·rw [if_pos h4] at h ⊢
      exact ptrsM_loc hv _ _ _ _ _ (by omega) h
     ·rw [if_neg h4] at h; cases h
    ·rw [if_neg h3] at h; cases h
   ·rw [if_neg h2] at h; cases h
  ·rw [if_neg h1] at h; cases h
theorem row_le {k K sz c : Nat} (hk : k < K) (h : K * sz = c) : k * sz + sz ≤ c := by
 have : (k + 1) * sz ≤ K * sz := Nat.mul_le_mul_right _ hk
 rw [Nat.add_mul] at this
 omega
theorem tag_nums {t w : Int} (h : kindW t = 0 ∧ 0 ≤ offW t ∧ offW t * (dataW t + ptrsW t) = cntW w) : (offW t).toNat * ((dataW t).toNat + (ptrsW t).toNat) = (cntW w).toNat := by
 obtain ⟨_, h1, h2⟩ := h
 have hd := dataW_bd t
 have hp := ptrsW_bd t
 obtain ⟨k, hk⟩ : ∃ k : Nat, offW t = k := ⟨(offW t).toNat, by omega⟩
 obtain ⟨d, hd'⟩ : ∃ k : Nat, dataW t = k := ⟨(dataW t).toNat, by omega⟩
 obtain ⟨p, hp'⟩ : ∃ k : Nat, ptrsW t = k := ⟨(ptrsW t).toNat, by omega⟩
 rw [hk, hd', hp'] at h2 ⊢
 have e : cntW w = ((k * (d + p) : Nat) : Int) := by rw [← h2]; simp
 rw [e]
 simp only [Int.toNat_natCast]
theorem compM_loc {s t : List Int} {v v' : Nat → Nat → Nat → Option (Nat × Nat)} (hv : Loc s.length v v') {a : Nat} {w : Int} {nx m : Nat} {r : Nat × Nat} (h : compM s v a w nx m = some r) : compM (s ++ t) v' a w nx m = some r := by
 unfold compM at h ⊢
 dsimp only at h ⊢
 by_cases h1 : objM s a (offW w) ((cntW w).toNat + 1) nx = true
 ·have hl := (objM_in h1).2
  rw [if_pos h1] at h
  rw [if_pos (objM_append h1), wd_append (by omega)]
  by_cases h2 : kindW (wd s nx) = 0 ∧ 0 ≤ offW (wd s nx) ∧ offW (wd s nx) * (dataW (wd s nx) + ptrsW (wd s nx)) = cntW w
  ·have hn := tag_nums h2
   rw [if_pos h2] at h ⊢
   generalize (cntW w).toNat = c at h hn hl ⊢
   generalize (dataW (wd s nx)).toNat = d at h hn ⊢
   generalize (ptrsW (wd s nx)).toNat = p at h hn ⊢
   generalize (offW (wd s nx)).toNat = K at h hn ⊢
   by_cases h3 : c + 1 ≤ m
   ·rw [if_pos h3] at h ⊢
    by_cases h4 : d + p = 0
    ·rw [if_pos h4] at h ⊢; exact h
    ·rw [if_neg h4] at h ⊢
     have e1 : (decide (d = 0) || anyM (s ++ t) (d + p) K (nx + 1 + d - 1)) = (decide (d = 0) || anyM s (d + p) K (nx + 1 + d - 1)) := by
      by_cases hd : d = 0
      ·simp [hd]
      ·rw [anyM_append K _ (fun i hi => by have := row_le hi hn; omega)]
     have e2 : (decide (p = 0) || anyM (s ++ t) (d + p) K (nx + 1 + (d + p) - 1)) = (decide (p = 0) || anyM s (d + p) K (nx + 1 + (d + p) - 1)) := by
      by_cases hp : p = 0
      ·simp [hp]
      ·rw [anyM_append K _ (fun i hi => by have := row_le hi hn; omega)]
     rw [e1, e2]
     by_cases h5 : ((decide (d = 0) || anyM s (d + p) K (nx + 1 + d - 1)) && (decide (p = 0) || anyM s (d + p) K (nx + 1 + (d + p) - 1))) = true
     ·rw [if_pos h5] at h ⊢
      exact elemsM_loc hv _ _ _ _ _ _ _ (fun i hi => by have := row_le hi hn; omega) h
     ·rw [if_neg h5] at h; cases h
   ·rw [if_neg h3] at h; cases h
  ·rw [if_neg h2] at h; cases h
 ·rw [if_neg h1] at h; cases h
theorem listM_loc {s t : List Int} {v v' : Nat → Nat → Nat → Option (Nat × Nat)} (hv : Loc s.length v v') {a : Nat} {w : Int} {nx m : Nat} {r : Nat × Nat} (h : listM s v a w nx m = some r) : listM (s ++ t) v' a w nx m = some r := by
 unfold listM at h ⊢
 by_cases h7 : elemW w = 7
 ·rw [if_pos h7] at h ⊢
  exact compM_loc hv h
 ·rw [if_neg h7] at h ⊢
  dsimp only at h ⊢
  generalize (wordsE (elemW w) (cntW w)).toNat = n at h ⊢
  by_cases h1 : objM s a (offW w) n nx = true
  ·have hl := (objM_in h1).2
   rw [if_pos h1] at h
   rw [if_pos (objM_append h1)]
   by_cases h2 : n ≤ m
   ·rw [if_pos h2] at h ⊢
    by_cases h6 : elemW w = 6
    ·rw [if_pos h6] at h ⊢
     exact ptrsM_loc hv _ _ _ _ _ hl h
    ·rw [if_neg h6] at h ⊢
     rw [restM_append hl]
     exact h
   ·rw [if_neg h2] at h; cases h
  ·rw [if_neg h1] at h; cases h
theorem visM_loc (s t : List Int) : ∀ f, Loc s.length (visM s f) (visM (s ++ t) f)
 | 0 => fun a nx m r ha h => by
  unfold visM at h ⊢
  rw [wd_append ha]; exact h
 | f + 1 => fun a nx m r ha h => by
  have ih := visM_loc s t f
  unfold visM at h ⊢
  rw [wd_append ha]
  by_cases h0 : wd s a = 0
  ·rw [if_pos h0] at h ⊢; exact h
  ·rw [if_neg h0] at h ⊢
   by_cases h1 : kindW (wd s a) = 0
   ·rw [if_pos h1] at h ⊢
    exact structM_loc ih h
   ·rw [if_neg h1] at h ⊢
    by_cases h2 : kindW (wd s a) = 1
    ·rw [if_pos h2] at h ⊢
     exact listM_loc ih h
    ·rw [if_neg h2] at h; cases h
theorem wordsM_append {s t : List Int} {D Wd : Int} (h : wordsM s D Wd = true) (ht : t ≠ []) : wordsM (s ++ t) D Wd = false := by
 unfold wordsM at h ⊢
 rw [Bool.and_eq_true] at h
 obtain ⟨h0, h1⟩ := h
 have h0' : 0 < s.length := of_decide_eq_true h0
 cases hv : visM s D.toNat 0 1 Wd.toNat with
 | none => rw [hv] at h1; cases h1
 | some r =>
  rw [hv] at h1
  have h2 : r.1 = s.length := of_decide_eq_true h1
  rw [visM_loc s t _ 0 1 _ r h0' hv]
  have hl : 0 < t.length := List.length_pos_iff.2 ht
  simp
  omega
end Go.Proofs.YtidglmocekghmaaDoor.Pr
end
section
namespace Go.Proofs.YtidglmocekghmaaDoor.Pr
set_option linter.unusedVariables false
set_option linter.unusedSimpArgs false
def OkW (l : List Int) : Prop := ∀ x ∈ l, 0 ≤ x ∧ x < 18446744073709551616
theorem OkW.app {a b : List Int} (h : OkW a) (k : OkW b) : OkW (a ++ b) := fun x hx => (List.mem_append.1 hx).elim (h x) (k x)
theorem OkW.rep (n : Nat) : OkW (List.replicate n 0) := fun x hx => by rw [(List.mem_replicate.1 hx).2]; decide
theorem wordB_ok {b : List Int} (h : Byt b) : 0 ≤ wordB b ∧ wordB b < 18446744073709551616 := by
 have h0 := h 0
 have h1 := h 1
 have h2 := h 2
 have h3 := h 3
 have h4 := h 4
 have h5 := h 5
 have h6 := h 6
 have h7 := h 7
 unfold wordB
 omega
theorem wordsB_ok : ∀ (n : Nat) {b : List Int}, BytN b → OkW (wordsB n b)
 | 0, b, h => fun x hx => by simp [wordsB] at hx
 | n + 1, b, h => fun x hx => by
  rw [wordsB] at hx
  rcases List.mem_cons.1 hx with rfl | hx
  ·exact wordB_ok (byt_of (fun y hy => h y (List.mem_of_mem_take hy)))
  ·exact wordsB_ok n (fun y hy => h y (List.mem_of_mem_drop hy)) x hx
theorem shallowE_ok (A B : Nat) : ∀ l : List S37, (∀ x ∈ l, BytN x.f3) → OkW (shallowE A B l)
 | [], _ => fun x hx => by simp [shallowE] at hx
 | y :: l, h => by
  rw [shallowE]
  exact ((wordsB_ok A (h y List.mem_cons_self)).app (OkW.rep B)).app (shallowE_ok A B l (fun x hx => h x (List.mem_cons_of_mem _ hx)))
theorem kid_fit {n : S37} (hf : fitT n) (hx : ∀ x ∈ n.f4, x.f0 = 1) : ∀ x ∈ n.f4, BytN x.f3 ∧ x.f3.length / 8 ≤ 65535 ∧ x.f4.length ≤ 65535 := fun x hx2 => by
 have h1 := hx x hx2
 rcases AllT.here (AllT.kids hf x hx2) with h' | h' | h' | h' | h'
 ·omega
 ·exact ⟨h'.2.1, h'.2.2.2.1, h'.2.2.2.2⟩
 ·omega
 ·omega
 ·omega
theorem maxD_bd' {l : List S37} {k : Nat} (h : ∀ x ∈ l, x.f3.length / 8 ≤ k) : maxD l ≤ k := by
 rcases maxD_att l with h' | ⟨x, hx, h'⟩
 ·omega
 ·rw [← h']; exact h x hx
theorem maxP_bd' {l : List S37} {k : Nat} (h : ∀ x ∈ l, x.f4.length ≤ k) : maxP l ≤ k := by
 rcases maxP_att l with h' | ⟨x, hx, h'⟩
 ·omega
 ·rw [← h']; exact h x hx
theorem put_ok {n : S37} {out : List Int} {a : Nat} (hf : fitT n) (h0 : n.f0 ≠ 0) (ho : OkW out) (hl : (shallowW n).length ≤ 536870000) : OkW (putW n out a) := by
 have main : OkW (shallowW n) ∧ ∀ off, 0 ≤ ptrW n off ∧ ptrW n off < 18446744073709551616 := by
  rcases AllT.here hf with h | ⟨h, hb, h8, hd, hp⟩ | ⟨h, e0, e6, n0, n1, hb, _, _, _⟩ | ⟨h, e6, hn, hl, h3⟩ | ⟨h, e7, hn, hl4, h3, hx⟩
  ·exact (h0 h).elim
  ·refine ⟨?_, fun off => ?_⟩
   ·unfold shallowW
    rw [if_pos h]
    exact (wordsB_ok _ hb).app (OkW.rep _)
   ·unfold ptrW
    rw [if_pos h]
    split
    ·decide
    ·unfold encS
     omega
  ·refine ⟨?_, fun off => ?_⟩
   ·unfold shallowW
    rw [if_neg (by omega), if_neg (by omega), if_neg (by omega)]
    exact wordsB_ok _ hb
   ·unfold ptrW
    rw [if_neg (by omega), if_neg (by omega), if_neg (by omega)]
    unfold encL
    omega
  ·refine ⟨?_, fun off => ?_⟩
   ·unfold shallowW
    rw [if_neg (by omega), if_neg (by omega), if_pos e6]
    exact OkW.rep _
   ·unfold ptrW
    rw [if_neg (by omega), if_neg (by omega), if_pos e6]
    unfold encL
    omega
  ·have hk := kid_fit hf hx
   have hA := maxD_bd' (fun x hx => (hk x hx).2.1)
   have hB := maxP_bd' (fun x hx => (hk x hx).2.2)
   have hsl : (shallowW n).length = n.f4.length * (maxD n.f4 + maxP n.f4) + 1 := by
    unfold shallowW
    rw [if_neg (by omega), if_pos e7, List.length_cons, shallowE_len]
   refine ⟨?_, fun off => ?_⟩
   ·unfold shallowW
    rw [if_neg (by omega), if_pos e7]
    intro x hx
    rcases List.mem_cons.1 hx with rfl | hx
    ·unfold encS
     omega
    ·exact shallowE_ok _ _ _ (fun x hx => (hk x hx).1) x hx
   ·unfold ptrW
    rw [if_neg (by omega), if_pos e7]
    unfold encL
    omega
 unfold putW
 intro x hx
 rcases List.mem_or_eq_of_mem_set hx with hx | rfl
 ·exact (ho.app main.1) x hx
 ·exact main.2 _
theorem plAll_ok {S B : Nat} (hP : ∀ x, tsize x < S → fitT x → ∀ (out : List Int) (a : Nat), OkW out → (placeW x out a).length ≤ B → OkW (placeW x out a)) : ∀ (l : List S37) (ps : List Int) (st : Nat) (out : List Int), (∀ x ∈ l, tsize x < S ∧ fitT x) → OkW out → (plAll l ps st out).length ≤ B → OkW (plAll l ps st out)
 | x :: l, q :: ps, st, out, h, ho, hl => by
  unfold plAll at hl ⊢
  have hge := plAll_ge l ps st (placeW x out (st + q.toNat))
  exact plAll_ok hP l ps st _ (fun y hy => h y (List.mem_cons_of_mem _ hy)) (hP x (h x List.mem_cons_self).1 (h x List.mem_cons_self).2 out _ ho (by omega)) hl
 | [], _, _, _, _, ho, _ => by unfold plAll; exact ho
 | _ :: _, [], _, _, _, ho, _ => by unfold plAll; exact ho
theorem place_ok : ∀ (S : Nat) (n : S37), tsize n < S → fitT n → ∀ (out : List Int) (a : Nat), OkW out → (placeW n out a).length ≤ 536870000 → OkW (placeW n out a)
 | 0, n, h, _, _, _, _, _ => by omega
 | S + 1, n, h, hf, out, a, ho, hl => by
  by_cases h0 : n.f0 = 0
  ·obtain ⟨k, e, m, b, l⟩ := n
   unfold placeW
   rw [if_pos h0]
   exact ho
  have hk := (AllT.here hf).kind h0
  rw [placeW_all n out a h0 hk] at hl ⊢
  have hge := plAll_ge (targetsL n) (atW n) out.length (putW n out a)
  have hpl := putW_len n out a
  exact plAll_ok (S := tsize n) (fun x hx hfx out a ho hl => place_ok S x (by omega) hfx out a ho hl) _ _ _ _ (fun x hx => ⟨targets_size hx, targets_fit hf x hx⟩) (put_ok hf h0 ho (by omega)) hl
theorem write_ok {n : S37} (hf : fitT n) (hl : (writeW n).length ≤ 536870000) : OkW (writeW n) :=
 place_ok (tsize n + 1) n (Nat.lt_succ_self _) hf [0] 0 (fun x hx => by simp at hx; subst hx; decide) hl
def Mo (v v' : Int → Int → Tr) : Prop := ∀ a m k, 0 ≤ k → (v a m).2.2 = 0 → v' a (m + k) = ((v a m).1, (v a m).2.1 + k, 0)
theorem kidsR_mo {v v' : Int → Int → Tr} (h : Mo v v') : ∀ (n : Nat) (a m k : Int), 0 ≤ k → (kidsR v n a m).2.2 = 0 → kidsR v' n a (m + k) = ((kidsR v n a m).1, (kidsR v n a m).2.1 + k, 0)
 | 0, a, m, k, _, _ => rfl
 | n + 1, a, m, k, hk, h0 => by
  by_cases he : (v a m).2.2 ≠ 0
  ·rw [kidsR, if_pos he] at h0
   exact (he h0).elim
  ·have e1 := h a m k hk (by omega)
   have e0 : kidsR v (n + 1) a m = ((v a m).1 :: (kidsR v n (a + 1) (v a m).2.1).1, (kidsR v n (a + 1) (v a m).2.1).2) := by rw [kidsR, if_neg he]
   rw [e0] at h0 ⊢
   have e2 := kidsR_mo h n (a + 1) (v a m).2.1 k hk h0
   rw [kidsR, e1]
   dsimp only
   rw [if_neg (by simp), e2]
theorem strR_mo {G : List (List Int)} {v v' : Int → Int → Int → Tr} (h : ∀ sg, Mo (v sg) (v' sg)) (o : Ob) (m k : Int) (hk : 0 ≤ k) (h0 : (strR G v o m).2.2 = 0) : strR G v' o (m + k) = ((strR G v o m).1, (strR G v o m).2.1 + k, 0) := by
 unfold strR at h0 ⊢
 by_cases he : (kidsR (v o.sg) o.p.toNat (o.ad + o.d) m).2.2 ≠ 0
 ·rw [if_pos he] at h0
  exact (he h0).elim
 ·rw [if_neg he, kidsR_mo (h o.sg) _ _ m k hk (by omega)]
  dsimp only
  rw [if_neg (by simp)]
theorem bodR_mo {G : List (List Int)} {v v' : Int → Int → Int → Tr} (h : ∀ sg, Mo (v sg) (v' sg)) (o : Ob) (m k : Int) (hk : 0 ≤ k) (h0 : (bodR G v o m).2.2 = 0) : bodR G v' o (m + k) = ((bodR G v o m).1, (bodR G v o m).2.1 + k, 0) := by
 unfold bodR at h0 ⊢
 by_cases h1 : o.kd = 1
 ·rw [if_pos h1] at h0 ⊢
  rw [if_pos h1]
  exact strR_mo h o m k hk h0
 rw [if_neg h1] at h0 ⊢
 rw [if_neg h1]
 by_cases h2 : o.e < 6
 ·rw [if_pos h2, if_pos h2]
 rw [if_neg h2] at h0 ⊢
 rw [if_neg h2]
 by_cases h3 : o.e = 6
 ·rw [if_pos h3] at h0 ⊢
  rw [if_pos h3]
  by_cases he : (kidsR (v o.sg) o.n.toNat o.ad m).2.2 ≠ 0
  ·rw [if_pos he] at h0
   exact (he h0).elim
  ·rw [if_neg he, kidsR_mo (h o.sg) _ _ m k hk (by omega)]
   dsimp only
   rw [if_neg (by simp)]
 rw [if_neg h3] at h0 ⊢
 rw [if_neg h3]
 rw [elsR_kids] at h0 ⊢
 rw [elsR_kids]
 have hmo : Mo (fun i m => strR G v (elG o i) m) (fun i m => strR G v' (elG o i) m) := fun i m k hk h0 => strR_mo h (elG o i) m k hk h0
 by_cases he : (kidsR (fun i m => strR G v (elG o i) m) o.n.toNat 0 m).2.2 ≠ 0
 ·rw [if_pos he] at h0
  exact (he h0).elim
 ·have he2 : (kidsR (fun i m => strR G v (elG o i) m) o.n.toNat 0 m).2.2 = 0 := by omega
  rw [if_neg he, kidsR_mo hmo _ _ m k hk he2]
  dsimp only
  rw [if_neg (by simp)]
theorem valR_mo (G : List (List Int)) : ∀ (f f' : Nat), f ≤ f' → ∀ sg, Mo (valR G f sg) (valR G f' sg)
 | 0, f', _, sg => fun a m k hk h0 => by
  rw [valR] at h0 ⊢
  by_cases h1 : (folM G sg a).2.2.2 ≠ 0
  ·rw [if_pos h1] at h0
   exact (h1 h0).elim
  rw [if_neg h1] at h0 ⊢
  by_cases h2 : (folM G sg a).1 = 0
  ·rw [if_pos h2]
   cases f' <;> rw [valR, if_neg h1, if_pos h2]
  ·rw [if_neg h2] at h0
   simp at h0
 | f + 1, 0, hf, _ => by omega
 | f + 1, f' + 1, hf, sg => fun a m k hk h0 => by
  rw [valR] at h0 ⊢
  rw [valR]
  by_cases h1 : (folM G sg a).2.2.2 ≠ 0
  ·rw [if_pos h1] at h0
   exact (h1 h0).elim
  rw [if_neg h1] at h0 ⊢
  rw [if_neg h1]
  by_cases h2 : (folM G sg a).1 = 0
  ·rw [if_pos h2, if_pos h2]
  rw [if_neg h2] at h0 ⊢
  rw [if_neg h2]
  by_cases h3 : (objG G sg a).2 ≠ 0
  ·rw [if_pos h3] at h0
   exact (h3 h0).elim
  rw [if_neg h3] at h0 ⊢
  rw [if_neg h3]
  by_cases h4 : m < (objG G sg a).1.c
  ·rw [if_pos h4] at h0
   simp at h0
  rw [if_neg h4] at h0 ⊢
  rw [if_neg (by omega), show m + k - (objG G sg a).1.c = m - (objG G sg a).1.c + k by omega]
  exact bodR_mo (fun sg => valR_mo G f f' (by omega) sg) _ _ k hk h0
theorem start_nat (Wd : Int) : startM Wd = ((Wd.toNat : Nat) : Int) := by unfold startM; split <;> omega
theorem msgR_one {s : List Int} {D Wd : Int} (h0 : 0 < s.length) : msgR [s] D Wd = if (valR [s] D.toNat 0 0 ((Wd.toNat : Nat) : Int)).2.2 ≠ 0 then (ndZ, (valR [s] D.toNat 0 0 ((Wd.toNat : Nat) : Int)).2.2) else (ttrim (valR [s] D.toNat 0 0 ((Wd.toNat : Nat) : Int)).1, 0) := by
  unfold msgR
  rw [if_neg (fun h => by
    have h2 := h.2
    rw [show sgG [s] 0 = s from rfl] at h2
    omega), start_nat]
theorem limits_plain {n : S37} (hc : canT n) (hl : (writeW n).length ≤ 536870000) (D Wd : Int) : wordsM (writeW n) D Wd = decide ((msgR [writeW n] D Wd).2 = 0) ∧ ((msgR [writeW n] D Wd).2 = 0 → (msgR [writeW n] D Wd).1 = n) := by
 obtain ⟨h0, hL⟩ := write_lay n
 have hok := write_ok (can_fit hc) hl
 have hiff := wordsM_iff (D := D) (Wd := Wd) hok hl h0
 have hback : (msgR [writeW n] D Wd).2 = 0 → (msgR [writeW n] D Wd).1 = n := by
  rw [msgR_one h0]
  by_cases he : (valR [writeW n] D.toNat 0 0 ((Wd.toNat : Nat) : Int)).2.2 ≠ 0
  ·rw [if_pos he]
   intro h
   exact (he h).elim
  ·rw [if_neg he]
   intro _
   have hm := valR_mo [writeW n] D.toNat (max D.toNat (depN n)) (Nat.le_max_left _ _) 0 0 ((Wd.toNat : Nat) : Int) ((max Wd.toNat (costN n) - Wd.toNat : Nat) : Int) (by omega) (by omega)
   obtain ⟨v, hv, ht⟩ := lay_val hl n (max D.toNat (depN n)) 0 1 _ (max Wd.toNat (costN n)) hc hL h0 (by omega) (Nat.le_max_right _ _) (Nat.le_max_right _ _)
   have e : ((Wd.toNat : Nat) : Int) + ((max Wd.toNat (costN n) - Wd.toNat : Nat) : Int) = ((max Wd.toNat (costN n) : Nat) : Int) := by omega
   rw [e] at hm
   rw [show (((0 : Nat) : Int)) = 0 from rfl] at hv
   rw [hv] at hm
   have h1 := congrArg Prod.fst hm
   dsimp only at h1 ⊢
   rw [← h1, ht]
 refine ⟨?_, hback⟩
 by_cases he : (msgR [writeW n] D Wd).2 = 0
 ·rw [decide_eq_true he]
  exact hiff.2 ⟨he, by rw [hback he]; exact hL⟩
 ·rw [decide_eq_false he]
  cases hq : wordsM (writeW n) D Wd with
  | false => rfl
  | true => exact (he (hiff.1 hq).1).elim
theorem own_lay {n : S37} (hc : canT n) (hl : (writeW n).length ≤ 536870000) {D Wd : Int} (hd : depN n ≤ D.toNat) (hw : costN n ≤ Wd.toNat) : (msgR [writeW n] D Wd).2 = 0 := by
 obtain ⟨h0, hL⟩ := write_lay n
 obtain ⟨v, hv, ht⟩ := lay_val hl n D.toNat 0 1 _ Wd.toNat hc hL h0 (by omega) hd hw
 rw [show (((0 : Nat) : Int)) = 0 from rfl] at hv
 rw [msgR_one h0, hv]
 dsimp only
 rw [if_neg (by simp)]
theorem msg_can {G : List (List Int)} {D Wd : Int} (h : (msgR G D Wd).2 = 0) : canT (msgR G D Wd).1 ∧ depN (msgR G D Wd).1 ≤ D.toNat ∧ costN (msgR G D Wd).1 ≤ Wd.toNat := by
 have hz : canT ndZ ∧ depN ndZ ≤ D.toNat ∧ costN ndZ ≤ Wd.toNat := ⟨.mk (.inl rfl) (by intro x hx; simp [ndZ] at hx), by unfold ndZ depN; simp, by unfold ndZ costN; simp⟩
 revert h
 unfold msgR
 split
 ·exact fun _ => hz
 split
 ·exact fun _ => hz
 ·rename_i h1 h2
  intro _
  have hv : (valR G D.toNat 0 0 (startM Wd)).2.2 = 0 := by omega
  obtain ⟨c1, c2⟩ := valR_cd G D.toNat 0 0 (startM Wd) hv
  have hn := valR_sinks G D.toNat 0 0 (startM Wd) (by rw [start_nat]; omega)
  rw [start_nat] at c1 hn ⊢
  rw [start_nat] at hv c2
  exact ⟨ttrim_can _ (valR_pre G _ _ _ _ hv), c2, by dsimp only; omega⟩
theorem own_ok {G : List (List Int)} {D Wd : Int} (hW : Wd ≤ 2000) (h : (msgR G D Wd).2 = 0) : wordsM (writeW (msgR G D Wd).1) D Wd = true := by
 obtain ⟨h1, h2, h3⟩ := msg_can h
 obtain ⟨f1, f2⟩ := msg_fit hW h
 have hl := write_len f1 f2
 rw [(limits_plain h1 hl D Wd).1, decide_eq_true (own_lay h1 hl h2 h3)]
theorem other_not {w x : List Int} {D Wd : Int} (hok : OkW x) (hl : x.length ≤ 536870000) (h0 : 0 < x.length) (hx : x ≠ w) (hw : writeW (msgR [x] D Wd).1 = w) : wordsM x D Wd = false := by
 cases hq : wordsM x D Wd with
 | false => rfl
 | true =>
  obtain ⟨h1, h2⟩ := (wordsM_iff (D := D) (Wd := Wd) hok hl h0).1 hq
  rw [lay_write h0, hw] at h2
  exact (hx h2).elim
end Go.Proofs.YtidglmocekghmaaDoor.Pr
end
section
namespace Go.Proofs.YtidglmocekghmaaDoor.Pr
open Go.RowKit Go.Proofs.YtidglmocekghmaaDoorW.PrintWords Go.Proofs.YtidglmocekghmaaDoorW.PrintLast Go.Proofs.YtidglmocekghmaaDoorW.PrintMore
set_option linter.unusedVariables false
set_option linter.unusedSimpArgs false
theorem smallG_all {G : List (List Int)} {D Wd : Int} (h : smallG G D Wd = true) : G.length ≤ 20 ∧ ∀ x ∈ G, x.length ≤ 300 := by
 unfold smallG fewG at h
 simp only [Bool.and_eq_true, decide_eq_true_eq] at h
 refine ⟨h.2.2, fun x hx => ?_⟩
 obtain ⟨i, hi, rfl⟩ := List.mem_iff_getElem.1 hx
 have := h.2.1 i hi
 unfold sgG at this
 rwa [Int.toNat_natCast, List.getD_eq_getElem?_getD, List.getElem?_eq_getElem hi] at this
set_option maxRecDepth 100000 in
set_option maxHeartbeats 8000000 in
theorem forms_law (A : Option Addr) (cp : Nat) (G : List (List Int)) (D Wd O at_ by_ : Int) (w : World) (hr : RdG w A G) (ok : OkG G) (ha : 0 ≤ at_ ∧ at_ ≤ 255) (hby : 0 ≤ by_ ∧ by_ < 18446744073709551616) (hlx : ∀ x ∈ G, x.length ≤ 9223372036854775807) (ht : Tabs w) :
    Calls Tryd.prog 5 #[.slice A G.length cp, limV D Wd O, .int .u8 at_, .int .u64 by_] w fun e w' => e = .returned (.bool true) ∧ Below w.heap.size w w' := by
  have S := Sep.start w
  have HA := fun w' (hb : Below w.heap.size w w') => Lib.hid (capnplaw16_awake.calls true w' rfl (ht.below hb))
  have HS := fun w' (hb : Below w.heap.size w w') => Lib.hid (small_any A cp G D Wd O w' (Kd.C_below hr hb) hr.2.1 hlx)
  cases hq : smallG G D Wd with
  | false =>
    rw [hq] at HS
    generalize G.length = lg at *
    clear hq hr hlx ok ht
    go_enter Tryd.func5, Tryd.ntmps5
    go_wp2_with (first | go_skip | ((with_reducible refine wl ?_); first | refine sn S (fun g w1 S => ?_) | refine ss S (fun w1 S => ?_) | refine sl S ?_ | refine sa S ?_) | ((with_reducible refine (HA _ S.below).out.mono ?_); rintro r' w' ⟨rfl, hb⟩; replace S := S.call hb) | ((with_reducible refine (HS _ S.below).out.mono ?_); rintro r' w' ⟨rfl, hb⟩; replace S := S.call hb))
    exact rt S ⟨rfl, S.below⟩
  | true =>
    rw [hq] at HS
    obtain ⟨hD, hW⟩ := smallG_lim hq
    obtain ⟨hg, hall⟩ := smallG_all hq
    have hE : EnvG w A G := ⟨hr, by omega, fun x hx => by have := hall x hx; omega, ok⟩
    have HW := fun w' (hb : Below w.heap.size w w') => Lib.hid (words15_any A cp G D Wd O w' (hE.below hb) hD hW)
    have HF := fun h => msg_fit (G := G) (D := D) hW h
    have HO := fun h => own_ok (G := G) (D := D) hW h
    clear hE hr hlx ok hq hall hg
    generalize G.length = lg at *
    generalize msgR G D Wd = q at *
    obtain ⟨n, e⟩ := q
    dsimp only at HF HO
    by_cases he : e = 0
    · replace HW := fun w' hb => Lib.hid ((HW w' hb).out.mono (fun r' w1 h => h.elim (fun h => (h.1 he).elim) (fun h => h.2)))
      obtain ⟨hf, hs⟩ := HF he
      have hlen := write_len hf hs
      have hok := write_ok hf hlen
      have hon := HO he
      have hpos := (write_lay n).1
      dsimp only at HW
      generalize writeW n = T at *
      have H1 := fun (A' : Option Addr) (c' : Nat) w' (hb : Below w.heap.size w w') (hC : (Kd.int .u64).C w' A' T.length T) (hc : T.length ≤ c') => Lib.hid (words_any A' c' T D Wd O w' ⟨hC, (ht.below hb).tab, (ht.below hb).dec, hok, by omega⟩ hc (by omega) (by omega))
      rw [hon] at H1
      have hoff := wordsM_append hon (t := [by_]) (by simp)
      have hok2 : ∀ x ∈ T ++ [by_], 0 ≤ x ∧ x < 18446744073709551616 := fun x hx => by
        rcases List.mem_append.1 hx with hx | hx
        · exact hok x hx
        · simp at hx; subst hx; exact hby
      obtain ⟨Tb, hTb⟩ : ∃ Tb, [] ++ T ++ [by_] = Tb := ⟨_, rfl⟩
      have hTb2 : T ++ [by_] = Tb := hTb
      rw [hTb2] at hok2 hoff
      have hTl : Tb.length = T.length + 1 := by rw [← hTb2]; simp
      have H2 := fun (A' : Option Addr) (n' c' : Nat) w' (hb : Below w.heap.size w w') (hn : n' = Tb.length) (hC : (Kd.int .u64).C w' A' Tb.length Tb) (hc : Tb.length ≤ c') => Lib.hid (show Calls Tryd.prog 10 #[.slice A' n' c', limV D Wd O] w' (fun e w1 => e = .returned (.bool false) ∧ Below w'.heap.size w' w1) from by
        have := words_any A' c' Tb D Wd O w' ⟨hC, (ht.below hb).tab, (ht.below hb).dec, hok2, by omega⟩ hc (by omega) (by omega)
        rw [hoff] at this
        rw [hn]
        exact this)
      have HTB := Lib.hid hTb
      clear hTb hTb2 hTl
      obtain ⟨lt, hlt⟩ : ∃ m, T.length = m := ⟨_, rfl⟩
      have HLT := Lib.hid hlt
      have HL : Hid (lt ≤ 536870000) := Lib.hid (by omega)
      obtain ⟨k, hk⟩ : ∃ k : Nat, at_ % (lt : Int) = k := ⟨(at_ % (lt : Int)).toNat, by have := Int.emod_nonneg at_ (b := (lt : Int)) (by omega); omega⟩
      have hkl : k < lt := by have := Int.emod_lt_of_pos at_ (b := (lt : Int)) (by omega); omega
      have hHK := Lib.hid hk
      obtain ⟨y, hy⟩ : ∃ y, (T.getD k 0 + by_) % 18446744073709551616 = y := ⟨_, rfl⟩
      have hwk : 0 ≤ T.getD k 0 ∧ T.getD k 0 < 18446744073709551616 := by
        rw [List.getD_eq_getElem?_getD, List.getElem?_eq_getElem (by omega)]
        exact hok _ (List.getElem_mem _)
      have hy0 : 0 ≤ y ∧ y < 18446744073709551616 := by omega
      have hxok : OkW (T.set k y) := fun z hz => by
        rcases List.mem_or_eq_of_mem_set hz with hz | rfl
        · exact hok z hz
        · exact hy0
      have hxl : (T.set k y).length = lt := by rw [List.length_set, hlt]
      have hne : by_ ≠ 0 → T.set k y ≠ T := fun h0 he => by
        have h1 : (T.set k y).getD k 0 = T.getD k 0 := by rw [he]
        rw [List.getD_eq_getElem?_getD, List.getElem?_set_self (by omega)] at h1
        simp only [Option.getD_some] at h1
        omega
      have HY : Hid (IntKind.u64.wrap (T[k]?.getD 0 + by_) = y) := Lib.hid (by rw [show IntKind.u64.wrap (T[k]?.getD 0 + by_) = (T[k]?.getD 0 + by_) % 18446744073709551616 by simp [IntKind.wrap, IntKind.bits, IntKind.signed], ← List.getD_eq_getElem?_getD]; exact hy)
      have HNOT := Lib.hid (fun h0 h => other_not (D := D) (Wd := Wd) (w := T) hxok (by omega) (by omega) (hne h0) h)
      have HW2 := fun (A' : Option Addr) (c' : Nat) g w' (hC : (Kd.int .u64).C w' A' lt (T.set k y)) (hc : lt ≤ c') (hg : w'.heap[g]? = some (.cells #[.slice A' lt c'] 22 (0, 0))) => Lib.hid (show Calls Tryd.prog 12 #[.slice (some ⟨g, 0, none⟩) 1 1, limV D Wd O] w' (W15V w' (msgR [T.set k y] D Wd)) from words15_any (some ⟨g, 0, none⟩) 1 [T.set k y] D Wd O w' (env_one (w := w) (cp := c') (by rw [hxl]; exact hC) (by omega) (by omega) hxok (by rw [hxl]; exact hg)) hD hW)
      have H3 := fun (A' : Option Addr) (c' : Nat) w' (hb : Below w.heap.size w w') (hC : (Kd.int .u64).C w' A' lt (T.set k y)) (hc : lt ≤ c') => Lib.hid (show Calls Tryd.prog 10 #[.slice A' lt c', limV D Wd O] w' (fun e w1 => e = .returned (.bool (wordsM (T.set k y) D Wd)) ∧ Below w'.heap.size w' w1) from by
        have := words_any A' c' (T.set k y) D Wd O w' ⟨by rw [hxl]; exact hC, (ht.below hb).tab, (ht.below hb).dec, hxok, by omega⟩ (by omega) (by omega) (by omega)
        rwa [hxl] at this)
      rw [hlt] at HW H1
      generalize hxx : T.set k y = x at *
      have HXX := Lib.hid hxx
      clear hwk hy0 hxok hxl hne hy hok hok2 hon hoff hxx hf hs HF HO he hpos hlen hk ht hlt
      go_enter Tryd.func5, Tryd.ntmps5
      go_wp2_with (first | go_skip | ((with_reducible refine wl ?_); first | refine sn S (fun g w1 S => ?_) | refine ss S (fun w1 S => ?_) | refine sl S ?_ | refine sa S ?_) | ((with_reducible refine (HA _ S.below).out.mono ?_); rintro r' w' ⟨rfl, hb⟩; replace S := S.call hb) | ((with_reducible refine (HS _ S.below).out.mono ?_); rintro r' w' ⟨rfl, hb⟩; replace S := S.call hb) | ((with_reducible refine (HW _ S.below).out.mono ?_); rintro r' w' ⟨A1, c1, rfl, ⟨hC, hcC⟩, hb⟩; replace S := S.call hb; have HB1 := Lib.hid S.below; have HGL := Lib.hid (blk_cells (cs := [.int .i64 D, .int .i64 Wd, .int .i64 O]) (S.blk .here)); have HC1 := Lib.hid hC; replace S := Sep.start w'; have HCP := Lib.hid hcC; clear hC hb hcC))
      refine jn (fun (s : Value × Value × Value × Value) w1 => Below w'.heap.size w' w1) (fun s => [(32, .slice A1 lt c1), (33, .agg #[.int .i64 D, .int .i64 Wd, .int .i64 O]), (34, .bool true), (35, .bool false), (36, .bool false), (37, s.1), (38, .slice A1 lt c1), (39, s.2.1), (40, .int .u64 by_), (41, s.2.2.1), (42, s.2.2.2), (43, .agg #[.int .i64 D, .int .i64 Wd, .int .i64 O]), (44, .bool false), (45, .bool false)]) (fun s w1 S => ?_) (fun hJ => ?_)
      · obtain ⟨v5, v7, v9, v10⟩ := s
        replace S := (Sep.start w').call S
        simp only [putAll, Act.put, List.setIfInBounds_toArray, List.set_cons_zero, List.set_cons_succ]
        have HXL : Hid (x.length = lt) := Lib.hid (by rw [← HXX.out, List.length_set]; exact HLT.out)
        generalize msgR [x] D Wd = q2 at *
        generalize wordsM x D Wd = b3 at *
        obtain ⟨n2, e2⟩ := q2
        have hlt0 : ((lt : Int) = 0) = False := by simp; omega
        have hkk := hHK.out
        clear H1 H2 HW
        by_cases h0 : by_ = 0
        · have t0 : (by_ == 0) = true := beq_iff_eq.2 h0
          have HV2 := fun (A' : Option Addr) (c' : Nat) g w' hC hc hg => Lib.hid ((HW2 A' c' g w' hC hc hg).out.mono (fun r' w1 h => show ∃ v e3, r' = .returned (.tuple #[v, .int .i64 e3]) ∧ Below w'.heap.size w' w1 from h.elim (fun h => ⟨_, _, h.2.1, h.2.2⟩) (fun h => by obtain ⟨_, A', c', h1, _, h2⟩ := h; exact ⟨_, _, h1, h2⟩)))
          clear h0 HNOT
          go_wp2_with (first | go_skip | ((with_reducible refine wl ?_); refine sp_get (i := k) (0 : Int) rfl rfl S ?hpp hkl (by kernel_rfl) ?_; (case hpp => first | (go_simp; done) | (go_simp; rfl))) | ((with_reducible refine wl ?_); refine sp_put (i := k) (y := y) rfl rfl rfl S ?hpp ?hxx hkl (by kernel_rfl) rfl (fun w1 S => ?_); (case hpp => first | (go_simp; done) | (go_simp; rfl)); (case hxx => go_simp; exact HY.out); rw [HXX.out] at S) | ((with_reducible refine wl ?_); first | refine sxa S HGL.out ?_ | refine sxa (S.new _ _) HGL.out ?_) | ((with_reducible refine gate_dst (N := 46) rfl ?_); refine sp_lit (Kd.int .u64) 32 (N := 46) rfl rfl S [] [] ?hr (Reps.none _ _) (by simp) (fun g w1 S => ?_); (case hr => first | (go_simp; done) | (go_simp; rfl))) | ((with_reducible refine gate_builtin (b := .append) (xs := #[.tmp 46, .tmp 47]) rfl ?_); at_builtin; refine sp_rows S rfl rfl Tryd.underlying22 info32 rfl (by decide) (by omega) rfl rfl (Kd.C_below HC1.out S.below) (fun _ _ h => h) (by have := HL.out; simp; omega) (fun v1 w1 S => ?_); obtain ⟨gx, nx, cx, rfl, hnx⟩ := R_adrN (S.outR .here) (by have := HLT.out; simp; omega); have hcx := Lib.hid (Kd.R_reads' (S.outR .here)).2.1; have HNX : Hid (nx = lt) := Lib.hid (by rw [hnx.out]; simpa using HLT.out); clear hnx; replace S : Sep _ _ [.row (Kd.int .u64) 32 (.slice (some ⟨gx, 0, none⟩) nx cx) T] := S; have enx := HNX.out.symm; clear HNX; subst enx) | ((with_reducible refine (HV2 (some ⟨gx, 0, none⟩) cx _ _ (HXL.out ▸ R_C ((S.new _ _).outR (.there .here))) hcx.out ((S.new _ _).blk .here)).out.mono ?_); rintro r' w' ⟨v2, e3, rfl, hb⟩; replace S := ((S.new _ _).call hb).tail))
          exact rt S ⟨rfl, below_step HB1.out S.below⟩
        · have t0 : (by_ == 0) = false := beq_eq_false_iff_ne.2 h0
          by_cases h2 : e2 = 0
          · subst h2
            have HT2 := fun (A' : Option Addr) (c' : Nat) w' (hC : (Kd.int .u64).C w' A' (writeW n2).length (writeW n2)) (hC1 : (Kd.int .u64).C w' A1 T.length T) => Lib.hid (same_words A' A1 c' c1 (writeW n2) T w' hC hC1)
            have HV2 := fun (A' : Option Addr) (c' : Nat) g w' hC hc hg => Lib.hid ((HW2 A' c' g w' hC hc hg).out.mono (fun r' w1 h => show ∃ A2 c2, r' = .returned (.tuple #[.slice A2 (writeW n2).length c2, .int .i64 0]) ∧ ((Kd.int .u64).C w1 A2 (writeW n2).length (writeW n2) ∧ (writeW n2).length ≤ c2) ∧ Below w'.heap.size w' w1 from h.elim (fun h => (h.1 rfl).elim) (fun h => h.2)))
            have HNOT := Lib.hid (fun h => HNOT.out h0 h)
            rw [HLT.out] at HT2
            clear h0 HW2
            by_cases hs : writeW n2 = T
            · rw [decide_eq_true hs] at HT2
              have hb3 : b3 = false := HNOT.out hs
              subst hb3
              generalize writeW n2 = T2 at *
              clear hs HNOT
              go_wp2_with (first | go_skip | ((with_reducible refine wl ?_); refine sp_get (i := k) (0 : Int) rfl rfl S ?hpp hkl (by kernel_rfl) ?_; (case hpp => first | (go_simp; done) | (go_simp; rfl))) | ((with_reducible refine wl ?_); refine sp_put (i := k) (y := y) rfl rfl rfl S ?hpp ?hxx hkl (by kernel_rfl) rfl (fun w1 S => ?_); (case hpp => first | (go_simp; done) | (go_simp; rfl)); (case hxx => go_simp; exact HY.out); rw [HXX.out] at S) | ((with_reducible refine wl ?_); first | refine sxa S HGL.out ?_ | refine sxa (S.new _ _) HGL.out ?_) | ((with_reducible refine gate_dst (N := 46) rfl ?_); refine sp_lit (Kd.int .u64) 32 (N := 46) rfl rfl S [] [] ?hr (Reps.none _ _) (by simp) (fun g w1 S => ?_); (case hr => first | (go_simp; done) | (go_simp; rfl))) | ((with_reducible refine gate_builtin (b := .append) (xs := #[.tmp 46, .tmp 47]) rfl ?_); at_builtin; refine sp_rows S rfl rfl Tryd.underlying22 info32 rfl (by decide) (by omega) rfl rfl (Kd.C_below HC1.out S.below) (fun _ _ h => h) (by have := HL.out; simp; omega) (fun v1 w1 S => ?_); obtain ⟨gx, nx, cx, rfl, hnx⟩ := R_adrN (S.outR .here) (by have := HLT.out; simp; omega); have hcx := Lib.hid (Kd.R_reads' (S.outR .here)).2.1; have HNX : Hid (nx = lt) := Lib.hid (by rw [hnx.out]; simpa using HLT.out); clear hnx; replace S : Sep _ _ [.row (Kd.int .u64) 32 (.slice (some ⟨gx, 0, none⟩) nx cx) T] := S; have enx := HNX.out.symm; clear HNX; subst enx)  | ((with_reducible refine (HV2 (some ⟨gx, 0, none⟩) cx _ _ (HXL.out ▸ R_C ((S.new _ _).outR (.there .here))) hcx.out ((S.new _ _).blk .here)).out.mono ?_); rintro r' w' ⟨A2, c2, rfl, ⟨hC2, -⟩, hb⟩; replace S := ((S.new _ _).call hb).tail)  | ((with_reducible refine (HT2 _ _ _ hC2 (Kd.C_below HC1.out S.below)).out.mono ?_); rintro r' w' ⟨rfl, hb⟩; replace S := S.call hb)  | ((with_reducible refine (H3 (some ⟨gx, 0, none⟩) cx _ (below_step HB1.out S.below) (HXL.out ▸ R_C (S.outR .here)) hcx.out).out.mono ?_); rintro r' w' ⟨rfl, hb⟩; replace S := S.call hb))
              exact rt S ⟨rfl, below_step HB1.out S.below⟩
            · rw [decide_eq_false hs] at HT2
              generalize writeW n2 = T2 at *
              clear hs HNOT H3
              go_wp2_with (first | go_skip | ((with_reducible refine wl ?_); refine sp_get (i := k) (0 : Int) rfl rfl S ?hpp hkl (by kernel_rfl) ?_; (case hpp => first | (go_simp; done) | (go_simp; rfl))) | ((with_reducible refine wl ?_); refine sp_put (i := k) (y := y) rfl rfl rfl S ?hpp ?hxx hkl (by kernel_rfl) rfl (fun w1 S => ?_); (case hpp => first | (go_simp; done) | (go_simp; rfl)); (case hxx => go_simp; exact HY.out); rw [HXX.out] at S) | ((with_reducible refine wl ?_); first | refine sxa S HGL.out ?_ | refine sxa (S.new _ _) HGL.out ?_) | ((with_reducible refine gate_dst (N := 46) rfl ?_); refine sp_lit (Kd.int .u64) 32 (N := 46) rfl rfl S [] [] ?hr (Reps.none _ _) (by simp) (fun g w1 S => ?_); (case hr => first | (go_simp; done) | (go_simp; rfl))) | ((with_reducible refine gate_builtin (b := .append) (xs := #[.tmp 46, .tmp 47]) rfl ?_); at_builtin; refine sp_rows S rfl rfl Tryd.underlying22 info32 rfl (by decide) (by omega) rfl rfl (Kd.C_below HC1.out S.below) (fun _ _ h => h) (by have := HL.out; simp; omega) (fun v1 w1 S => ?_); obtain ⟨gx, nx, cx, rfl, hnx⟩ := R_adrN (S.outR .here) (by have := HLT.out; simp; omega); have hcx := Lib.hid (Kd.R_reads' (S.outR .here)).2.1; have HNX : Hid (nx = lt) := Lib.hid (by rw [hnx.out]; simpa using HLT.out); clear hnx; replace S : Sep _ _ [.row (Kd.int .u64) 32 (.slice (some ⟨gx, 0, none⟩) nx cx) T] := S; have enx := HNX.out.symm; clear HNX; subst enx)  | ((with_reducible refine (HV2 (some ⟨gx, 0, none⟩) cx _ _ (HXL.out ▸ R_C ((S.new _ _).outR (.there .here))) hcx.out ((S.new _ _).blk .here)).out.mono ?_); rintro r' w' ⟨A2, c2, rfl, ⟨hC2, -⟩, hb⟩; replace S := ((S.new _ _).call hb).tail)  | ((with_reducible refine (HT2 _ _ _ hC2 (Kd.C_below HC1.out S.below)).out.mono ?_); rintro r' w' ⟨rfl, hb⟩; replace S := S.call hb))
              exact rt S ⟨rfl, below_step HB1.out S.below⟩
          · have t2 : (e2 != 0) = true := bne_iff_ne.2 h2
            have HV2 := fun (A' : Option Addr) (c' : Nat) g w' hC hc hg => Lib.hid ((HW2 A' c' g w' hC hc hg).out.mono (fun r' w1 h => show r' = .returned (.tuple #[.slice none 0 0, .int .i64 e2]) ∧ Below w'.heap.size w' w1 from h.elim (fun h => h.2) (fun h => (h2 h.1).elim)))
            clear h0 h2 HW2 HNOT H3
            go_wp2_with (first | go_skip | ((with_reducible refine wl ?_); refine sp_get (i := k) (0 : Int) rfl rfl S ?hpp hkl (by kernel_rfl) ?_; (case hpp => first | (go_simp; done) | (go_simp; rfl))) | ((with_reducible refine wl ?_); refine sp_put (i := k) (y := y) rfl rfl rfl S ?hpp ?hxx hkl (by kernel_rfl) rfl (fun w1 S => ?_); (case hpp => first | (go_simp; done) | (go_simp; rfl)); (case hxx => go_simp; exact HY.out); rw [HXX.out] at S) | ((with_reducible refine wl ?_); first | refine sxa S HGL.out ?_ | refine sxa (S.new _ _) HGL.out ?_) | ((with_reducible refine gate_dst (N := 46) rfl ?_); refine sp_lit (Kd.int .u64) 32 (N := 46) rfl rfl S [] [] ?hr (Reps.none _ _) (by simp) (fun g w1 S => ?_); (case hr => first | (go_simp; done) | (go_simp; rfl))) | ((with_reducible refine gate_builtin (b := .append) (xs := #[.tmp 46, .tmp 47]) rfl ?_); at_builtin; refine sp_rows S rfl rfl Tryd.underlying22 info32 rfl (by decide) (by omega) rfl rfl (Kd.C_below HC1.out S.below) (fun _ _ h => h) (by have := HL.out; simp; omega) (fun v1 w1 S => ?_); obtain ⟨gx, nx, cx, rfl, hnx⟩ := R_adrN (S.outR .here) (by have := HLT.out; simp; omega); have hcx := Lib.hid (Kd.R_reads' (S.outR .here)).2.1; have HNX : Hid (nx = lt) := Lib.hid (by rw [hnx.out]; simpa using HLT.out); clear hnx; replace S : Sep _ _ [.row (Kd.int .u64) 32 (.slice (some ⟨gx, 0, none⟩) nx cx) T] := S; have enx := HNX.out.symm; clear HNX; subst enx)  | ((with_reducible refine (HV2 (some ⟨gx, 0, none⟩) cx _ _ (HXL.out ▸ R_C ((S.new _ _).outR (.there .here))) hcx.out ((S.new _ _).blk .here)).out.mono ?_); rintro r' w' ⟨rfl, hb⟩; replace S := ((S.new _ _).call hb).tail))
            exact rt S ⟨rfl, below_step HB1.out S.below⟩
      · refine bs0 S (fun S => ?_)
        refine pu 0 32 ?_
        refine bwg 1 HGL.out S.below ?_
        refine bwc 2 34 Tryd.func10 (H1 _ _ _ (below_step HB1.out S.below) (Kd.C_below HC1.out S.below) HCP.out).out (fun r' w2 hT => ?_)
        obtain ⟨rfl, hb⟩ := hT
        replace S := S.call hb
        refine ⟨_, rfl, S.below, _, rfl, ?_⟩
        simp only [Act.put, List.setIfInBounds_toArray, List.set_cons_zero, List.set_cons_succ]
        refine pu 3 35 ?_
        refine pu 4 36 ?_
        refine pu 6 38 ?_
        refine pu 8 40 ?_
        refine bwg 11 HGL.out S.below ?_
        refine rdo [5, 9] (by simp) (List.forall_mem_cons.2 ⟨?_, List.forall_mem_cons.2 ⟨?_, List.forall_mem_nil _⟩⟩)
        · refine rlg (Kd.int .u64) 32 37 S [] [] (Reps.none _ _) (by simp) (fun g5 w2 S => ⟨S.below, ?_⟩)
          obtain ⟨v5, h5⟩ : ∃ v, v = Value.slice (some ⟨g5, 0, none⟩) ([] : List Int).length ([] : List Int).length := ⟨_, rfl⟩
          rw [← h5] at S ⊢
          refine rdo [7, 9] (by simp) (List.forall_mem_cons.2 ⟨?_, List.forall_mem_cons.2 ⟨?_, List.forall_mem_nil _⟩⟩)
          · refine rag 39 8 S (Kd.C_below HC1.out S.below) (fun _ _ h => h) (by decide) (by omega) (by have := HL.out; simp; omega) (fun v7 w2 S => ⟨S.below, ?_⟩) (by apply raAt; (case h1 => simp only [List.getElem?_toArray, List.getElem?_cons_zero, List.getElem?_cons_succ]; rfl); (case h2 => rfl); (case h3 => simp only [List.setIfInBounds_toArray, List.set_cons_zero, List.set_cons_succ]; rfl); (case h4 => rfl); (case h5 => rfl); (case h6 => exact Tryd.underlying22); (case h7 => exact info32); (case h8 => rfl); (case h9 => rfl); (case h10 => rfl); (case h11 => intro v1; simp only [Act.put, List.setIfInBounds_toArray, List.set_cons_zero, List.set_cons_succ]; rfl))
            refine rdo [9] (by simp) (List.forall_mem_cons.2 ⟨?_, List.forall_mem_nil _⟩)
            · refine rlg (Kd.int .u64) 32 41 S [by_] [.int .u64 by_] (Reps.snoc (Reps.none _ _) rfl rfl) (by simp) (fun g9 w2 S => ⟨S.below, ?_⟩)
              obtain ⟨v9, h9⟩ : ∃ v, v = Value.slice (some ⟨g9, 0, none⟩) [by_].length [by_].length := ⟨_, rfl⟩
              have h9S := Lib.hid h9
              rw [← h9] at S ⊢
              clear h9
              refine rdo [10] (by simp) (List.forall_mem_cons.2 ⟨?_, List.forall_mem_nil _⟩)
              · have S := S.pick 1 rfl rfl
                have hC9 := R_C (h9S.out ▸ S.outR (.there .here))
                rw [h9S.out]
                refine rag 42 8 S hC9 (fun _ _ h => h) (by decide) (by omega) (by have := HL.out; have := HLT.out; simp; omega) (fun v10 w2 S => ⟨S.below, ?_⟩) (by apply raAt; (case h1 => simp only [List.getElem?_toArray, List.getElem?_cons_zero, List.getElem?_cons_succ]; rfl); (case h2 => rfl); (case h3 => simp only [List.setIfInBounds_toArray, List.set_cons_zero, List.set_cons_succ]; rfl); (case h4 => rfl); (case h5 => rfl); (case h6 => exact Tryd.underlying22); (case h7 => exact info32); (case h8 => rfl); (case h9 => rfl); (case h10 => rfl); (case h11 => intro v1; simp only [Act.put, List.setIfInBounds_toArray, List.set_cons_zero, List.set_cons_succ]; rfl))
                obtain ⟨A9, n9, c9, rfl, hn9⟩ := R_sl (S.outR .here)
                refine rdo [12] (by simp) (List.forall_mem_cons.2 ⟨?_, List.forall_mem_nil _⟩)
                rw [HTB.out] at S hn9
                have hC10 := R_C (S.outR .here)
                have hcp10 := (Kd.R_reads' (S.outR .here)).2.1
                rw [hn9.out] at hcp10
                refine rcg 44 Tryd.func10 (H2 A9 n9 c9 _ (below_step HB1.out S.below) hn9.out hC10 hcp10).out (fun r' w2 hT => ?_)
                obtain ⟨rfl, hb⟩ := hT
                replace S := S.call hb
                refine ⟨_, rfl, S.below, _, rfl, ?_⟩
                simp only [Act.put, List.setIfInBounds_toArray, List.set_cons_zero, List.set_cons_succ]
                refine pu 13 45 ?_
                refine dn ?_
                have hj := hJ (v5, v7, .slice (some ⟨g9, 0, none⟩) [by_].length [by_].length, .slice A9 n9 c9) _ S.below
                simp only [putAll, Act.put, List.setIfInBounds_toArray, List.set_cons_zero, List.set_cons_succ] at hj
                exact hj
          · refine rlg (Kd.int .u64) 32 41 S [by_] [.int .u64 by_] (Reps.snoc (Reps.none _ _) rfl rfl) (by simp) (fun g9 w2 S => ⟨S.below, ?_⟩)
            obtain ⟨v9, h9⟩ : ∃ v, v = Value.slice (some ⟨g9, 0, none⟩) [by_].length [by_].length := ⟨_, rfl⟩
            have h9S := Lib.hid h9
            rw [← h9] at S ⊢
            clear h9
            refine rdo [7] (by simp) (List.forall_mem_cons.2 ⟨?_, List.forall_mem_nil _⟩)
            · have S := S.pick 1 rfl rfl
              refine rag 39 8 S (Kd.C_below HC1.out S.below) (fun _ _ h => h) (by decide) (by omega) (by have := HL.out; simp; omega) (fun v7 w2 S => ⟨S.below, ?_⟩) (by apply raAt; (case h1 => simp only [List.getElem?_toArray, List.getElem?_cons_zero, List.getElem?_cons_succ]; rfl); (case h2 => rfl); (case h3 => simp only [List.setIfInBounds_toArray, List.set_cons_zero, List.set_cons_succ]; rfl); (case h4 => rfl); (case h5 => rfl); (case h6 => exact Tryd.underlying22); (case h7 => exact info32); (case h8 => rfl); (case h9 => rfl); (case h10 => rfl); (case h11 => intro v1; simp only [Act.put, List.setIfInBounds_toArray, List.set_cons_zero, List.set_cons_succ]; rfl))
              refine rdo [10] (by simp) (List.forall_mem_cons.2 ⟨?_, List.forall_mem_nil _⟩)
              · have hC9 := R_C (h9S.out ▸ S.outR (.there .here))
                rw [h9S.out]
                refine rag 42 8 S hC9 (fun _ _ h => h) (by decide) (by omega) (by have := HL.out; have := HLT.out; simp; omega) (fun v10 w2 S => ⟨S.below, ?_⟩) (by apply raAt; (case h1 => simp only [List.getElem?_toArray, List.getElem?_cons_zero, List.getElem?_cons_succ]; rfl); (case h2 => rfl); (case h3 => simp only [List.setIfInBounds_toArray, List.set_cons_zero, List.set_cons_succ]; rfl); (case h4 => rfl); (case h5 => rfl); (case h6 => exact Tryd.underlying22); (case h7 => exact info32); (case h8 => rfl); (case h9 => rfl); (case h10 => rfl); (case h11 => intro v1; simp only [Act.put, List.setIfInBounds_toArray, List.set_cons_zero, List.set_cons_succ]; rfl))
                obtain ⟨A9, n9, c9, rfl, hn9⟩ := R_sl (S.outR .here)
                refine rdo [12] (by simp) (List.forall_mem_cons.2 ⟨?_, List.forall_mem_nil _⟩)
                rw [HTB.out] at S hn9
                have hC10 := R_C (S.outR .here)
                have hcp10 := (Kd.R_reads' (S.outR .here)).2.1
                rw [hn9.out] at hcp10
                refine rcg 44 Tryd.func10 (H2 A9 n9 c9 _ (below_step HB1.out S.below) hn9.out hC10 hcp10).out (fun r' w2 hT => ?_)
                obtain ⟨rfl, hb⟩ := hT
                replace S := S.call hb
                refine ⟨_, rfl, S.below, _, rfl, ?_⟩
                simp only [Act.put, List.setIfInBounds_toArray, List.set_cons_zero, List.set_cons_succ]
                refine pu 13 45 ?_
                refine dn ?_
                have hj := hJ (v5, v7, .slice (some ⟨g9, 0, none⟩) [by_].length [by_].length, .slice A9 n9 c9) _ S.below
                simp only [putAll, Act.put, List.setIfInBounds_toArray, List.set_cons_zero, List.set_cons_succ] at hj
                exact hj
        · refine rlg (Kd.int .u64) 32 41 S [by_] [.int .u64 by_] (Reps.snoc (Reps.none _ _) rfl rfl) (by simp) (fun g9 w2 S => ⟨S.below, ?_⟩)
          obtain ⟨v9, h9⟩ : ∃ v, v = Value.slice (some ⟨g9, 0, none⟩) [by_].length [by_].length := ⟨_, rfl⟩
          have h9S := Lib.hid h9
          rw [← h9] at S ⊢
          clear h9
          refine rdo [5] (by simp) (List.forall_mem_cons.2 ⟨?_, List.forall_mem_nil _⟩)
          · refine rlg (Kd.int .u64) 32 37 S [] [] (Reps.none _ _) (by simp) (fun g5 w2 S => ⟨S.below, ?_⟩)
            obtain ⟨v5, h5⟩ : ∃ v, v = Value.slice (some ⟨g5, 0, none⟩) ([] : List Int).length ([] : List Int).length := ⟨_, rfl⟩
            rw [← h5] at S ⊢
            refine rdo [7] (by simp) (List.forall_mem_cons.2 ⟨?_, List.forall_mem_nil _⟩)
            · refine rag 39 8 S (Kd.C_below HC1.out S.below) (fun _ _ h => h) (by decide) (by omega) (by have := HL.out; simp; omega) (fun v7 w2 S => ⟨S.below, ?_⟩) (by apply raAt; (case h1 => simp only [List.getElem?_toArray, List.getElem?_cons_zero, List.getElem?_cons_succ]; rfl); (case h2 => rfl); (case h3 => simp only [List.setIfInBounds_toArray, List.set_cons_zero, List.set_cons_succ]; rfl); (case h4 => rfl); (case h5 => rfl); (case h6 => exact Tryd.underlying22); (case h7 => exact info32); (case h8 => rfl); (case h9 => rfl); (case h10 => rfl); (case h11 => intro v1; simp only [Act.put, List.setIfInBounds_toArray, List.set_cons_zero, List.set_cons_succ]; rfl))
              refine rdo [10] (by simp) (List.forall_mem_cons.2 ⟨?_, List.forall_mem_nil _⟩)
              · have hC9 := R_C (h9S.out ▸ S.outR (.there .here))
                rw [h9S.out]
                refine rag 42 8 S hC9 (fun _ _ h => h) (by decide) (by omega) (by have := HL.out; have := HLT.out; simp; omega) (fun v10 w2 S => ⟨S.below, ?_⟩) (by apply raAt; (case h1 => simp only [List.getElem?_toArray, List.getElem?_cons_zero, List.getElem?_cons_succ]; rfl); (case h2 => rfl); (case h3 => simp only [List.setIfInBounds_toArray, List.set_cons_zero, List.set_cons_succ]; rfl); (case h4 => rfl); (case h5 => rfl); (case h6 => exact Tryd.underlying22); (case h7 => exact info32); (case h8 => rfl); (case h9 => rfl); (case h10 => rfl); (case h11 => intro v1; simp only [Act.put, List.setIfInBounds_toArray, List.set_cons_zero, List.set_cons_succ]; rfl))
                obtain ⟨A9, n9, c9, rfl, hn9⟩ := R_sl (S.outR .here)
                refine rdo [12] (by simp) (List.forall_mem_cons.2 ⟨?_, List.forall_mem_nil _⟩)
                rw [HTB.out] at S hn9
                have hC10 := R_C (S.outR .here)
                have hcp10 := (Kd.R_reads' (S.outR .here)).2.1
                rw [hn9.out] at hcp10
                refine rcg 44 Tryd.func10 (H2 A9 n9 c9 _ (below_step HB1.out S.below) hn9.out hC10 hcp10).out (fun r' w2 hT => ?_)
                obtain ⟨rfl, hb⟩ := hT
                replace S := S.call hb
                refine ⟨_, rfl, S.below, _, rfl, ?_⟩
                simp only [Act.put, List.setIfInBounds_toArray, List.set_cons_zero, List.set_cons_succ]
                refine pu 13 45 ?_
                refine dn ?_
                have hj := hJ (v5, v7, .slice (some ⟨g9, 0, none⟩) [by_].length [by_].length, .slice A9 n9 c9) _ S.below
                simp only [putAll, Act.put, List.setIfInBounds_toArray, List.set_cons_zero, List.set_cons_succ] at hj
                exact hj
    · replace HW := fun w' hb => Lib.hid ((HW w' hb).out.mono (fun r' w1 h => h.elim (fun h => h.2) (fun h => (he h.1).elim)))
      have te : (e != 0) = true := bne_iff_ne.2 he
      dsimp only at HW
      clear HF HO he ht ha hby
      go_enter Tryd.func5, Tryd.ntmps5
      go_wp2_with (first | go_skip | ((with_reducible refine wl ?_); first | refine sn S (fun g w1 S => ?_) | refine ss S (fun w1 S => ?_) | refine sl S ?_ | refine sa S ?_) | ((with_reducible refine (HA _ S.below).out.mono ?_); rintro r' w' ⟨rfl, hb⟩; replace S := S.call hb) | ((with_reducible refine (HS _ S.below).out.mono ?_); rintro r' w' ⟨rfl, hb⟩; replace S := S.call hb) | ((with_reducible refine (HW _ S.below).out.mono ?_); rintro r' w' ⟨rfl, hb⟩; replace S := S.call hb))
      exact rt S ⟨rfl, S.below⟩
end Go.Proofs.YtidglmocekghmaaDoor.Pr
end
section
namespace Go.Proofs.YtidglmocekghmaaDoor.canoncheckAcceptsCanonicalForms
open Go.ChangeShapes Go.WideShapes Go.ChangeAt Go.RowKit Go.Joins
set_option linter.unusedVariables false
set_option linter.unusedSimpArgs false
theorem own : ownKnob Tryd.prog.godebug = none := by kernel_rfl
theorem laidOut : laidOutB Tryd.prog = true := by kernel_rfl
set_option maxRecDepth 100000 in
theorem contract (H : Type) (enc : TypeId × Value → H) (W : World) (base : Nat) (args : Array Value) (ds gs : List (DataW H)) (before : List MemPlace)
  (hval0 : ∀ (j : Nat) t v, Tryd.f5.params[j]? = some t → args[j]? = some v → Value.okWide Tryd.prog W .any base t v)
  (hW : DataW.Whole enc Tryd.prog Tryd.f5.params.toList Rows.canoncheckAcceptsCanonicalFormsSpec.vars false W args.toList ds gs before) (hL0 : laidMetH Tryd.prog Rows.canoncheckAcceptsCanonicalFormsRow.laid W) :
  Calls Tryd.prog 5 args W fun e W' => ∃ v, e = .returned v ∧ Rows.canoncheckAcceptsCanonicalFormsSpec.post enc Tryd.prog Tryd.f5 false true false false W args v W' := by
 have hL : laidMetH Tryd.prog TabD.laidL W := hL0
 have hval : ∀ (j : Nat) t v, Tryd.f5.params[j]? = some t → args[j]? = some v → Value.okWide Tryd.prog W .any base t v := hval0
 have hW' := hW
 obtain ⟨p, q, hA0, hV, rfl, hfz, hnd⟩ := hW
 have hA : DataW.TrodAll enc Tryd.prog W 0 (fun _ => true) true Tryd.f5.params.toList args.toList ds p := hA0
 rw [Tryd.params5] at hA hval
 obtain ⟨v0, vs0, d0, ds0, p0, q0, hargs, rfl, rfl, h0, r0⟩ := trodAll_cons hA
 obtain ⟨v1, vs1, d1, ds1, p1, q1, rfl, rfl, rfl, h1, r1⟩ := trodAll_cons r0
 obtain ⟨v2, vs2, d2, ds2, p2, q2, rfl, rfl, rfl, h2, r2⟩ := trodAll_cons r1
 obtain ⟨v3, vs3, d3, ds3, p3, q3, rfl, rfl, rfl, h3, r3⟩ := trodAll_cons r2
 obtain ⟨rfl, rfl, rfl⟩ := trodAll_nil r3
 obtain rfl : args = #[v0, v1, v2, v3] := by cases args; simp_all
 obtain ⟨rfl, rfl⟩ := trodVars_none hV
 have k0 := h0
 have lt0 : ∀ x ∈ p0, x.block < W.heap.size := by obtain ⟨m, hm⟩ := k0; exact DataW.trod_lt m _ _ _ hm
 obtain ⟨x0, y0, z0, rfl⟩ := okWide_slice Tryd.underlying27 (hval 0 27 v0 rfl rfl)
 obtain ⟨fuel0, hf0⟩ := h0
 obtain ⟨A0, c0, a0, e0, g0, ok0, lx0⟩ := TabD.segs_in hf0
 have e0' : [Value.slice x0 y0 z0] = [Value.slice A0 a0.length c0] := e0
 simp only [List.cons.injEq, Value.slice.injEq, and_true] at e0'
 obtain ⟨rfl, rfl, rfl⟩ := e0'
 clear e0 hf0
 have k1 := h1
 have lt1 : ∀ x ∈ p1, x.block < W.heap.size := by obtain ⟨m, hm⟩ := k1; exact DataW.trod_lt m _ _ _ hm
 obtain ⟨a1_0, a1_1, a1_2, rfl, w1_0, w1_1, w1_2⟩ : ∃ x0 x1 x2 : Int, v1 = .agg #[.int .i64 x0, .int .i64 x1, .int .i64 x2] ∧ (Lit.int .i64 x0).wf = true ∧ (Lit.int .i64 x1).wf = true ∧ (Lit.int .i64 x2).wf = true := by
  obtain ⟨c0, c1, c2, y0, y1, y2, m, rfl, _, _, e0, e1, e2⟩ := open_agg3 Tryd.underlying24 (by kernel_rfl) (by kernel_rfl) (hval 1 24 v1 rfl rfl) h1
  obtain ⟨x0, g0, _, z0⟩ := DataW.trod_int Tryd.underlying3 e0
  simp at g0
  subst g0
  obtain ⟨x1, g1, _, z1⟩ := DataW.trod_int Tryd.underlying3 e1
  simp at g1
  subst g1
  obtain ⟨x2, g2, _, z2⟩ := DataW.trod_int Tryd.underlying3 e2
  simp at g2
  subst g2
  exact ⟨x0, x1, x2, rfl, z0, z1, z2⟩
 have k2 := h2
 have lt2 : ∀ x ∈ p2, x.block < W.heap.size := by obtain ⟨m, hm⟩ := k2; exact DataW.trod_lt m _ _ _ hm
 obtain ⟨a2, rfl, _, _, w2⟩ := open_int Tryd.underlying5 (hval 2 5 v2 rfl rfl) h2
 have k3 := h3
 have lt3 : ∀ x ∈ p3, x.block < W.heap.size := by obtain ⟨m, hm⟩ := k3; exact DataW.trod_lt m _ _ _ hm
 obtain ⟨a3, rfl, _, _, w3⟩ := open_int Tryd.underlying32 (hval 3 32 v3 rfl rfl) h3
 clear hA0 hval0 hL0
 refine (Pr.forms_law x0 z0 a0 a1_0 a1_1 a1_2 a2 a3 W g0 ok0 (TabD.u8_range w2) (TabD.word_range w3) lx0 (TabD.tabs hL)).mono fun e W' ⟨he, bel⟩ => ?_
 subst he
 exact ⟨_, rfl, _, _, _, [], _, [], hW', trodAll_mk1 (shut_bool Tryd.underlying4 _), (trodAll_cons_mk (Below.trod laidOut (by kernel_rfl) (of_decide_eq_true (by kernel_rfl)) k0 bel lt0) (trodAll_cons_mk (Below.trod laidOut (by kernel_rfl) (of_decide_eq_true (by kernel_rfl)) k1 bel lt1) (trodAll_cons_mk (Below.trod laidOut (by kernel_rfl) (of_decide_eq_true (by kernel_rfl)) k2 bel lt2) (trodAll_cons_mk (Below.trod laidOut (by kernel_rfl) (of_decide_eq_true (by kernel_rfl)) k3 bel lt3) trodAll_mk0)))), rfl, bel.frame _, fun h => by cases h⟩
theorem laid_met (os : Os) : laidMetH Tryd.prog Rows.canoncheckAcceptsCanonicalFormsRow.laid ((World.doorLaid Tryd.prog 600 os).forCall (fun _ _ => 0) ⟨#[], #[.slice none 0 0, .agg #[.int .i64 0, .int .i64 0, .int .i64 0], .int .u8 0, .int .u64 0], []⟩).memory :=
 laidMetH_of_parts3 (fuel := 8) (laidMet_of_run' 8 (by kernel_rfl) (by kernel_rfl)) (by kernel_rfl) (by kernel_rfl)
theorem reads (os : Os) {H : Type} (enc : TypeId × Value → H) : ∃ places, DataW.whole enc Tryd.prog ((World.doorLaid Tryd.prog 600 os).forCall (fun _ _ => 0) ⟨#[], #[.slice none 0 0, .agg #[.int .i64 0, .int .i64 0, .int .i64 0], .int .u8 0, .int .u64 0], []⟩).memory Tryd.f5.params.toList Rows.canoncheckAcceptsCanonicalFormsSpec.vars false (#[.slice none 0 0, .agg #[.int .i64 0, .int .i64 0, .int .i64 0], .int .u8 0, .int .u64 0] : Array Value).toList 10 = some ([.nil, .agg [.lit (.int .i64 0), .lit (.int .i64 0), .lit (.int .i64 0)], .lit (.int .u8 0), .lit (.int .u64 0)], [], places) :=
 ⟨[], by kernel_rfl⟩
set_option maxRecDepth 100000 in
theorem lifted (os : Os) (started : os.Started) (H : Type) (enc : TypeId × Value → H) (F : Stop.Interp) :
  ReturnsInHanded {} Tryd.checked os 5 .any ((OpenSpec.ofChange Rows.canoncheckAcceptsCanonicalFormsSpec).preRow enc Tryd.prog Tryd.f5 Rows.canoncheckAcceptsCanonicalFormsRow.domain false Rows.canoncheckAcceptsCanonicalFormsRow.laid) (((OpenSpec.ofChange Rows.canoncheckAcceptsCanonicalFormsSpec).at F).post enc Tryd.prog Tryd.f5 false true false false) := by
 obtain ⟨places, hx⟩ := reads os enc
 refine returnsInHanded_of_row (C := Tryd.checked) (s := (OpenSpec.ofChange Rows.canoncheckAcceptsCanonicalFormsSpec)) own started (by kernel_rfl) Tryd.func5
  (witness_row_at (enc := enc) (C := Tryd.checked) false (World.doorLaid Tryd.prog 600 os) #[.slice none 0 0, .agg #[.int .i64 0, .int .i64 0, .int .i64 0], .int .u8 0, .int .u64 0] rfl (by kernel_rfl) (by kernel_rfl) (by kernel_rfl)
   (OpenSpec.preRow_of_cond 10 hx (by kernel_rfl) (fun k hk => by cases hk) (by kernel_rfl) (laid_met os))) ?_
 intro W base args ds gs before hval hW _ _ _ hL _ _
 exact contract H enc W base args ds gs before hval hW hL
theorem said : Rows.CanoncheckAcceptsCanonicalFormsSaid :=
 OpenClaim.holds_of_cond 5 Tryd.f5 rfl rfl rfl rfl rfl rfl rfl ⟨rfl, rfl, rfl, rfl, rfl⟩ rfl rfl rfl rfl rfl (by kernel_rfl) Tryd.func5 (by kernel_rfl)
  (of_decide_eq_true (by kernel_rfl)) (by unfold Func.isWrapper; first | (rw [if_pos (by decide +kernel)]; kernel_rfl) | (rw [if_neg (by decide +kernel)]; exact ⟨rfl, rfl⟩))
  (fun os started H enc _ F => by rw [OpenClaim.pre_eq_preRow]; exact lifted os started H enc F)
theorem plain (f : FuncId) (fn : Func) (hf : Tryd.pinned.checked.prog.funcNamed "capnp/capnplaw16.CanoncheckAcceptsCanonicalForms" = some f) (hfn : Tryd.pinned.checked.prog.funcs[f]? = some fn) :
  true = Tryd.pinned.checked.prog.looks [] ∧ ∀ (j : Nat) t, fn.params[j]? = some t → Tryd.pinned.checked.prog.wantsStandIn t = false := by
 obtain rfl : f = 5 := Option.some.inj ((show Tryd.prog.funcNamed "capnp/capnplaw16.CanoncheckAcceptsCanonicalForms" = some 5 by kernel_rfl).symm.trans hf) |>.symm
 obtain rfl : fn = Tryd.f5 := (Option.some.inj (Tryd.func5.symm.trans hfn)).symm
 refine ⟨by kernel_rfl, fun j t ht => ?_⟩
 rw [Tryd.params5] at ht
 have hm : t = 27 ∨ t = 24 ∨ t = 5 ∨ t = 32 := by have := Array.mem_of_getElem? ht; simp at this; omega
 rcases hm with rfl | rfl | rfl | rfl
 ·exact (show Tryd.prog.wantsStandIn 27 = false by kernel_rfl)
 ·exact (show Tryd.prog.wantsStandIn 24 = false by kernel_rfl)
 ·exact (show Tryd.prog.wantsStandIn 5 = false by kernel_rfl)
 ·exact (show Tryd.prog.wantsStandIn 32 = false by kernel_rfl)
theorem card : Rows.CanoncheckAcceptsCanonicalFormsCardSaid :=
 Claim7.holds_tied_plain_at .later [] _ _ _ _ said (fun _ h => by cases h) (by kernel_rfl) (fun _ h => by cases h) canoncheckAcceptsCanonicalForms_row_tie rfl ⟨rfl, rfl⟩ (by kernel_rfl) rfl plain (by kernel_rfl)
#print axioms card
end Go.Proofs.YtidglmocekghmaaDoor.canoncheckAcceptsCanonicalForms
namespace Go.Proofs.YtidglmocekghmaaDoor
theorem canoncheckAcceptsCanonicalForms_holds : Rows.CanoncheckAcceptsCanonicalFormsCardSaid := canoncheckAcceptsCanonicalForms.card
end Go.Proofs.YtidglmocekghmaaDoor
end
