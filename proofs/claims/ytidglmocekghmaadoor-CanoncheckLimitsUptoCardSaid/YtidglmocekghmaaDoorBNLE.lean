/- A part of the proof of YtidglmocekghmaaDoorLimitsCard (the texts that it stands on, gathered; declarations that nothing uses are left out). -/
import Derived.Test.YtidglmocekghmaaDoorBNLD
import Derived.Below
import Derived.Deep.Draws
import Derived.Deep.AppendLies
import Derived.Maps.AppendAt
import Derived.OwnWalk
import Derived.Laws.BytesArg
import Derived.Laws.MakeOwn
import Derived.Laws.OwnMore
import Derived.Deep.OwnRows
import Derived.Tactics
import Derived.Lib.ConvBytes
import Derived.Laws.Slices
import Derived.WalkKit
import Derived.KernelRfl
import Derived.RowKit3
import Derived.Deep.LoopGhost
import Derived.Deep.QuietTactic
import Derived.BigQuiet
import Derived.WideLaws
import Derived.Deep.DeepCutAuto
import Derived.Deep.CutBlock
import Derived.Deep.RegionHeld3
import Derived.Laws.Rows
import Derived.Lib.AppendStr
import Derived.ArgAppend
import Derived.Laws.IdiomCopy
import Derived.RowKit
import Derived.OrdersHeld
import Derived.Laws.BitsLemmas
import Derived.Laws.StructEq
import Derived.SizedLaws
import Derived.ChangeSlices
import Derived.Test.YtidglmocekghmaaDoorProg
import Derived.Lib.Hide
import Derived.WalkLawsBesides
import Derived.WalkSpells
import Derived.Outline
import Derived.IntWalk
import Derived.Laws.AppendOwn
import Derived.RangeFuncBox
import Derived.Lib.JoinLaws
import Derived.Defers
import Derived.Recover
import Derived.Laws.Pointers
import Derived.Test.YtidglmocekghmaaDoorCards
import Derived.ProofKit
import Derived.LaidMore
import Derived.LaidHandle
import Derived.Maps.Keyed
import Derived.WideKeyElems2
import Derived.Lib.LaidTab
import Derived.OpenShut
import Derived.Lib.SmallJoins
import Derived.Test.YtidglmocekghmaaDoorRows
import Derived.ChangeOld
import Derived.DataReads
set_option linter.unusedVariables false
set_option linter.unusedSimpArgs false
section
namespace Go.Proofs.YtidglmocekghmaaDoor.Pr
theorem wd_set_eq {s : List Int} {a : Nat} {v : Int} (h : a < s.length) : wd (s.set a v) a = v := by
 unfold wd
 rw [List.getD_eq_getElem?_getD, List.getElem?_set_self h]
 rfl
theorem wd_rep {n i : Nat} : wd (List.replicate n 0) i = 0 := by
 unfold wd
 rw [List.getD_eq_getElem?_getD, List.getElem?_replicate]
 split <;> rfl
theorem putW_len (n : S37) (out : List Int) (a : Nat) : (putW n out a).length = out.length + (shallowW n).length := by unfold putW; simp
theorem putW_old {n : S37} {out : List Int} {a i : Nat} (hi : i < out.length) (h : i ≠ a) : wd (putW n out a) i = wd out i := by
 unfold putW
 rw [wd_set_ne (Ne.symm h), wd_app_l hi]
theorem putW_ptr {n : S37} {out : List Int} {a : Nat} (ha : a < out.length) : wd (putW n out a) a = ptrW n ((out.length : Int) - a - 1) := by
 unfold putW
 exact wd_set_eq (by simp; omega)
theorem putW_new {n : S37} {out : List Int} {a i : Nat} (ha : a < out.length) : wd (putW n out a) (out.length + i) = wd (shallowW n) i := by
 unfold putW
 rw [wd_set_ne (by omega), wd_app_r (by omega), Nat.add_sub_cancel_left]
theorem seg_eq {s l : List Int} {i : Nat} (h : ∀ j, j < l.length → wd s (i + j) = wd l j) (hl : i + l.length ≤ s.length) : seg s i l.length = l := by
 unfold seg
 refine List.ext_getElem (by simp; omega) (fun j hj hj' => ?_)
 have := h j hj'
 unfold wd at this
 rw [List.getD_eq_getElem?_getD, List.getD_eq_getElem?_getD, List.getElem?_eq_getElem (by omega), List.getElem?_eq_getElem hj'] at this
 simpa using this
theorem shallowE_len (A B : Nat) : ∀ l : List S37, (shallowE A B l).length = l.length * (A + B)
 | [] => by simp [shallowE]
 | x :: l => by rw [shallowE, List.length_append, List.length_append, wordsB_len, List.length_replicate, shallowE_len A B l, List.length_cons, Nat.add_mul, Nat.one_mul]; omega
structure Put (out out' : List Int) (a k : Nat) : Prop where
 len : out.length ≤ out'.length
 old : ∀ i, i < out.length → (i < a ∨ a + k ≤ i) → wd out' i = wd out i
def ElW (out : List Int) (A B : Nat) : List S37 → Nat → Prop
 | [], _ => True
 | x :: l, at_ => seg out at_ A = wordsB A x.f3 ∧ (∀ j, j < B → wd out (at_ + A + j) = 0) ∧ at_ + (A + B) ≤ out.length ∧ ElW out A B l (at_ + (A + B))
theorem elW_of {out : List Int} {A B : Nat} : ∀ {l : List S37} {at_ : Nat}, (∀ j, j < l.length * (A + B) → wd out (at_ + j) = wd (shallowE A B l) j) → at_ + l.length * (A + B) ≤ out.length → ElW out A B l at_
  | [], _, _, _ => trivial
  | x :: l, at_, h, hl => by
    rw [List.length_cons, Nat.add_mul, Nat.one_mul] at h hl
    have h1 : ∀ j, j < A + B → wd out (at_ + j) = wd (wordsB A x.f3 ++ List.replicate B 0) j := fun j hj => by
      rw [h j (by omega), shallowE, wd_app_l (by rw [List.length_append, wordsB_len, List.length_replicate]; exact hj)]
    refine ⟨?_, fun j hj => ?_, by omega, elW_of (fun j hj => ?_) (by omega)⟩
    · have := seg_eq (s := out) (l := wordsB A x.f3) (i := at_) (fun j hj => by
        rw [wordsB_len] at hj
        rw [h1 j (by omega), wd_app_l (by rw [wordsB_len]; exact hj)]) (by rw [wordsB_len]; omega)
      rwa [wordsB_len] at this
    · rw [Nat.add_assoc, h1 _ (by omega), wd_app_r (by rw [wordsB_len]; omega), wd_rep]
    · rw [Nat.add_assoc, h _ (by omega), shallowE, wd_app_r (by rw [List.length_append, wordsB_len, List.length_replicate]; omega), List.length_append, wordsB_len, List.length_replicate, Nat.add_sub_cancel_left]
theorem ElW.keep {out out' : List Int} {A B : Nat} : ∀ {l : List S37} {at_ : Nat}, ElW out A B l at_ → (∀ i, at_ ≤ i → i < out.length → wd out' i = wd out i) → out.length ≤ out'.length → ElW out' A B l at_
 | [], _, _, _, _ => trivial
 | x :: l, at_, ⟨h1, h2, h3, h4⟩, hk, hl => by
  refine ⟨?_, fun j hj => (hk _ (by omega) (by omega)).trans (h2 j hj), by omega, h4.keep (fun i hi hi2 => hk i (by omega) hi2) hl⟩
  rw [← h1]
  exact (seg_local (s := out) (s' := out') (fun i hi hi2 => (hk i hi (by omega)).symm) (by omega) (by omega)).symm
mutual
theorem place_lay : ∀ (n : S37) (out : List Int) (a : Nat), a < out.length → wd out a = 0 → Put out (placeW n out a) a 1 ∧ lay (placeW n out a) n a out.length (placeW n out a).length
  | ⟨k, e, n, b, l⟩, out, a, ha, hz => by
    unfold placeW lay
    by_cases hk0 : k = 0
    · rw [if_pos hk0, if_pos hk0]
      exact ⟨⟨Nat.le_refl _, fun _ _ _ => rfl⟩, hz, rfl⟩
    rw [if_neg hk0, if_neg hk0]
    by_cases hk1 : k = 1
    · rw [if_pos hk1, if_pos hk1]
      have hsh : shallowW ⟨k, e, n, b, l⟩ = wordsB (b.length / 8) b ++ List.replicate l.length 0 := by unfold shallowW; rw [if_pos hk1]
      have hln := putW_len ⟨k, e, n, b, l⟩ out a
      rw [hsh, List.length_append, wordsB_len, List.length_replicate] at hln
      have hp := putW_ptr (n := ⟨k, e, n, b, l⟩) ha
      have hnew := fun i => putW_new (n := ⟨k, e, n, b, l⟩) (i := i) ha
      have hold := fun i h1 h2 => putW_old (n := ⟨k, e, n, b, l⟩) (out := out) (a := a) (i := i) h1 h2
      rw [hsh] at hnew
      generalize putW ⟨k, e, n, b, l⟩ out a = o1 at *
      obtain ⟨⟨p1, p2⟩, p3⟩ := places_lay l o1 (out.length + b.length / 8) (by omega) (fun j hj => by
        rw [show out.length + b.length / 8 + j = out.length + (b.length / 8 + j) by omega, hnew, wd_app_r (by rw [wordsB_len]; omega), wd_rep])
      generalize placesW l o1 (out.length + b.length / 8) = o2 at *
      refine ⟨⟨by omega, fun i h1 h2 => (p2 i (by omega) (by omega)).trans (hold i h1 (by omega))⟩, ?_⟩
      have hpa : wd o2 a = ptrW ⟨k, e, n, b, l⟩ ((out.length : Int) - a - 1) := (p2 a (by omega) (by omega)).trans hp
      unfold ptrW at hpa
      rw [if_pos hk1] at hpa
      dsimp only at hpa
      by_cases hzz : b.length / 8 + l.length = 0
      · rw [if_pos hzz] at hpa ⊢
        have hl0 : l = [] := List.eq_nil_of_length_eq_zero (by omega)
        subst hl0
        unfold lays at p3
        exact ⟨hpa, by omega⟩
      · rw [if_neg hzz] at hpa ⊢
        refine ⟨hpa, by omega, ?_, ?_⟩
        · have := seg_eq (s := o2) (l := wordsB (b.length / 8) b) (i := out.length) (fun j hj => by
            rw [wordsB_len] at hj
            rw [p2 _ (by omega) (by omega), hnew, wd_app_l (by rw [wordsB_len]; exact hj)]) (by rw [wordsB_len]; omega)
          rwa [wordsB_len] at this
        · rw [show out.length + (b.length / 8 + l.length) = o1.length by omega]
          exact p3
    rw [if_neg hk1, if_neg hk1]
    by_cases he7 : e = 7
    · rw [if_pos he7, if_pos he7]
      have hsh : shallowW ⟨k, e, n, b, l⟩ = encS l.length (maxD l) (maxP l) :: shallowE (maxD l) (maxP l) l := by unfold shallowW; rw [if_neg hk1, if_pos he7]
      have hln := putW_len ⟨k, e, n, b, l⟩ out a
      rw [hsh, List.length_cons, shallowE_len] at hln
      have hp := putW_ptr (n := ⟨k, e, n, b, l⟩) ha
      have hnew := fun i => putW_new (n := ⟨k, e, n, b, l⟩) (i := i) ha
      have hold := fun i h1 h2 => putW_old (n := ⟨k, e, n, b, l⟩) (out := out) (a := a) (i := i) h1 h2
      rw [hsh] at hnew
      generalize putW ⟨k, e, n, b, l⟩ out a = o1 at *
      obtain ⟨⟨p1, p2⟩, p3⟩ := placeE_lay (maxD l) (maxP l) l (fun x hx => maxP_le hx) o1 (out.length + 1) (by omega) (elW_of (fun j hj => by
        rw [show out.length + 1 + j = out.length + (j + 1) by omega, hnew]
        rfl) (by omega))
      generalize placeE (maxD l) (maxP l) l o1 (out.length + 1) = o2 at *
      refine ⟨⟨by omega, fun i h1 h2 => (p2 i (by omega) (by omega)).trans (hold i h1 (by omega))⟩, ?_⟩
      have hpa : wd o2 a = ptrW ⟨k, e, n, b, l⟩ ((out.length : Int) - a - 1) := (p2 a (by omega) (by omega)).trans hp
      unfold ptrW at hpa
      rw [if_neg hk1, if_pos he7] at hpa
      refine ⟨hpa, by omega, ?_, ?_⟩
      · rw [p2 _ (by omega) (by omega)]
        have := hnew 0
        rw [Nat.add_zero] at this
        rw [this]
        rfl
      · rw [show out.length + 1 + l.length * (maxD l + maxP l) = o1.length by omega]
        exact p3
    rw [if_neg he7, if_neg he7]
    by_cases he6 : e = 6
    · rw [if_pos he6, if_pos he6]
      have hsh : shallowW ⟨k, e, n, b, l⟩ = List.replicate l.length 0 := by unfold shallowW; rw [if_neg hk1, if_neg he7, if_pos he6]
      have hln := putW_len ⟨k, e, n, b, l⟩ out a
      rw [hsh, List.length_replicate] at hln
      have hp := putW_ptr (n := ⟨k, e, n, b, l⟩) ha
      have hnew := fun i => putW_new (n := ⟨k, e, n, b, l⟩) (i := i) ha
      have hold := fun i h1 h2 => putW_old (n := ⟨k, e, n, b, l⟩) (out := out) (a := a) (i := i) h1 h2
      rw [hsh] at hnew
      generalize putW ⟨k, e, n, b, l⟩ out a = o1 at *
      obtain ⟨⟨p1, p2⟩, p3⟩ := places_lay l o1 out.length (by omega) (fun j hj => by rw [hnew, wd_rep])
      generalize placesW l o1 out.length = o2 at *
      refine ⟨⟨by omega, fun i h1 h2 => (p2 i (by omega) (by omega)).trans (hold i h1 (by omega))⟩, ?_⟩
      have hpa : wd o2 a = ptrW ⟨k, e, n, b, l⟩ ((out.length : Int) - a - 1) := (p2 a (by omega) (by omega)).trans hp
      unfold ptrW at hpa
      rw [if_neg hk1, if_neg he7, if_pos he6] at hpa
      refine ⟨hpa, by omega, ?_⟩
      rw [show out.length + l.length = o1.length by omega]
      exact p3
    rw [if_neg he6, if_neg he6]
    have hsh : shallowW ⟨k, e, n, b, l⟩ = wordsB (wordsE e n).toNat b := by unfold shallowW; rw [if_neg hk1, if_neg he7, if_neg he6]
    have hln := putW_len ⟨k, e, n, b, l⟩ out a
    rw [hsh, wordsB_len] at hln
    have hp := putW_ptr (n := ⟨k, e, n, b, l⟩) ha
    have hnew := fun i => putW_new (n := ⟨k, e, n, b, l⟩) (i := i) ha
    have hold := fun i h1 h2 => putW_old (n := ⟨k, e, n, b, l⟩) (out := out) (a := a) (i := i) h1 h2
    rw [hsh] at hnew
    generalize putW ⟨k, e, n, b, l⟩ out a = o1 at *
    refine ⟨⟨by omega, fun i h1 h2 => hold i h1 (by omega)⟩, ?_⟩
    unfold ptrW at hp
    rw [if_neg hk1, if_neg he7, if_neg he6] at hp
    refine ⟨hp, by omega, ?_, by omega⟩
    have := seg_eq (s := o1) (l := wordsB (wordsE e n).toNat b) (i := out.length) (fun j hj => hnew j) (by rw [wordsB_len]; omega)
    rwa [wordsB_len] at this
theorem places_lay : ∀ (l : List S37) (out : List Int) (a : Nat), a + l.length ≤ out.length → (∀ j, j < l.length → wd out (a + j) = 0) → Put out (placesW l out a) a l.length ∧ lays (placesW l out a) l a out.length (placesW l out a).length
  | [], out, a, _, _ => by
    unfold placesW lays
    exact ⟨⟨Nat.le_refl _, fun _ _ _ => rfl⟩, rfl⟩
  | x :: l, out, a, ha, hz => by
    rw [List.length_cons] at ha
    unfold placesW lays
    obtain ⟨⟨p1, p2⟩, p3⟩ := place_lay x out a (by omega) (by have := hz 0 (by simp); simpa using this)
    generalize placeW x out a = o1 at *
    obtain ⟨⟨q1, q2⟩, q3⟩ := places_lay l o1 (a + 1) (by omega) (fun j hj => by
      rw [p2 _ (by omega) (by omega), show a + 1 + j = a + (j + 1) by omega]
      exact hz (j + 1) (by simp; omega))
    generalize placesW l o1 (a + 1) = o2 at *
    refine ⟨⟨by omega, fun i h1 h2 => ?_⟩, o1.length, lay_local x a out.length o1.length p3 (q2 a (by omega) (by omega)).symm (fun i h1 h2 => (q2 i (by omega) (by omega)).symm) q1, q3⟩
    rw [List.length_cons] at h2
    exact (q2 i (by omega) (by omega)).trans (p2 i h1 (by omega))
theorem placeE_lay (A B : Nat) : ∀ (m : List S37) (hB : ∀ x ∈ m, x.f4.length ≤ B) (out : List Int) (at_ : Nat), at_ + m.length * (A + B) ≤ out.length → ElW out A B m at_ → Put out (placeE A B m out at_) at_ (m.length * (A + B)) ∧ layE (placeE A B m out at_) A B m at_ out.length (placeE A B m out at_).length
  | [], _, out, at_, _, _ => by
    unfold placeE layE
    exact ⟨⟨Nat.le_refl _, fun _ _ _ => rfl⟩, rfl⟩
  | ⟨k, e, n, b, l⟩ :: m, hB, out, at_, ha, hw => by
    obtain ⟨h1, h2, h3, h4⟩ := hw
    have hl := hB _ List.mem_cons_self
    dsimp only at hl h1
    rw [List.length_cons, Nat.add_mul, Nat.one_mul] at ha
    unfold placeE layE
    obtain ⟨⟨p1, p2⟩, p3⟩ := places_lay l out (at_ + A) (by omega) (fun j hj => h2 j (by omega))
    generalize placesW l out (at_ + A) = o1 at *
    obtain ⟨⟨q1, q2⟩, q3⟩ := placeE_lay A B m (fun x hx => hB x (List.mem_cons_of_mem _ hx)) o1 (at_ + (A + B)) (by omega) (h4.keep (fun i hi hi2 => p2 i hi2 (by omega)) p1)
    generalize placeE A B m o1 (at_ + (A + B)) = o2 at *
    rw [List.length_cons, Nat.add_mul, Nat.one_mul]
    refine ⟨⟨by omega, fun i g1 g2 => (q2 i (by omega) (by omega)).trans (p2 i g1 (by omega))⟩, ?_, fun j g1 g2 => ?_, o1.length, ?_, q3⟩
    · rw [← h1]
      exact (seg_local (s := out) (s' := o2) (fun i g1 g2 => ((q2 i (by omega) (by omega)).trans (p2 i (by omega) (by omega))).symm) (by omega) (by omega)).symm
    · exact ((q2 _ (by omega) (by omega)).trans (p2 _ (by omega) (by omega))).trans (h2 j g2)
    · exact lays_local l (at_ + A) out.length o1.length p3 (fun i g1 g2 => (q2 i (by omega) (by omega)).symm) (fun i g1 g2 => (q2 i (by omega) (by omega)).symm) q1
end
def writeW (n : S37) : List Int := placeW n [0] 0
theorem write_lay (n : S37) : 0 < (writeW n).length ∧ lay (writeW n) n 0 1 (writeW n).length := by
 obtain ⟨h1, h2⟩ := place_lay n [0] 0 (by simp) rfl
 exact ⟨Nat.lt_of_lt_of_le (by simp) h1.len, h2⟩
end Go.Proofs.YtidglmocekghmaaDoor.Pr
end
section
namespace Go.Proofs.YtidglmocekghmaaDoor.Pr
open Go.RowKit Go.Proofs.YtidglmocekghmaaDoorW.PrintWords Go.Proofs.YtidglmocekghmaaDoorW.PrintLast Go.Proofs.YtidglmocekghmaaDoorW.PrintMore
set_option linter.unusedVariables false
set_option linter.unusedSimpArgs false
theorem off_any (o : Int) (w : World) (h0 : -536870912 ≤ o) (h1 : o ≤ 536870911) : Calls Tryd.prog 82 #[.int .i64 o] w fun e w' => e = .returned (.bool true) ∧ w' = w := by
 go_enter Tryd.func82, Tryd.ntmps82
 go_wp2
 go_ret
 exact ⟨rfl, rfl⟩
abbrev ptS (o d p : Int) : Value := .agg #[.int .i64 0, .int .i64 o, .int .i64 d, .int .i64 p, .int .i64 0, .int .i64 0, .bool false, .int .i64 0, .int .u32 0, .int .u32 0]
abbrev ptL (o e c : Int) : Value := .agg #[.int .i64 1, .int .i64 o, .int .i64 0, .int .i64 0, .int .i64 e, .int .i64 c, .bool false, .int .i64 0, .int .u32 0, .int .u32 0]
set_option maxRecDepth 100000 in
set_option maxHeartbeats 4000000 in
theorem valid_s (o d p : Int) (w : World) (h0 : -536870912 ≤ o) (h1 : o ≤ 536870911) (d0 : 0 ≤ d) (d1 : d ≤ 65535) (p0 : 0 ≤ p) (p1 : p ≤ 65535) : Calls Tryd.prog 71 #[ptS o d p] w fun e w' => e = .returned (.bool true) ∧ Below w.heap.size w w' := by
  have HO := fun w => Lib.hid (off_any o w h0 h1)
  have S := Sep.start w
  go_enter Tryd.func71, Tryd.ntmps71
  go_wp2_with (first | go_skip | ((with_reducible refine wl ?_); first | refine sn S (fun g w1 S => ?_) | refine ss S (fun w1 S => ?_) | refine sl S ?_ | refine sa S ?_) | ((with_reducible refine (HO _).out.mono ?_); rintro r' w' ⟨rfl, rfl⟩))
  exact rt S ⟨rfl, S.below⟩
set_option maxRecDepth 100000 in
set_option maxHeartbeats 4000000 in
theorem valid_l (o e c : Int) (w : World) (h0 : -536870912 ≤ o) (h1 : o ≤ 536870911) (e0 : 0 ≤ e) (e1 : e ≤ 7) (c0 : 0 ≤ c) (c1 : c ≤ 536870911) : Calls Tryd.prog 71 #[ptL o e c] w fun e w' => e = .returned (.bool true) ∧ Below w.heap.size w w' := by
  have HO := fun w => Lib.hid (off_any o w h0 h1)
  have S := Sep.start w
  go_enter Tryd.func71, Tryd.ntmps71
  go_wp2_with (first | go_skip | ((with_reducible refine wl ?_); first | refine sn S (fun g w1 S => ?_) | refine ss S (fun w1 S => ?_) | refine sl S ?_ | refine sa S ?_) | ((with_reducible refine (HO _).out.mono ?_); rintro r' w' ⟨rfl, rfl⟩))
  exact rt S ⟨rfl, S.below⟩
set_option maxRecDepth 100000 in
set_option maxHeartbeats 4000000 in
theorem encode_s (o d p : Int) (w : World) (h0 : -536870912 ≤ o) (h1 : o ≤ 536870911) (d0 : 0 ≤ d) (d1 : d ≤ 65535) (p0 : 0 ≤ p) (p1 : p ≤ 65535) : Calls Tryd.prog 49 #[ptS o d p] w fun r w' => r = .returned (.tuple #[.int .u64 (encS o d p), .bool true]) ∧ Below w.heap.size w w' := by
  have HV := fun w => Lib.hid (valid_s o d p w h0 h1 d0 d1 p0 p1)
  have S := Sep.start w
  by_cases hn : o < 0
  · obtain ⟨q, hq⟩ : ∃ q, o + 1073741824 = q := ⟨_, rfl⟩
    have HR : Hid (o % 1073741824 = q) := Lib.hid (by omega)
    have q0 : 0 ≤ q := by omega
    have q1 : q ≤ 1073741823 := by omega
    go_enter Tryd.func49, Tryd.ntmps49
    go_wp2_with (first | go_skip | ((with_reducible refine wl ?_); first | refine sn S (fun g w1 S => ?_) | refine ss S (fun w1 S => ?_) | refine sl S ?_ | refine sa S ?_) | ((with_reducible refine (HV _).out.mono ?_); rintro r' w' ⟨rfl, hb⟩; replace S := S.call hb))
    refine rt S ⟨?_, S.below⟩
    have HE : encS o d p = 4 * q + 4294967296 * d + 281474976710656 * p := by unfold encS; rw [HR.out]; omega
    rw [HE]
    rfl
  · have HR : Hid (o % 1073741824 = o) := Lib.hid (by omega)
    have q0 : 0 ≤ o := by omega
    go_enter Tryd.func49, Tryd.ntmps49
    go_wp2_with (first | go_skip | ((with_reducible refine wl ?_); first | refine sn S (fun g w1 S => ?_) | refine ss S (fun w1 S => ?_) | refine sl S ?_ | refine sa S ?_) | ((with_reducible refine (HV _).out.mono ?_); rintro r' w' ⟨rfl, hb⟩; replace S := S.call hb))
    refine rt S ⟨?_, S.below⟩
    have HE : encS o d p = 4 * o + 4294967296 * d + 281474976710656 * p := by unfold encS; rw [HR.out]; omega
    rw [HE]
    rfl
set_option maxRecDepth 100000 in
set_option maxHeartbeats 4000000 in
theorem encode_l (o e c : Int) (w : World) (h0 : -536870912 ≤ o) (h1 : o ≤ 536870911) (e0 : 0 ≤ e) (e1 : e ≤ 7) (c0 : 0 ≤ c) (c1 : c ≤ 536870911) : Calls Tryd.prog 49 #[ptL o e c] w fun r w' => r = .returned (.tuple #[.int .u64 (encL o e c), .bool true]) ∧ Below w.heap.size w w' := by
  have HV := fun w => Lib.hid (valid_l o e c w h0 h1 e0 e1 c0 c1)
  have S := Sep.start w
  by_cases hn : o < 0
  · obtain ⟨q, hq⟩ : ∃ q, o + 1073741824 = q := ⟨_, rfl⟩
    have HR : Hid (o % 1073741824 = q) := Lib.hid (by omega)
    have q0 : 0 ≤ q := by omega
    have q1 : q ≤ 1073741823 := by omega
    go_enter Tryd.func49, Tryd.ntmps49
    go_wp2_with (first | go_skip | ((with_reducible refine wl ?_); first | refine sn S (fun g w1 S => ?_) | refine ss S (fun w1 S => ?_) | refine sl S ?_ | refine sa S ?_) | ((with_reducible refine (HV _).out.mono ?_); rintro r' w' ⟨rfl, hb⟩; replace S := S.call hb))
    refine rt S ⟨?_, S.below⟩
    have HE : encL o e c = 1 + 4 * q + 4294967296 * e + 34359738368 * c := by unfold encL; rw [HR.out]; omega
    rw [HE]
    rfl
  · have HR : Hid (o % 1073741824 = o) := Lib.hid (by omega)
    have q0 : 0 ≤ o := by omega
    go_enter Tryd.func49, Tryd.ntmps49
    go_wp2_with (first | go_skip | ((with_reducible refine wl ?_); first | refine sn S (fun g w1 S => ?_) | refine ss S (fun w1 S => ?_) | refine sl S ?_ | refine sa S ?_) | ((with_reducible refine (HV _).out.mono ?_); rintro r' w' ⟨rfl, hb⟩; replace S := S.call hb))
    refine rt S ⟨?_, S.below⟩
    have HE : encL o e c = 1 + 4 * o + 4294967296 * e + 34359738368 * c := by unfold encL; rw [HR.out]; omega
    rw [HE]
    rfl
end Go.Proofs.YtidglmocekghmaaDoor.Pr
end
section
namespace Go.Proofs.YtidglmocekghmaaDoor.Pr
open Go.RowKit Go.Proofs.YtidglmocekghmaaDoorW.PrintWords Go.Proofs.YtidglmocekghmaaDoorW.PrintLast Go.Proofs.YtidglmocekghmaaDoorW.PrintMore
set_option linter.unusedVariables false
set_option linter.unusedSimpArgs false
def atS (q n : Nat) : List Int := (List.range n).map fun i => ((q + i : Nat) : Int)
theorem atS_succ (q n : Nat) : atS q (n + 1) = atS q n ++ [((q + n : Nat) : Int)] := by simp [atS, List.range_succ]
theorem atS_len (q n : Nat) : (atS q n).length = n := by simp [atS]
def atE (A B : Nat) : List S37 → Nat → List Int
 | [], _ => []
 | x :: l, q => atS (q + A) x.f4.length ++ atE A B l (q + (A + B))
def atW (n : S37) : List Int :=
 if n.f0 = 1 then atS (n.f3.length / 8) n.f4.length
 else if n.f1 = 7 then atE (maxD n.f4) (maxP n.f4) n.f4 1
 else atS 0 n.f4.length
def ptrV (n : S37) : Value :=
 if n.f0 = 1 then ptS 0 (n.f3.length / 8 : Nat) n.f4.length
 else if n.f1 = 7 then ptL 0 7 (n.f4.length * (maxD n.f4 + maxP n.f4) : Nat)
 else ptL 0 n.f1 n.f2
def ShV (w : World) (n : S37) (r : Ending) (w' : World) : Prop := ∃ A1 c1 A2 c2, r = .returned (.tuple #[.slice A1 (shallowW n).length c1, ptrV n, .slice A2 (atW n).length c2]) ∧ (Kd.int .u64).C w' A1 (shallowW n).length (shallowW n) ∧ (Kd.int .i64).C w' A2 (atW n).length (atW n) ∧ Below w.heap.size w w'
set_option maxRecDepth 100000 in
set_option maxHeartbeats 4000000 in
theorem shallow_s (n : S37) (A3 A4 : Option Addr) (c3 c4 : Nat) (w : World) (h : k37.K w n (ndC n A3 c3 A4 c4)) (h1 : n.f0 = 1) (hb : ∀ x ∈ n.f3, 0 ≤ x ∧ x < 256) (h8 : n.f3.length % 8 = 0) (hd : n.f3.length / 8 ≤ 65535) (hp : n.f4.length ≤ 65535) :
    Calls Tryd.prog 48 #[ndV n A3 c3 A4 c4] w (ShV w n) := by
  obtain ⟨-, g3, -, -⟩ := K_C3 h
  have S := Sep.start w
  have hW : shallowW n = wordsB (n.f3.length / 8) n.f3 ++ List.replicate n.f4.length 0 := by unfold shallowW; rw [if_pos h1]
  have hA : atW n = atS (n.f3.length / 8) n.f4.length := by unfold atW; rw [if_pos h1]
  have hP : ptrV n = ptS 0 (n.f3.length / 8 : Nat) n.f4.length := by unfold ptrV; rw [if_pos h1]
  unfold ShV
  rw [hW, hA, hP]
  have HPD := fun w' (hw : Below w.heap.size w w') => Lib.hid (padded_any A3 c3 n.f3 (n.f3.length / 8) w' (Kd.C_below g3 hw) hb (by omega) (by omega))
  have HL := Lib.hid (wordsB_len (n.f3.length / 8) n.f3)
  obtain ⟨f0, f1, f2, f3, l⟩ := n
  dsimp only [ndV] at *
  generalize wordsB (f3.length / 8) f3 = D at *
  obtain ⟨m3, hm3⟩ : ∃ m, f3.length = m := ⟨_, rfl⟩
  obtain ⟨d, hd2⟩ : ∃ d, m3 / 8 = d := ⟨_, rfl⟩
  obtain ⟨m, hm⟩ : ∃ m, l.length = m := ⟨_, rfl⟩
  rw [hm3] at HPD HL hd h8 ⊢
  rw [hd2] at HPD HL hd ⊢
  rw [hm] at hp ⊢
  have hq : ((m3 : Int) / 8) = (d : Int) := by omega
  have b3 : m3 ≤ 524280 := by omega
  subst h1
  clear hW hA hP g3 h hm hm3 hb h8 hd2
  go_enter Tryd.func48, Tryd.ntmps48
  go_wp2_with (first | go_skip | ((with_reducible refine wl ?_); first | (refine sn S (fun g w1 S => ?_); first | ((fail_if_success (have := gn)); revert g; intro gn S) | ((fail_if_success (have := gr)); revert g; intro gr S) | ((fail_if_success (have := gp)); revert g; intro gp S)) | refine ss S (fun w1 S => ?_) | refine sl S ?_ | refine sa S ?_) | ((with_reducible refine (HPD _ S.below).out.mono ?_); rintro r w' ⟨v, rfl, hR, hb⟩; replace S := S.push (a := .row (Kd.int .u64) 32 _ D) hb hR))
  have S := Lib.hid (S.nil (Kd.int .i64) 3)
  go_loopw [6, 7, 8] (fun va vw k wr => ∃ (j : Nat), j ≤ m ∧ k = .int .i64 j ∧ Hid (Sep w wr [.row (Kd.int .i64) 3 va (atS d j), .row (Kd.int .u64) 32 vw (D ++ List.replicate j 0), .box gp #[.int .i64 0, .int .i64 0, .int .i64 d, .int .i64 m, .int .i64 0, .int .i64 0, .bool false, .int .i64 0, .int .u32 0, .int .u32 0] 67, .box gr #[.int .i64 0, .int .i64 0, .int .i64 0, .int .i64 0, .int .i64 0, .int .i64 0, .bool false, .int .i64 0, .int .u32 0, .int .u32 0] 67, .box gn #[.int .i64 1, .int .i64 f1, .int .i64 f2, .slice A3 m3 c3, .slice A4 m c4] 37])) (fun _ _ k _ => m - (intOf k).toNat)
  case atStart => exact ⟨0, Nat.zero_le _, rfl, by simpa [atS] using S⟩
  case round =>
    clear S
    obtain ⟨j, hj, rfl, S⟩ := hrel
    have S := S.out
    obtain ⟨A5, n5, c5, rfl, h5⟩ := R_sl (S.outR .here)
    obtain ⟨A6, n6, c6, rfl, h6⟩ := R_sl (S.outR (.there .here))
    have H6 : Hid (n6 = d + j) := Lib.hid (by rw [h6.out, List.length_append, HL.out, List.length_replicate])
    by_cases hjl : j < m
    · have HX : Hid (D ++ List.replicate (j + 1) 0 = D ++ List.replicate j 0 ++ [0]) := Lib.hid (by rw [List.replicate_succ', List.append_assoc])
      have HY : Hid (atS d (j + 1) = atS d j ++ [(n6 : Int)]) := Lib.hid (by rw [atS_succ, H6.out])
      have HB5 : Hid ((atS d j).length ≤ 65535) := Lib.hid (by rw [atS_len]; omega)
      have HB6 : Hid ((D ++ List.replicate j 0).length ≤ 200000) := Lib.hid (by rw [← h6.out, H6.out]; omega)
      clear h5 h6
      go_wp2_with (first | go_skip | ((with_reducible refine wl ?_); first | refine sl S ?_) | ((with_reducible refine gate_builtin (b := .append) (xs := #[.tmp 41, .tmp 44]) rfl ?_); at_builtin; refine sp_append (p := (n6 : Int)) ((S.one (Value.int .i64) (fun _ => rfl) (n6 : Int)).swap) rfl rfl Tryd.underlying83 info3 rfl (by decide) (by omega) rfl rfl (by have := HB5.out; omega) (fun v1 w1 S => ?_); replace S := S.swap) | ((with_reducible refine gate_builtin (b := .append) (xs := #[.tmp 46, .tmp 47]) rfl ?_); at_builtin; refine sp_append (p := (0 : Int)) ((S.one (Value.int .u64) (fun _ => rfl) (0 : Int)).swap) rfl rfl Tryd.underlying22 info32 rfl (by decide) (by omega) rfl rfl (by have := HB6.out; omega) (fun v1 w1 S => ?_); replace S := S.swap))
      go_roundw
      case rel => exact ⟨j + 1, by omega, by go_num, by rw [HX.out, HY.out]; exact Lib.hid S⟩
      case measure => simp [intOf]; omega
    · obtain rfl : j = m := by omega
      go_wp2_with (first | go_skip | ((with_reducible refine wl ?_); first | refine sl S ?_))
      refine rs [2] S (fun w1 S => ?_)
      refine pu 0 49 ?_
      refine lt 1 S ?_
      refine pu 2 51 ?_
      refine pu 3 2 ?_
      refine ls 4 S (fun w2 S => ?_)
      refine pu 5 4 ?_
      refine dn ?_
      go_wp2
      have q6 := R_C (S.outR (.there .here))
      have q5 := R_C (S.outR .here)
      have e5 := h5.out
      have e6 := h6.out
      subst e5 e6
      exact rt S ⟨_, _, _, _, rfl, q6, q5, S.below⟩
end Go.Proofs.YtidglmocekghmaaDoor.Pr
end
section
namespace Go.Proofs.YtidglmocekghmaaDoor.Pr
open Go.RowKit Go.Proofs.YtidglmocekghmaaDoorW.PrintWords Go.Proofs.YtidglmocekghmaaDoorW.PrintLast Go.Proofs.YtidglmocekghmaaDoorW.PrintMore
set_option linter.unusedVariables false
set_option linter.unusedSimpArgs false
theorem wordB_nil : wordB [] = 0 := by rfl
theorem wordsB_nil : ∀ n, wordsB n [] = List.replicate n 0
 | 0 => rfl
 | n + 1 => by rw [wordsB, List.take_nil, List.drop_nil, wordsB_nil n, wordB_nil, List.replicate_succ]
theorem wordsE_le (e c : Int) (c0 : 0 ≤ c) (c1 : c ≤ 536870911) : 0 ≤ wordsE e c ∧ wordsE e c ≤ 536870912 := wordsE_bd e c c0 c1
set_option maxRecDepth 100000 in
set_option maxHeartbeats 4000000 in
theorem shallow_l (n : S37) (A3 A4 : Option Addr) (c3 c4 : Nat) (w : World) (h : k37.K w n (ndC n A3 c3 A4 c4)) (h0 : n.f0 = 2) (h1 : n.f1 ≠ 7) (hb : ∀ x ∈ n.f3, 0 ≤ x ∧ x < 256) (c0 : 0 ≤ n.f2) (c1 : n.f2 ≤ 536870911)
    (h3 : n.f3.length ≤ 8 * (wordsE n.f1 n.f2).toNat) (h6 : n.f1 = 6 → n.f3 = [] ∧ (n.f4.length : Int) = n.f2) (hk : n.f4.length ≤ 536870911) :
    Calls Tryd.prog 48 #[ndV n A3 c3 A4 c4] w (ShV w n) := by
  obtain ⟨-, g3, -, -⟩ := K_C3 h
  have S := Sep.start w
  have hbd := wordsE_le n.f1 n.f2 c0 c1
  have hW : shallowW n = wordsB (wordsE n.f1 n.f2).toNat n.f3 := by
    unfold shallowW
    rw [if_neg (by omega), if_neg h1]
    by_cases e6 : n.f1 = 6
    · obtain ⟨q1, q2⟩ := h6 e6
      rw [if_pos e6, q1, wordsB_nil, e6, ← q2]
      congr 1
      unfold wordsE bitsE
      simp
      omega
    · rw [if_neg e6]
  have hA : atW n = atS 0 n.f4.length := by unfold atW; rw [if_neg (by omega), if_neg h1]
  have hP : ptrV n = ptL 0 n.f1 n.f2 := by unfold ptrV; rw [if_neg (by omega), if_neg h1]
  unfold ShV
  rw [hW, hA, hP]
  have HO := fun w' => Lib.hid (obj13_any n A3 A4 c3 c4 w' h0 h1 c0 c1)
  have HPD := fun w' (hw : Below w.heap.size w w') => Lib.hid (padded_any A3 c3 n.f3 (wordsE n.f1 n.f2).toNat w' (Kd.C_below g3 hw) hb (by omega) h3)
  rw [Int.toNat_of_nonneg hbd.1] at HPD
  generalize wordsE n.f1 n.f2 = z at *
  have HL := Lib.hid (wordsB_len z.toNat n.f3)
  obtain ⟨f0, f1, f2, f3, l⟩ := n
  dsimp only [ndV] at *
  generalize wordsB z.toNat f3 = D at *
  obtain ⟨m3, hm3⟩ : ∃ m, f3.length = m := ⟨_, rfl⟩
  obtain ⟨m, hm⟩ : ∃ m, l.length = m := ⟨_, rfl⟩
  rw [hm3] at HPD HO ⊢
  rw [hm] at HO hk ⊢
  subst h0
  have t1 : (f1 != 7) = true := bne_iff_ne.2 h1
  clear hW hA hP g3 h hm hm3 hb h1 h3 h6 hbd c0 c1
  go_enter Tryd.func48, Tryd.ntmps48
  go_wp2_with (first | go_skip | ((with_reducible refine wl ?_); first | (refine sn S (fun g w1 S => ?_); first | ((fail_if_success (have := gn)); revert g; intro gn S) | ((fail_if_success (have := gr)); revert g; intro gr S) | ((fail_if_success (have := gp)); revert g; intro gp S)) | refine ss S (fun w1 S => ?_) | refine sl S ?_ | refine sa S ?_))
  refine rs [2] S (fun w1 S => ?_)
  refine pu 0 62 ?_
  refine lt 1 S ?_
  refine lt 2 S ?_
  refine lc 3 65 Tryd.func69 (HO _).out (fun r' w2 hT => ?_)
  obtain ⟨rfl, hb⟩ := hT
  replace S := S.call hb
  refine ⟨_, rfl, S.kpq 0, _, rfl, ?_⟩
  simp only [Act.put, List.setIfInBounds_toArray, List.set_cons_zero, List.set_cons_succ]
  refine lc 4 66 Tryd.func68 (HPD _ S.below).out (fun r' w2 hT => ?_)
  obtain ⟨v, rfl, hR, hb⟩ := hT
  replace S := S.push (a := .row (Kd.int .u64) 32 _ D) hb hR
  refine ⟨_, rfl, S.kpq 1, _, rfl, ?_⟩
  simp only [Act.put, List.setIfInBounds_toArray, List.set_cons_zero, List.set_cons_succ]
  refine pu 5 9 ?_
  refine dn ?_
  go_wp2
  clear t1
  simp only [List.getElem_toArray, List.getElem_cons_zero, List.getElem_cons_succ]
  have S := Lib.hid (S.nil (Kd.int .i64) 3)
  go_loopw [6, 10] (fun va k wr => ∃ (j : Nat), j ≤ m ∧ k = .int .i64 j ∧ Hid (Sep w wr [.row (Kd.int .i64) 3 va (atS 0 j), .row (Kd.int .u64) 32 v D, .box gp #[.int .i64 1, .int .i64 0, .int .i64 0, .int .i64 0, .int .i64 f1, .int .i64 f2, .bool false, .int .i64 0, .int .u32 0, .int .u32 0] 67, .box gr #[.int .i64 0, .int .i64 0, .int .i64 0, .int .i64 0, .int .i64 0, .int .i64 0, .bool false, .int .i64 0, .int .u32 0, .int .u32 0] 67, .box gn #[.int .i64 2, .int .i64 f1, .int .i64 f2, .slice A3 m3 c3, .slice A4 m c4] 37])) (fun _ k _ => m - (intOf k).toNat)
  case atStart => exact ⟨0, Nat.zero_le _, rfl, by simpa [atS] using S⟩
  case round =>
    clear S
    obtain ⟨j, hj, rfl, S⟩ := hrel
    have S := S.out
    obtain ⟨A5, n5, c5, rfl, h5⟩ := R_sl (S.outR .here)
    obtain ⟨A6, n6, c6, rfl, h6⟩ := R_sl (S.outR (.there .here))
    by_cases hjl : j < m
    · have HY : Hid (atS 0 (j + 1) = atS 0 j ++ [(j : Int)]) := Lib.hid (by rw [atS_succ, Nat.zero_add])
      have HB5 : Hid ((atS 0 j).length ≤ 536870911) := Lib.hid (by rw [atS_len]; omega)
      clear h5 h6
      go_wp2_with (first | go_skip | ((with_reducible refine wl ?_); first | refine sl S ?_) | ((with_reducible refine gate_builtin (b := .append) (xs := #[.tmp 74, .tmp 76]) rfl ?_); at_builtin; refine sp_append (p := (j : Int)) ((S.one (Value.int .i64) (fun _ => rfl) (j : Int)).swap) rfl rfl Tryd.underlying83 info3 rfl (by decide) (by omega) rfl rfl (by have := HB5.out; omega) (fun v1 w1 S => ?_)))
      go_roundw
      case rel => exact ⟨j + 1, by omega, by go_num, by rw [HY.out]; exact Lib.hid S⟩
      case measure => simp [intOf]; omega
    · obtain rfl : j = m := by omega
      go_wp2_with (first | go_skip | ((with_reducible refine wl ?_); first | refine sl S ?_))
      refine rs [2] S (fun w1 S => ?_)
      refine pu 0 78 ?_
      refine lt 1 S ?_
      refine pu 2 80 ?_
      refine pu 3 2 ?_
      refine ls 4 S (fun w2 S => ?_)
      refine pu 5 4 ?_
      refine dn ?_
      go_wp2
      have q6 := R_C (S.outR (.there .here))
      have q5 := R_C (S.outR .here)
      have e5 := h5.out
      have e6 := h6.out
      subst e5 e6
      exact rt S ⟨_, _, _, _, rfl, q6, q5, S.below⟩
end Go.Proofs.YtidglmocekghmaaDoor.Pr
end
section
namespace Go.Proofs.YtidglmocekghmaaDoor.Pr
open Go.RowKit Go.Proofs.YtidglmocekghmaaDoorW.PrintWords Go.Proofs.YtidglmocekghmaaDoorW.PrintLast Go.Proofs.YtidglmocekghmaaDoorW.PrintMore
set_option linter.unusedVariables false
set_option linter.unusedSimpArgs false
theorem shallowE_snoc (A B : Nat) (x : S37) : ∀ l : List S37, shallowE A B (l ++ [x]) = shallowE A B l ++ (wordsB A x.f3 ++ List.replicate B 0)
 | [] => by simp [shallowE]
 | y :: l => by rw [List.cons_append, shallowE, shallowE_snoc A B x l, shallowE]; simp only [List.append_assoc]
theorem atE_snoc (A B : Nat) (x : S37) : ∀ (l : List S37) (q : Nat), atE A B (l ++ [x]) q = atE A B l q ++ atS (q + l.length * (A + B) + A) x.f4.length
 | [], q => by simp [atE]
 | y :: l, q => by rw [List.cons_append, atE, atE_snoc A B x l, atE, List.append_assoc, List.length_cons, Nat.add_mul, Nat.one_mul, show q + (A + B) + l.length * (A + B) + A = q + (l.length * (A + B) + (A + B)) + A by omega]
theorem atE_len (A B : Nat) : ∀ (l : List S37) (q : Nat), (∀ x ∈ l, x.f4.length ≤ B) → (atE A B l q).length ≤ l.length * (A + B)
 | [], q, _ => by simp [atE]
 | y :: l, q, h => by
  have h1 := atE_len A B l (q + (A + B)) (fun x hx => h x (List.mem_cons_of_mem _ hx))
  have h2 := h y List.mem_cons_self
  rw [atE, List.length_append, atS_len, List.length_cons, Nat.add_mul, Nat.one_mul]
  omega
theorem maxD_le {l : List S37} {x : S37} (hx : x ∈ l) : x.f3.length / 8 ≤ maxD l := by
 induction l with
 | nil => cases hx
 | cons y l ih =>
  unfold maxD
  rcases List.mem_cons.1 hx with rfl | hx
  ·omega
  ·have := ih hx; omega
structure ShR (l : List S37) (A B : Nat) (tag : Int) (j : Nat) (W : List Int) (P : List Int) (Wn Pn D : List Int) (q4 : Nat) : Prop where
 w : W = tag :: shallowE A B (l.take j)
 p : P = atE A B (l.take j) 1
 wn : Wn = W ++ (D ++ List.replicate B 0)
 pn : Pn = P ++ atS (W.length + A) q4
 dl : D.length = A
 q : q4 ≤ B
 wl : W.length + (A + B) ≤ 536870912
 pl : P.length + B ≤ 536870912
theorem shR {l : List S37} {A B : Nat} {tag : Int} (hA : ∀ x ∈ l, x.f3.length / 8 ≤ A) (hB : ∀ x ∈ l, x.f4.length ≤ B) (hm : l.length * (A + B) ≤ 536870911) (j : Nat) (x : S37) (hx : l[j]? = some x) :
  ShR l A B tag j (tag :: shallowE A B (l.take j)) (atE A B (l.take j) 1) (tag :: shallowE A B (l.take (j + 1))) (atE A B (l.take (j + 1)) 1) (wordsB A x.f3) x.f4.length := by
 obtain ⟨hj, rfl⟩ := List.getElem?_eq_some_iff.1 hx
 have h1 : (l.take j).length = j := by rw [List.length_take]; omega
 have h2 : (j + 1) * (A + B) ≤ l.length * (A + B) := Nat.mul_le_mul_right _ hj
 rw [Nat.add_mul, Nat.one_mul] at h2
 have h3 := shallowE_len A B (l.take j)
 rw [h1] at h3
 have h4 := atE_len A B (l.take j) 1 (fun x hx => hB x (List.mem_of_mem_take hx))
 rw [h1] at h4
 refine ⟨rfl, rfl, ?_, ?_, wordsB_len _ _, hB _ (List.getElem_mem hj), ?_, by omega⟩
 ·rw [take_snoc l j hj, shallowE_snoc]; rfl
 ·rw [take_snoc l j hj, atE_snoc, h1, List.length_cons, h3, show j * (A + B) + 1 = 1 + j * (A + B) by omega]
 ·rw [List.length_cons, h3]; omega
set_option maxRecDepth 100000 in
set_option maxHeartbeats 4000000 in
theorem shallow_c (n : S37) (A3 A4 : Option Addr) (c3 c4 : Nat) (w : World) (h : k37.K w n (ndC n A3 c3 A4 c4)) (h0 : n.f0 = 2) (h1 : n.f1 = 7) (hb : ∀ x ∈ n.f4, (∀ y ∈ x.f3, 0 ≤ y ∧ y < 256) ∧ x.f3.length % 8 = 0) (hn : n.f2 = n.f4.length) (hk : n.f4.length ≤ 536870911)
    (hA : maxD n.f4 ≤ 65535) (hB : maxP n.f4 ≤ 65535) (hm : n.f4.length * (maxD n.f4 + maxP n.f4) ≤ 536870911) :
    Calls Tryd.prog 48 #[ndV n A3 c3 A4 c4] w (ShV w n) := by
  obtain ⟨-, -, -, g4⟩ := K_C3 h
  have S := Sep.start w
  have hW : shallowW n = encS n.f4.length (maxD n.f4) (maxP n.f4) :: shallowE (maxD n.f4) (maxP n.f4) n.f4 := by unfold shallowW; rw [if_neg (by omega), if_pos h1]
  have hAt : atW n = atE (maxD n.f4) (maxP n.f4) n.f4 1 := by unfold atW; rw [if_neg (by omega), if_pos h1]
  have hP : ptrV n = ptL 0 7 (n.f4.length * (maxD n.f4 + maxP n.f4) : Nat) := by unfold ptrV; rw [if_neg (by omega), if_pos h1]
  unfold ShV
  rw [hW, hAt, hP]
  have HU := fun w' (hw : Below w.heap.size w w') => Lib.hid (uniform_any n A3 A4 c3 c4 w' (k37.K_below (below_step (Below.refl _ _) (hw.mono (Nat.le_refl _))) h))
  have HE := fun w' => Lib.hid (encode_s n.f4.length (maxD n.f4) (maxP n.f4) w' (by omega) (by omega) (by omega) (by omega) (by omega) (by omega))
  have HR := Lib.hid (fun j x hj => shR (tag := encS n.f4.length (maxD n.f4) (maxP n.f4)) (fun x hx => maxD_le (l := n.f4) hx) (fun x hx => maxP_le hx) hm j x hj)
  have HK := Lib.hid (fun i hi => kid_at g4 i hi)
  have HX : Hid (∀ i (hi : i < n.f4.length), (∀ y ∈ n.f4[i].f3, 0 ≤ y ∧ y < 256) ∧ n.f4[i].f3.length ≤ 8 * maxD n.f4) := Lib.hid (fun i hi => by
    have h2 := List.getElem_mem hi
    have h3 := maxD_le h2
    have h4 := hb _ h2
    exact ⟨h4.1, by omega⟩)
  have HF : Hid (encS n.f4.length (maxD n.f4) (maxP n.f4) :: shallowE (maxD n.f4) (maxP n.f4) (n.f4.take n.f4.length) = encS n.f4.length (maxD n.f4) (maxP n.f4) :: shallowE (maxD n.f4) (maxP n.f4) n.f4 ∧ atE (maxD n.f4) (maxP n.f4) (n.f4.take n.f4.length) 1 = atE (maxD n.f4) (maxP n.f4) n.f4 1 ∧ (encS n.f4.length (maxD n.f4) (maxP n.f4) :: shallowE (maxD n.f4) (maxP n.f4) n.f4).length = n.f4.length * (maxD n.f4 + maxP n.f4) + 1) := Lib.hid ⟨by rw [List.take_length], by rw [List.take_length], by rw [List.length_cons, shallowE_len]⟩
  obtain ⟨f0, f1, f2, f3, l⟩ := n
  dsimp only [ndV] at *
  subst h0 h1 hn
  generalize maxD l = A at *
  generalize maxP l = B at *
  generalize f3.length = m3 at *
  obtain ⟨m, hmm⟩ : ∃ m, l.length = m := ⟨_, rfl⟩
  rw [hmm] at HU HE HF hk hm HR ⊢
  have HH := Lib.hid hmm
  generalize encS m A B = tag at *
  obtain ⟨Z, hZ⟩ : ∃ Z, m * (A + B) = Z := ⟨_, rfl⟩
  rw [hZ] at HF hm ⊢
  clear hW hAt hP g4 h hmm hb hZ
  go_enter Tryd.func48, Tryd.ntmps48
  go_wp2_with (first | go_skip | ((with_reducible refine wl ?_); first | (refine sn S (fun g w1 S => ?_); first | ((fail_if_success (have := gn)); revert g; intro gn S) | ((fail_if_success (have := gr)); revert g; intro gr S) | ((fail_if_success (have := gp)); revert g; intro gp S)) | refine ss S (fun w1 S => ?_) | refine sl S ?_ | refine sa S ?_) | ((with_reducible refine (HU _ S.below).out.mono ?_); rintro r w' ⟨rfl, hb⟩; replace S := S.call hb) | ((with_reducible refine (HE _).out.mono ?_); rintro r w' ⟨rfl, hb⟩; replace S := S.call hb) | ((with_reducible refine gate_dst (N := 96) rfl ?_); refine sp_lit (Kd.int .u64) 32 (N := 96) rfl rfl S [tag] [.int .u64 tag] ?hr ?hp (by simp) (fun g w1 S => ?_); (case hr => first | (go_simp; done) | (go_simp; rfl)); (case hp => exact Reps.snoc (Reps.none _ _) rfl rfl)))
  have S := Lib.hid (S.nil (Kd.int .i64) 3)
  go_loopw [6, 15, 16] (fun va vw k wr => ∃ (j : Nat), j ≤ m ∧ k = .int .i64 j ∧ Hid (Sep w wr [.row (Kd.int .i64) 3 va (atE A B (l.take j) 1), .row (Kd.int .u64) 32 vw (tag :: shallowE A B (l.take j)), .box gp #[.int .i64 1, .int .i64 0, .int .i64 0, .int .i64 0, .int .i64 7, .int .i64 m, .bool false, .int .i64 0, .int .u32 0, .int .u32 0] 67, .box gr #[.int .i64 0, .int .i64 0, .int .i64 0, .int .i64 0, .int .i64 0, .int .i64 0, .bool false, .int .i64 0, .int .u32 0, .int .u32 0] 67, .box gn #[.int .i64 2, .int .i64 7, .int .i64 m, .slice A3 m3 c3, .slice A4 m c4] 37])) (fun _ _ k _ => m - (intOf k).toNat)
  case atStart => exact ⟨0, Nat.zero_le _, rfl, by simpa [atE, shallowE] using S⟩
  case round =>
    clear S
    obtain ⟨j, hj, rfl, S⟩ := hrel
    have S := S.out
    obtain ⟨A5, n5, c5, rfl, h5⟩ := R_sl (S.outR .here)
    obtain ⟨A6, n6, c6, rfl, h6⟩ := R_sl (S.outR (.there .here))
    by_cases hjl : j < m
    · obtain ⟨ad, B3, d3, B4, d4, rfl, hN⟩ := HK.out j (by rw [HH.out]; exact hjl)
      have hR := HR.out j _ (List.getElem?_eq_getElem (by rw [HH.out]; exact hjl))
      obtain ⟨x1, x2⟩ := HX.out j (by rw [HH.out]; exact hjl)
      have hv3 := hN.h3
      have hv4 := hN.h4
      have b3 := hN.g3.2.1
      have HPD := fun w' (hw : Below w.heap.size w w') => Lib.hid (padded_any B3 d3 _ A w' (Kd.C_below hN.g3 hw) x1 (by omega) x2)
      obtain ⟨x, hx⟩ : ∃ x, l[j]'(by rw [HH.out]; exact hjl) = x := ⟨_, rfl⟩
      rw [hx] at hv3 hv4 b3 HPD x2
      rw [hx] at hR
      obtain ⟨Wn, hWn⟩ : ∃ X, tag :: shallowE A B (l.take (j + 1)) = X := ⟨_, rfl⟩
      obtain ⟨Pn, hPn⟩ : ∃ X, atE A B (l.take (j + 1)) 1 = X := ⟨_, rfl⟩
      rw [hWn, hPn] at hR
      have HN := Lib.hid hR
      have HWn := Lib.hid hWn
      have HPn := Lib.hid hPn
      clear hx hR hN x1 hWn hPn
      generalize tag :: shallowE A B (l.take j) = Wj at *
      generalize atE A B (l.take j) 1 = Pj at *
      generalize wordsB A x.f3 = D at *
      generalize x.f3.length = q3 at *
      generalize x.f4.length = q4 at *
      go_wp2_with (first | go_skip | ((with_reducible refine wl ?_); first | refine sl S ?_ | refine sx S hv3 ?_ | refine sx S hv4 ?_) | ((with_reducible refine (HPD _ S.below).out.mono ?_); rintro r w' ⟨v, rfl, hR, hb⟩; obtain ⟨A7, c7, rfl⟩ := Kd.R_slice hR; replace S := S.call hb; have HC7 := Lib.hid (R_C hR)) | ((with_reducible refine gate_builtin (b := .append) (xs := #[.tmp 104, .tmp 112]) rfl ?_); at_builtin; refine sp_rows S.swap rfl rfl Tryd.underlying22 info32 rfl (by decide) (by omega) rfl rfl HC7.out (fun _ _ h => h) (by have := HN.out.wl; have := HN.out.dl; omega) (fun v1 w1 S => ?_)))
      have S := Lib.hid S.swap
      go_loopw [6, 15, 17] (fun va vw k wr => ∃ (i : Nat), i ≤ B ∧ k = .int .i64 i ∧ Hid (Sep w wr [.row (Kd.int .i64) 3 va (Pj ++ atS (Wj.length + A) (min i q4)), .row (Kd.int .u64) 32 vw (Wj ++ D ++ List.replicate i 0), .box gp #[.int .i64 1, .int .i64 0, .int .i64 0, .int .i64 0, .int .i64 7, .int .i64 m, .bool false, .int .i64 0, .int .u32 0, .int .u32 0] 67, .box gr #[.int .i64 0, .int .i64 0, .int .i64 0, .int .i64 0, .int .i64 0, .int .i64 0, .bool false, .int .i64 0, .int .u32 0, .int .u32 0] 67, .box gn #[.int .i64 2, .int .i64 7, .int .i64 m, .slice A3 m3 c3, .slice (some ad) m c4] 37])) (fun _ _ k _ => B - (intOf k).toNat)
      case atStart => exact ⟨0, Nat.zero_le _, rfl, by simpa [atS] using S⟩
      case round =>
        clear S
        obtain ⟨i, hi, rfl, S⟩ := hrel
        have S := S.out
        obtain ⟨A8, n8, c8, rfl, h8⟩ := R_sl (S.outR .here)
        obtain ⟨A9, n9, c9, rfl, h9⟩ := R_sl (S.outR (.there .here))
        have H9 : Hid (n9 = Wj.length + A + i) := Lib.hid (by rw [h9.out, List.length_append, List.length_append, HN.out.dl, List.length_replicate])
        by_cases hil : i < B
        · have HW2 : Hid (Wj ++ D ++ List.replicate (i + 1) 0 = Wj ++ D ++ List.replicate i 0 ++ [0]) := Lib.hid (by rw [List.replicate_succ', List.append_assoc (Wj ++ D)])
          have HB8 : Hid ((Pj ++ atS (Wj.length + A) (min i q4)).length ≤ 536870912) := Lib.hid (by have := HN.out.pl; rw [List.length_append, atS_len]; omega)
          have HB9 : Hid ((Wj ++ D ++ List.replicate i 0).length ≤ 536870912) := Lib.hid (by have := HN.out.wl; rw [← h9.out, H9.out]; omega)
          by_cases hq : i < q4
          · have HP2 : Hid (Pj ++ atS (Wj.length + A) (min (i + 1) q4) = Pj ++ atS (Wj.length + A) (min i q4) ++ [(n9 : Int)]) := Lib.hid (by rw [Nat.min_eq_left (by omega), Nat.min_eq_left (by omega), atS_succ, ← List.append_assoc, H9.out])
            clear h8 h9 H9
            go_wp2_with (first | go_skip | ((with_reducible refine wl ?_); first | refine sl S ?_ | refine sx S hv4 ?_) | ((with_reducible refine gate_builtin (b := .append) (xs := #[.tmp 128, .tmp 131]) rfl ?_); at_builtin; refine sp_append (p := (n9 : Int)) ((S.one (Value.int .i64) (fun _ => rfl) (n9 : Int)).swap) rfl rfl Tryd.underlying83 info3 rfl (by decide) (by omega) rfl rfl (by have := HB8.out; omega) (fun v1 w1 S => ?_); replace S := S.swap) | ((with_reducible refine gate_builtin (b := .append) (xs := #[.tmp 133, .tmp 134]) rfl ?_); at_builtin; refine sp_append (p := (0 : Int)) ((S.one (Value.int .u64) (fun _ => rfl) (0 : Int)).swap) rfl rfl Tryd.underlying22 info32 rfl (by decide) (by omega) rfl rfl (by have := HB9.out; omega) (fun v1 w1 S => ?_); replace S := S.swap))
            go_roundw
            case rel => exact ⟨i + 1, by omega, by go_num, by rw [HW2.out, HP2.out]; exact Lib.hid S⟩
            case measure => simp [intOf]; omega
          · have HP2 : Hid (Pj ++ atS (Wj.length + A) (min (i + 1) q4) = Pj ++ atS (Wj.length + A) (min i q4)) := Lib.hid (by rw [Nat.min_eq_right (by omega), Nat.min_eq_right (by omega)])
            clear h8 h9 H9
            replace S := S.swap
            go_wp2_with (first | go_skip | ((with_reducible refine wl ?_); first | refine sl S ?_ | refine sx S hv4 ?_) | ((with_reducible refine gate_builtin (b := .append) (xs := #[.tmp 133, .tmp 134]) rfl ?_); at_builtin; refine sp_append (p := (0 : Int)) ((S.one (Value.int .u64) (fun _ => rfl) (0 : Int)).swap) rfl rfl Tryd.underlying22 info32 rfl (by decide) (by omega) rfl rfl (by have := HB9.out; omega) (fun v1 w1 S => ?_); replace S := S.swap))
            go_roundw
            case rel => exact ⟨i + 1, by omega, by go_num, by rw [HW2.out, HP2.out]; exact Lib.hid S⟩
            case measure => simp [intOf]; omega
        · obtain rfl : i = B := by omega
          have HE1 : Hid (Pj ++ atS (Wj.length + A) (min i q4) = Pn) := Lib.hid (by rw [Nat.min_eq_right HN.out.q, HN.out.pn])
          have HE2 : Hid (Wj ++ D ++ List.replicate i 0 = Wn) := Lib.hid (by rw [HN.out.wn, List.append_assoc])
          rw [HE1.out, HE2.out] at S
          clear h8 h9 H9 HE1 HE2 HN
          go_wp2
          go_roundw
          case rel => exact ⟨j + 1, by omega, by go_num, by rw [HWn.out, HPn.out]; exact Lib.hid S⟩
          case measure => simp [intOf]; omega
    · obtain rfl : j = m := by omega
      rw [HF.out.1, HF.out.2.1] at S
      have H6 : Hid (n6 = Z + 1) := Lib.hid (by rw [h6.out, HF.out.1, HF.out.2.2])
      have H6I : ((n6 : Int) - 1) = (Z : Int) := by have := H6.out; omega
      rw [HF.out.1] at h6
      rw [HF.out.2.1] at h5
      have hz0 : (Z : Int) ≤ 536870911 := by omega
      clear H6 HE
      have S := S.pick 1 rfl rfl
      go_wp2_with (first | go_skip | ((with_reducible refine wl ?_); first | refine ss S (fun w1 S => ?_) | refine sl S ?_))
      refine rs [2] S (fun w1 S => ?_)
      refine pu 0 140 ?_
      refine lt 1 S ?_
      refine pu 2 142 ?_
      refine pu 3 2 ?_
      refine ls 4 S (fun w2 S => ?_)
      refine pu 5 4 ?_
      refine dn ?_
      go_wp2
      have q6 := R_C (S.outR .here)
      have q5 := R_C (S.outR (.there .here))
      have e5 := h5.out
      have e6 := h6.out
      subst e5 e6
      exact rt S ⟨_, _, _, _, rfl, q6, q5, S.below⟩
end Go.Proofs.YtidglmocekghmaaDoor.Pr
end
section
namespace Go.Proofs.YtidglmocekghmaaDoor.Pr
open Go.RowKit Go.Proofs.YtidglmocekghmaaDoorW.PrintWords Go.Proofs.YtidglmocekghmaaDoorW.PrintLast Go.Proofs.YtidglmocekghmaaDoorW.PrintMore
set_option linter.unusedVariables false
set_option linter.unusedSimpArgs false
def plAll : List S37 → List Int → Nat → List Int → List Int
 | x :: l, q :: ps, st, out => plAll l ps st (placeW x out (st + q.toNat))
 | _, _, _, out => out
theorem atS_cons (q n : Nat) : atS q (n + 1) = (q : Int) :: atS (q + 1) n := by
 simp only [atS, List.range_succ_eq_map, List.map_cons, List.map_map, Nat.add_zero]
 congr 1
 apply List.map_congr_left
 intro i _
 simp only [Function.comp]
 omega
theorem plAll_append : ∀ (l : List S37) (ps : List Int) (m : List S37) (qs : List Int) (st : Nat) (out : List Int), l.length = ps.length → plAll (l ++ m) (ps ++ qs) st out = plAll m qs st (plAll l ps st out)
 | [], [], m, qs, st, out, _ => rfl
 | x :: l, q :: ps, m, qs, st, out, h => by
  simp only [List.cons_append, plAll]
  exact plAll_append l ps m qs st _ (by simpa using h)
 | [], _ :: _, _, _, _, _, h => by simp at h
 | _ :: _, [], _, _, _, _, h => by simp at h
theorem plAll_snoc (l : List S37) (ps : List Int) (x : S37) (q : Int) (st : Nat) (out : List Int) (h : l.length = ps.length) : plAll (l ++ [x]) (ps ++ [q]) st out = placeW x (plAll l ps st out) (st + q.toNat) := by
 rw [plAll_append _ _ _ _ _ _ h]
 rfl
theorem placesW_all : ∀ (l : List S37) (out : List Int) (st q : Nat), placesW l out (st + q) = plAll l (atS q l.length) st out
 | [], out, st, q => by simp [placesW, plAll]
 | x :: l, out, st, q => by
  rw [placesW, List.length_cons, atS_cons, plAll, Int.toNat_natCast, ← placesW_all l _ st (q + 1)]
  rfl
theorem placeE_all (A B : Nat) : ∀ (l : List S37) (out : List Int) (st q : Nat), placeE A B l out (st + q) = plAll (l.flatMap (·.f4)) (atE A B l q) st out
 | [], out, st, q => by simp [placeE, plAll, atE]
 | ⟨_, _, _, b, k⟩ :: l, out, st, q => by
  rw [placeE, atE, List.flatMap_cons, plAll_append _ _ _ _ _ _ (by rw [atS_len]), ← placesW_all k out st (q + A), ← placeE_all A B l _ st (q + (A + B))]
  simp only [Nat.add_assoc]
theorem placeW_all (n : S37) (out : List Int) (a : Nat) (h0 : n.f0 ≠ 0) (hk : n.f0 = 1 ∨ (n.f0 = 2 ∧ (n.f1 = 7 ∨ n.f1 = 6 ∨ n.f4 = []))) : placeW n out a = plAll (targetsL n) (atW n) out.length (putW n out a) := by
 obtain ⟨k, e, m, b, l⟩ := n
 dsimp only at h0 hk
 unfold placeW targetsL atW
 rw [if_neg h0]
 dsimp only
 by_cases h1 : k = 1
 ·rw [if_pos h1, if_neg (by omega), if_pos h1, placesW_all]
 ·rcases hk with hk | ⟨h2, hk⟩
  ·exact (h1 hk).elim
  rw [if_neg h1, if_neg h1]
  by_cases h7 : e = 7
  ·rw [if_pos h7, if_pos ⟨h2, h7⟩, if_pos h7, placeE_all]
  ·rw [if_neg h7, if_neg (show ¬ (k = 2 ∧ e = 7) from fun h => h7 h.2), if_neg h7]
   by_cases h6 : e = 6
   ·rw [if_pos h6]
    exact placesW_all l _ _ 0
   ·rw [if_neg h6]
    rcases hk with hk | hk | hk
    ·exact (h7 hk).elim
    ·exact (h6 hk).elim
    ·subst hk
     rfl
theorem atE_pair (A B : Nat) : ∀ (l : List S37) (q : Nat), (atE A B l q).length = (l.flatMap (·.f4)).length
 | [], q => rfl
 | x :: l, q => by rw [atE, List.flatMap_cons, List.length_append, List.length_append, atS_len, atE_pair A B l]
theorem atW_pair (n : S37) (hk : n.f0 = 1 ∨ n.f0 = 2) : (atW n).length = (targetsL n).length := by
 unfold atW targetsL
 by_cases h1 : n.f0 = 1
 ·rw [if_pos h1, if_neg (by omega), atS_len]
 ·rw [if_neg h1]
  by_cases h7 : n.f1 = 7
  ·rw [if_pos h7, if_pos ⟨by omega, h7⟩, atE_pair]
  ·rw [if_neg h7, if_neg (by omega), atS_len]
theorem atS_mem {q n : Nat} {x : Int} (h : x ∈ atS q n) : ∃ k : Nat, x = k ∧ q ≤ k ∧ k < q + n := by
 unfold atS at h
 obtain ⟨i, hi, rfl⟩ := List.mem_map.1 h
 exact ⟨q + i, rfl, by omega, by have := List.mem_range.1 hi; omega⟩
theorem atE_mem {A B : Nat} : ∀ {l : List S37} {q : Nat} {x : Int}, (∀ y ∈ l, y.f4.length ≤ B) → x ∈ atE A B l q → ∃ k : Nat, x = k ∧ k < q + l.length * (A + B)
 | [], _, _, _, h => by simp [atE] at h
 | y :: l, q, x, hB, h => by
  rw [atE] at h
  rw [List.length_cons, Nat.add_mul, Nat.one_mul]
  rcases List.mem_append.1 h with h | h
  ·obtain ⟨k, rfl, _, h2⟩ := atS_mem h
   have := hB y List.mem_cons_self
   exact ⟨k, rfl, by omega⟩
  ·obtain ⟨k, rfl, h2⟩ := atE_mem (fun y hy => hB y (List.mem_cons_of_mem _ hy)) h
   exact ⟨k, rfl, by omega⟩
theorem atW_mem {n : S37} (h6 : n.f0 = 1 ∨ n.f1 = 7 ∨ n.f1 = 6 ∨ n.f4 = []) {x : Int} (h : x ∈ atW n) : ∃ k : Nat, x = k ∧ k < (shallowW n).length := by
 unfold atW at h
 unfold shallowW
 by_cases h1 : n.f0 = 1
 ·rw [if_pos h1] at h ⊢
  obtain ⟨k, rfl, _, h2⟩ := atS_mem h
  exact ⟨k, rfl, by rw [List.length_append, wordsB_len, List.length_replicate]; omega⟩
 ·rw [if_neg h1] at h ⊢
  by_cases h7 : n.f1 = 7
  ·rw [if_pos h7] at h ⊢
   obtain ⟨k, rfl, h2⟩ := atE_mem (fun y hy => maxP_le hy) h
   exact ⟨k, rfl, by rw [List.length_cons, shallowE_len]; omega⟩
  ·rw [if_neg h7] at h ⊢
   obtain ⟨k, rfl, _, h2⟩ := atS_mem h
   by_cases e6 : n.f1 = 6
   ·rw [if_pos e6]
    exact ⟨k, rfl, by rw [List.length_replicate]; omega⟩
   ·rcases h6 with h6 | h6 | h6 | h6
    ·exact (h1 h6).elim
    ·exact (h7 h6).elim
    ·exact (e6 h6).elim
    ·rw [h6] at h2
     simp at h2
theorem run_load_agg {P : Program} {w : World} {t : TypeId} {ad : Addr} {cs : List Value} (ht : aggB P t = true) (hs : (P.info? t).map (·.size) = some cs.length) (hc : ∀ j v, cs[j]? = some v → w.cell? (ad.add j) = some v) : (Instr.loadAt t (.pointer (some ad))).run P w = .ok (.agg cs.toArray) w := by
 unfold aggB at ht
 cases hu : P.underlying t with
 | none => rw [hu] at ht; cases ht
 | some d =>
  cases hq : P.info? t with
  | none => simp [hq] at hs
  | some i =>
   have hi : i.size = cs.length := by simpa [hq] using hs
   have hagg : (isAgg t).run P w = .ok true w := by
    unfold isAgg
    rw [Sem.run_bind, run_underlying hu w]
    rw [hu] at ht
    cases d <;> simp_all
   have hl := run_loadCells_list (P := P) w ad cs hc
   simp [Instr.loadAt, Instr.sureAddr, loadVar, Sem.run_bind, hagg, sizeOf, typeInfo, hq, hi, hl]
theorem NdAt.cells {w : World} {ad : Addr} {x : S37} {A3 A4 : Option Addr} {c3 c4 : Nat} (h : NdAt w ad x A3 c3 A4 c4) (j : Nat) (v : Value) (hj : (ndC x A3 c3 A4 c4)[j]? = some v) : w.cell? (ad.add j) = some v := by
 have hf : ∀ i, 0 < i → ad.add i = ⟨ad.block, ad.off + i, none⟩ := fun i hi => by
  have := add_field ad 0 i hi
  rw [Nat.zero_add] at this
  rw [this]
  rfl
 match j, hj with
 | 0, hj => obtain rfl := Option.some.inj hj; exact h.h0
 | 1, hj => obtain rfl := Option.some.inj hj; rw [hf 1 (by omega)]; exact h.h1
 | 2, hj => obtain rfl := Option.some.inj hj; rw [hf 2 (by omega)]; exact h.h2
 | 3, hj => obtain rfl := Option.some.inj hj; rw [hf 3 (by omega)]; exact h.h3
 | 4, hj => obtain rfl := Option.some.inj hj; rw [hf 4 (by omega)]; exact h.h4
 | j + 5, hj => simp at hj
theorem NdAt.K {w : World} {ad : Addr} {x : S37} {A3 A4 : Option Addr} {c3 c4 : Nat} (h : NdAt w ad x A3 c3 A4 c4) : k37.K w x (ndC x A3 c3 A4 c4) := k37_mk w x h.l3 h.g3 h.l4 h.g4
section
variable {P : Program} {md : Region.Mode} {ops : Array Oper} {Q : Exit → Act → World → Prop} {w0 W w w1 : World} {L : List Asr}
def BaAt (P : Program) (md : Region.Mode) (ops : Array Oper) (Q : Exit → Act → World → Prop) (i : Nat) (l l' : Array Bool) (a a' : Act) (ad : Addr) (cs : List Value) : Prop :=
 ∃ oi t p, ops[i]? = some oi ∧ l.setIfInBounds i true = l' ∧ takeB md ops [] l l' i = true ∧ oi.guard = none ∧ oi.op = .load t p ∧ a.eval p = .pointer (some ad) ∧ aggB P t = true ∧ (P.info? t).map (·.size) = some cs.length ∧ a.put oi.dst (.agg cs.toArray) = a' ∧ (∀ c v a w, Q (.panic c) (a.put oi.dst v) w → Q (.panic c) a w)
theorem baAt {i : Nat} {l l' : Array Bool} {a a' : Act} {ad : Addr} {cs : List Value} {oi : Oper} {t : TypeId} {p : Operand} (h1 : ops[i]? = some oi) (h2 : l.setIfInBounds i true = l') (h3 : takeB md ops [] l l' i = true) (h4 : oi.guard = none) (h5 : oi.op = .load t p) (h6 : a.eval p = .pointer (some ad)) (h7 : aggB P t = true) (h10 : (P.info? t).map (·.size) = some cs.length) (h8 : a.put oi.dst (.agg cs.toArray) = a') (h9 : ∀ c v a w, Q (.panic c) (a.put oi.dst v) w → Q (.panic c) a w) : BaAt P md ops Q i l l' a a' ad cs := ⟨oi, t, p, h1, h2, h3, h4, h5, h6, h7, h10, h8, h9⟩
theorem bwa (i : Nat) {ad : Addr} {cs : List Value} (hv : ∀ j v, cs[j]? = some v → w1.cell? (ad.add j) = some v) (hb : Bw w1 w) {l l' : Array Bool} {a a' : Act} {fuel : Nat} (h : wpAnyLast P md ops Q (Bw w1) [] fuel l' a' w)
    (k : BaAt P md ops Q i l l' a a' ad cs := by
      apply baAt
      case h1 => simp only [List.getElem?_toArray, List.getElem?_cons_zero, List.getElem?_cons_succ]; rfl
      case h2 => simp only [List.setIfInBounds_toArray, List.set_cons_zero, List.set_cons_succ]; rfl
      case h3 => kernel_rfl
      case h4 => rfl
      case h5 => with_reducible rfl
      case h6 => first | (go_simp; done) | (go_simp; rfl)
      case h7 => kernel_rfl
      case h10 => kernel_rfl
      case h8 => simp only [Act.put, List.setIfInBounds_toArray, List.set_cons_zero, List.set_cons_succ]; rfl
      case h9 => exact fun _ _ _ _ h => h) : wpAnyLast P md ops Q (Bw w1) [] (fuel + 1) l a w := by
  obtain ⟨oi, t, p, h1, h2, h3, h4, h5, h6, h7, h10, h8, h9⟩ := k
  refine take_ l' h1 rfl h3 (fun c a w => h9 c _ a w) (.inl ⟨want0 h4, fun w' s => ?_⟩) hb h8 h
  have hr := run_load_agg (P := P) h7 h10 (fun j v hj => pw_cell_below s (hv j v hj))
  unfold execOp
  simp only [h5, h6, Sem.run_bind, Sem.run_pure, Result.andThen_ok, hr]
end
section
variable {P : Program} {ops : Array Oper} {rest : List Oper} {o : Oper} {a a' : Act} {Q : Exit → Act → World → Prop} {w0 W : World} {L : List Asr}
def XaAt (P : Program) (ops : Array Oper) (o : Oper) (a a' : Act) (ad : Addr) (cs : List Value) : Prop := Region.wanted o (yielded ops a.tmps) = true ∧ ∃ t p, o.op = .load t p ∧ a.eval p = .pointer (some ad) ∧ aggB P t = true ∧ (P.info? t).map (·.size) = some cs.length ∧ a.put o.dst (.agg cs.toArray) = a'
theorem xaAt {ad : Addr} {cs : List Value} {t : TypeId} {p : Operand} (hw : Region.wanted o (yielded ops a.tmps) = true) (h1 : o.op = .load t p) (h2 : a.eval p = .pointer (some ad)) (h3 : aggB P t = true) (h5 : (P.info? t).map (·.size) = some cs.length) (h4 : a.put o.dst (.agg cs.toArray) = a') : XaAt P ops o a a' ad cs := ⟨hw, t, p, h1, h2, h3, h5, h4⟩
theorem sxa (S : Sep w0 W L) {ad : Addr} {cs : List Value} (hv : ∀ j v, cs[j]? = some v → w0.cell? (ad.add j) = some v) (h : wpList P ops Q rest a' W)
    (k : XaAt P ops o a a' ad cs := by
      apply xaAt
      case h1 => with_reducible rfl
      case h2 => go_simp
      case hw => first | exact want0 rfl | rfl
      case h3 => kernel_rfl
      case h5 => kernel_rfl
      case h4 => simp only [Act.put, List.setIfInBounds_toArray, List.set_cons_zero, List.set_cons_succ]; rfl) : wpList P ops Q (o :: rest) a W := by
  obtain ⟨hw, t, p, h1, h2, h3, h5, rfl⟩ := k
  refine wpList_step fun K hK => ?_
  rw [if_pos hw]
  unfold Oper.wp
  have hr := run_load_agg (P := P) h3 h5 (fun j v hj => pw_cell_below S.below (hv j v hj))
  have he : (execOp a.eval o).run P W = .ok (.value (.agg cs.toArray)) W := by
    unfold execOp
    simp only [h1, h2, Sem.run_bind, Sem.run_pure, Result.andThen_ok, hr]
  rw [he]
  exact hK _ _ h
end
theorem blk_cells {w : World} {g t : Nat} {cs : List Value} (h : w.heap[g]? = some (.cells cs.toArray t (0, 0))) (j : Nat) (v : Value) (hj : cs[j]? = some v) : w.cell? ((⟨g, 0, none⟩ : Addr).add j) = some v := by
 rw [add_zero_at, blk_cell h]
 simpa using hj
theorem R_adr {α : Type} {d : Kd α} {e b : Nat} {w : World} {ok : Nat → Prop} {v : Value} {xs : List α} (h : d.R e w b ok v xs) (h0 : 0 < xs.length) : ∃ g c, v = .slice (some ⟨g, 0, none⟩) xs.length c := by
 obtain ⟨_, inner, ho, _⟩ := h
 rcases ho.2 with ⟨rfl, hn⟩ | ⟨g, cap, cur, rfl, _⟩
 ·omega
 ·exact ⟨g, cap, rfl⟩
end Go.Proofs.YtidglmocekghmaaDoor.Pr
end
section
namespace Go.Proofs.YtidglmocekghmaaDoor.Pr
open Go.RowKit Go.Proofs.YtidglmocekghmaaDoorW.PrintWords Go.Proofs.YtidglmocekghmaaDoorW.PrintLast Go.Proofs.YtidglmocekghmaaDoorW.PrintMore
set_option linter.unusedVariables false
set_option linter.unusedSimpArgs false
def WdV (w : World) (xs : List Int) (r : Ending) (w' : World) : Prop := ∃ A c, r = .returned (.slice A xs.length c) ∧ ((Kd.int .u64).C w' A xs.length xs ∧ xs.length ≤ c) ∧ Below w.heap.size w w'
def ShR_ (n : S37) (A3 : Option Addr) (c3 : Nat) (A4 : Option Addr) (c4 : Nat) (pv : Value) (sw sq : List Int) (w : World) : Prop := ∀ w', Below w.heap.size w w' → Calls Tryd.prog 48 #[ndV n A3 c3 A4 c4] w' fun r w1 => ∃ A1 c1 A2 c2, r = .returned (.tuple #[.slice A1 sw.length c1, pv, .slice A2 sq.length c2]) ∧ (Kd.int .u64).C w1 A1 sw.length sw ∧ (Kd.int .i64).C w1 A2 sq.length sq ∧ Below w'.heap.size w' w1
def TaR_ (n : S37) (A3 : Option Addr) (c3 : Nat) (A4 : Option Addr) (c4 : Nat) (T : List S37) (w : World) : Prop := ∀ w', Below w.heap.size w w' → Calls Tryd.prog 50 #[ndV n A3 c3 A4 c4] w' fun r w1 => ∃ A c, r = .returned (.slice A T.length c) ∧ k37.C w1 A T.length T ∧ Below w'.heap.size w' w1
def PlR_ (st : Nat) (sq : List Int) (T : List S37) (outs : Nat → List Int) : Prop := ∀ (i : Nat) (x : S37) (A : Option Addr) (c : Nat) (A3 : Option Addr) (c3 : Nat) (A4 : Option Addr) (c4 : Nat) (w : World), T[i]? = some x → (Kd.int .u64).C w A (outs i).length (outs i) → (outs i).length ≤ c → k37.K w x (ndC x A3 c3 A4 c4) → Calls Tryd.prog 26 #[.slice A (outs i).length c, .int .i64 ((st : Int) + wd sq i), ndV x A3 c3 A4 c4] w (WdV w (outs (i + 1)))
theorem cellI {w : World} {A : Option Addr} {s : List Int} (h : (Kd.int .i64).C w A s.length s) (i : Nat) (hi : i < s.length) : ∃ ad, A = some ad ∧ w.cell? (ad.add i) = some (.int .i64 (wd s i)) := by
 obtain ⟨a0, c, e0, _, hK, hcc⟩ := Kd.C_get h (0 : Int) i (by omega) (Int.ofNat_lt.2 hi)
 obtain rfl : c = [.int .i64 (wd s i)] := hK
 refine ⟨a0, e0, ?_⟩
 have := hcc 0 _ rfl
 simpa [Kd.int, Kd.scalar] using this
theorem R_adrN {α : Type} {d : Kd α} {e b : Nat} {w : World} {ok : Nat → Prop} {v : Value} {xs : List α} (h : d.R e w b ok v xs) (h0 : 0 < xs.length) : ∃ g n c, v = .slice (some ⟨g, 0, none⟩) n c ∧ Hid (n = xs.length) := by
 obtain ⟨g, c, rfl⟩ := R_adr h h0
 exact ⟨g, _, c, rfl, Lib.hid rfl⟩
set_option maxRecDepth 100000 in
set_option maxHeartbeats 4000000 in
theorem place_s1 (n : S37) (A3 A4 : Option Addr) (c3 c4 : Nat) (A : Option Addr) (c : Nat) (out : List Int) (a : Nat) (d p : Nat) (w : World) (sw sq : List Int) (T : List S37) (outs : Nat → List Int)
    (hC : (Kd.int .u64).C w A out.length out) (ha : a < out.length) (h0 : n.f0 ≠ 0) (HSh : ShR_ n A3 c3 A4 c4 (ptS 0 d p) sw sq w) (HT : TaR_ n A3 c3 A4 c4 T w)
    (hlen : out.length + sw.length ≤ 536870000) (hsa : ∀ i, i < T.length → ∃ q : Nat, wd sq i = q ∧ out.length + q ≤ 536870000) (hTl : sq.length = T.length) (hd : d ≤ 65535) (hp : p ≤ 65535) (hd0 : d ≠ 0)
    (hO : outs 0 = (out ++ sw).set a (encS ((out.length : Int) - a - 1) d p)) (HP : PlR_ out.length sq T outs) :
    Calls Tryd.prog 26 #[.slice A out.length c, .int .i64 a, ndV n A3 c3 A4 c4] w (WdV w (outs T.length)) := by
  have S := Sep.start w
  have HC := Lib.hid hC
  have HE := fun w' => Lib.hid (encode_s ((out.length : Int) - a - 1) d p w' (by omega) (by omega) (by omega) (by omega) (by omega) (by omega))
  replace HSh := fun w' hw => Lib.hid (HSh w' hw)
  replace HT := fun w' hw => Lib.hid (HT w' hw)
  replace HP := Lib.hid HP
  have HO := Lib.hid hO
  have HL := Lib.hid hlen
  have t0 : (n.f0 == 0) = false := beq_eq_false_iff_ne.2 h0
  obtain ⟨f0, f1, f2, f3, l⟩ := n
  dsimp only [ndV] at *
  generalize f3.length = m3 at *
  generalize l.length = m4 at *
  obtain ⟨lo, hlo⟩ : ∃ m, out.length = m := ⟨_, rfl⟩
  obtain ⟨ls, hls⟩ : ∃ m, sw.length = m := ⟨_, rfl⟩
  obtain ⟨la, hla⟩ : ∃ m, sq.length = m := ⟨_, rfl⟩
  obtain ⟨lt, hlt⟩ : ∃ m, T.length = m := ⟨_, rfl⟩
  have HLO := Lib.hid hlo
  have HLS := Lib.hid hls
  have HTL : Hid (sq.length = lt) := Lib.hid (by rw [hTl, hlt])
  have HLT := Lib.hid hlt
  have HSA := Lib.hid hsa
  rw [hlt] at hTl HSA HT
  rw [hlo] at HC HSA HP hlen ha ⊢
  try rw [hlo] at HE HO
  rw [hls] at HSh hlen
  rw [hTl] at HSh
  generalize encS ((lo : Int) - a - 1) d p = ev at *
  unfold WdV
  rw [hlt]
  clear hC h0 hO hsa hlo hls hla hTl l f3
  have t1 : ((d : Int) == 0) = false := beq_eq_false_iff_ne.2 (by omega)
  clear hd0
  go_enter Tryd.func26, Tryd.ntmps26
  go_wp2_with (first | go_skip | ((with_reducible refine wl ?_); refine sp_put (i := a) (y := ev) rfl rfl rfl S ?hpp rfl han (by kernel_rfl) rfl (fun w1 S => ?_); (case hpp => first | (go_simp; done) | (go_simp; rfl))) | ((with_reducible refine wl ?_); first | (refine sn S (fun g w1 S => ?_); first | ((fail_if_success (have := gn)); revert g; intro gn S) | ((fail_if_success (have := gp)); revert g; intro gp S)) | refine ss S (fun w1 S => ?_) | refine sl S ?_ | refine sa S ?_) | ((with_reducible refine (HSh _ S.below).out.mono ?_); rintro r w' ⟨A1, c1, A2, c2, rfl, hq1, hq2, hb⟩; replace S := S.call hb; have HB1 := Lib.hid S.below; have HGN := Lib.hid (blk_cells (cs := [.int .i64 f0, .int .i64 f1, .int .i64 f2, .slice A3 m3 c3, .slice A4 m4 c4]) (S.blk .here)); have HCw := Lib.hid (Kd.C_below HC.out S.below); have HQ1 := Lib.hid hq1; have HQ2 := Lib.hid hq2; replace S := Sep.start w'; clear hq1 hq2 hb) | ((with_reducible refine gate_dst (N := 45) rfl ?_); refine sp_lit (Kd.int .u64) 32 (N := 45) rfl rfl S [] [] ?hr (Reps.none _ _) (by simp) (fun g w1 S => ?_); (case hr => first | (go_simp; done) | (go_simp; rfl))) | ((with_reducible refine gate_builtin (b := .append) (xs := #[.tmp 45, .tmp 46]) rfl ?_); at_builtin; refine sp_rows S rfl rfl Tryd.underlying22 info32 rfl (by decide) (by omega) rfl rfl (Kd.C_below HCw.out S.below) (fun _ _ h => h) (by have := HL.out; have := HLO.out; simp; omega) (fun v1 w1 S => ?_)) | ((with_reducible refine gate_builtin (b := .append) (xs := #[.tmp 47, .tmp 48]) rfl ?_); at_builtin; refine sp_rows S rfl rfl Tryd.underlying22 info32 rfl (by decide) (by omega) rfl rfl (Kd.C_below HQ1.out S.below) (fun _ _ h => h) (by have := HL.out; have := HLO.out; have := HLS.out; simp; omega) (fun v1 w1 S => ?_); obtain ⟨go, no, co, rfl, hno⟩ := R_adrN (S.outR .here) (by have := HLO.out; simp; omega); have HNO := Lib.hid hno.out; clear hno; have han : a < no := by rw [HNO.out]; have := HLO.out; simp; omega) | ((with_reducible refine (HE _).out.mono ?_); rintro r w' ⟨rfl, hb⟩; replace S := S.call hb) | ((with_reducible refine wl ?_); refine sxa S HGN.out ?_) | ((with_reducible refine (HT _ (below_step HB1.out S.below)).out.mono ?_); rintro r w' ⟨A5, c5, rfl, hq3, hb⟩; replace S := S.call hb; have HQ3 := Lib.hid hq3; clear hq3 hb))
  have HN0 : Hid (no = (outs 0).length ∧ (Kd.int .u64).C _ (some ⟨go, 0, none⟩) no (outs 0) ∧ no ≤ co) := Lib.hid (by
    have e0 : ([] ++ out ++ sw).set a ev = outs 0 := by rw [HO.out]; rfl
    have hR := S.outR .here
    rw [e0] at hR
    have h1 := R_C hR
    have h3 := (Kd.R_reads' hR).2.1
    have h2 : no = (outs 0).length := by rw [HNO.out, ← e0, List.length_set]
    rw [h2] at h3 ⊢
    exact ⟨rfl, h1, h3⟩)
  have HBB := Lib.hid (below_step HB1.out S.below)
  have HQ2 := Lib.hid (Kd.C_below HQ2.out S.below)
  clear HSh HT HE HGN HCw HB1 HNO han HO t0 HQ1 HC ha t1 hd hp
  go_loopw [11, 13] (fun v k wr => ∃ (i : Nat) (A6 : Option Addr) (n6 c6 : Nat), i ≤ lt ∧ k = .int .i64 i ∧ v = .slice A6 n6 c6 ∧ Hid (n6 = (outs i).length ∧ (Kd.int .u64).C wr A6 n6 (outs i) ∧ n6 ≤ c6) ∧ Hid ((Kd.int .i64).C wr A2 lt sq) ∧ Hid (k37.C wr A5 lt T) ∧ Hid (Below w.heap.size w wr)) (fun _ k _ => lt - (intOf k).toNat)
  case atStart => exact ⟨0, _, _, _, Nat.zero_le _, rfl, rfl, HN0, HQ2, HQ3, HBB⟩
  case round =>
    clear S HN0 HBB HQ2 HQ3
    obtain ⟨i, A6, n6, c6, hi, rfl, rfl, HO, HQ2, HQ3, HB⟩ := hrel
    by_cases hil : i < lt
    · have hltb := HQ3.out.2.1
      obtain ⟨q, hq, hq2⟩ := HSA.out i hil
      have hdr := below_drew1 (Below.refl wr.heap.size wr)
      obtain ⟨ad, rfl, hv⟩ := cellI (by rw [HTL.out]; exact Kd.C_below HQ2.out hdr) i (by rw [HTL.out]; exact hil)
      obtain ⟨ae, B3, d3, B4, d4, rfl, hN⟩ := kid_at (by rw [HLT.out]; exact Kd.C_below HQ3.out hdr) i (by rw [HLT.out]; exact hil)
      obtain ⟨x, hx⟩ : ∃ x, T[i]'(by rw [HLT.out]; exact hil) = x := ⟨_, rfl⟩
      have hx2 : T[i]? = some x := by rw [← hx]; exact List.getElem?_eq_getElem _
      rw [hx] at hN
      have HPi := HP.out i x A6 c6 B3 d3 B4 d4 wr.drew hx2 (by rw [← HO.out.1]; exact Kd.C_below HO.out.2.1 hdr) (by rw [← HO.out.1]; exact HO.out.2.2) hN.K
      rw [hq] at hv HPi
      rw [← HO.out.1] at HPi
      have HPi := Lib.hid HPi
      have HND := Lib.hid hN.cells
      have hwr : IntKind.i64.wrap ((lo : Int) + (q : Int)) = (lo : Int) + q := (i64_w _).trans (w64 (by omega) (by omega))
      clear hx hx2 hN hq
      go_wp2
      refine bws (Sep.start wr) (fun S2 => ?_)
      refine pu 0 66 ?_
      refine pu 1 67 ?_
      refine pu 2 68 ?_
      refine pu 3 69 ?_
      refine pu 4 70 ?_
      refine bwl 5 hv (Below.refl _ _) ?_
      refine pu 6 72 ?_
      refine pu 7 73 ?_
      refine pu 8 74 ?_
      refine pu 9 75 ?_
      refine bwa 10 HND.out (Below.refl _ _) ?_
      refine bwc 11 77 Tryd.func26 HPi.out (fun r' w2 hT => ?_)
      obtain ⟨A7, c7, rfl, ⟨hC7, hc7⟩, hb⟩ := hT
      refine ⟨_, rfl, hb, _, rfl, ?_⟩
      simp only [Act.put, List.setIfInBounds_toArray, List.set_cons_zero, List.set_cons_succ]
      refine pu 12 11 ?_
      refine dn ?_
      clear hwr
      go_wp2
      go_roundw
      case rel => exact ⟨i + 1, _, _, _, by omega, by go_num, rfl, Lib.hid ⟨rfl, hC7, hc7⟩, Lib.hid (Kd.C_below HQ2.out (below_step hdr hb)), Lib.hid (Kd.C_below HQ3.out (below_step hdr hb)), Lib.hid (below_step (below_drew1 HB.out) hb)⟩
      case measure => simp [intOf]; omega
    · obtain rfl : i = lt := by omega
      go_wp2
      obtain ⟨hn6, hC6, hc6⟩ := HO.out
      subst hn6
      exact rt (Sep.start _) ⟨_, _, rfl, ⟨hC6, hc6⟩, HB.out⟩
set_option maxRecDepth 100000 in
set_option maxHeartbeats 4000000 in
theorem place_s2 (n : S37) (A3 A4 : Option Addr) (c3 c4 : Nat) (A : Option Addr) (c : Nat) (out : List Int) (a : Nat) (d p : Nat) (w : World) (sw sq : List Int) (T : List S37) (outs : Nat → List Int)
    (hC : (Kd.int .u64).C w A out.length out) (ha : a < out.length) (h0 : n.f0 ≠ 0) (HSh : ShR_ n A3 c3 A4 c4 (ptS 0 d p) sw sq w) (HT : TaR_ n A3 c3 A4 c4 T w)
    (hlen : out.length + sw.length ≤ 536870000) (hsa : ∀ i, i < T.length → ∃ q : Nat, wd sq i = q ∧ out.length + q ≤ 536870000) (hTl : sq.length = T.length) (hd : d ≤ 65535) (hp : p ≤ 65535) (hd0 : d = 0) (hp0 : p ≠ 0)
    (hO : outs 0 = (out ++ sw).set a (encS ((out.length : Int) - a - 1) d p)) (HP : PlR_ out.length sq T outs) :
    Calls Tryd.prog 26 #[.slice A out.length c, .int .i64 a, ndV n A3 c3 A4 c4] w (WdV w (outs T.length)) := by
  have S := Sep.start w
  have HC := Lib.hid hC
  have HE := fun w' => Lib.hid (encode_s ((out.length : Int) - a - 1) d p w' (by omega) (by omega) (by omega) (by omega) (by omega) (by omega))
  replace HSh := fun w' hw => Lib.hid (HSh w' hw)
  replace HT := fun w' hw => Lib.hid (HT w' hw)
  replace HP := Lib.hid HP
  have HO := Lib.hid hO
  have HL := Lib.hid hlen
  have t0 : (n.f0 == 0) = false := beq_eq_false_iff_ne.2 h0
  obtain ⟨f0, f1, f2, f3, l⟩ := n
  dsimp only [ndV] at *
  generalize f3.length = m3 at *
  generalize l.length = m4 at *
  obtain ⟨lo, hlo⟩ : ∃ m, out.length = m := ⟨_, rfl⟩
  obtain ⟨ls, hls⟩ : ∃ m, sw.length = m := ⟨_, rfl⟩
  obtain ⟨la, hla⟩ : ∃ m, sq.length = m := ⟨_, rfl⟩
  obtain ⟨lt, hlt⟩ : ∃ m, T.length = m := ⟨_, rfl⟩
  have HLO := Lib.hid hlo
  have HLS := Lib.hid hls
  have HTL : Hid (sq.length = lt) := Lib.hid (by rw [hTl, hlt])
  have HLT := Lib.hid hlt
  have HSA := Lib.hid hsa
  rw [hlt] at hTl HSA HT
  rw [hlo] at HC HSA HP hlen ha ⊢
  try rw [hlo] at HE HO
  rw [hls] at HSh hlen
  rw [hTl] at HSh
  generalize encS ((lo : Int) - a - 1) d p = ev at *
  unfold WdV
  rw [hlt]
  clear hC h0 hO hsa hlo hls hla hTl l f3
  have t1 : ((d : Int) == 0) = true := beq_iff_eq.2 (by omega)
  have t2 : ((p : Int) == 0) = false := beq_eq_false_iff_ne.2 (by omega)
  clear hd0 hp0
  go_enter Tryd.func26, Tryd.ntmps26
  go_wp2_with (first | go_skip | ((with_reducible refine wl ?_); refine sp_put (i := a) (y := ev) rfl rfl rfl S ?hpp rfl han (by kernel_rfl) rfl (fun w1 S => ?_); (case hpp => first | (go_simp; done) | (go_simp; rfl))) | ((with_reducible refine wl ?_); first | (refine sn S (fun g w1 S => ?_); first | ((fail_if_success (have := gn)); revert g; intro gn S) | ((fail_if_success (have := gp)); revert g; intro gp S)) | refine ss S (fun w1 S => ?_) | refine sl S ?_ | refine sa S ?_) | ((with_reducible refine (HSh _ S.below).out.mono ?_); rintro r w' ⟨A1, c1, A2, c2, rfl, hq1, hq2, hb⟩; replace S := S.call hb; have HB1 := Lib.hid S.below; have HGN := Lib.hid (blk_cells (cs := [.int .i64 f0, .int .i64 f1, .int .i64 f2, .slice A3 m3 c3, .slice A4 m4 c4]) (S.blk .here)); have HCw := Lib.hid (Kd.C_below HC.out S.below); have HQ1 := Lib.hid hq1; have HQ2 := Lib.hid hq2; replace S := Sep.start w'; clear hq1 hq2 hb) | ((with_reducible refine gate_dst (N := 45) rfl ?_); refine sp_lit (Kd.int .u64) 32 (N := 45) rfl rfl S [] [] ?hr (Reps.none _ _) (by simp) (fun g w1 S => ?_); (case hr => first | (go_simp; done) | (go_simp; rfl))) | ((with_reducible refine gate_builtin (b := .append) (xs := #[.tmp 45, .tmp 46]) rfl ?_); at_builtin; refine sp_rows S rfl rfl Tryd.underlying22 info32 rfl (by decide) (by omega) rfl rfl (Kd.C_below HCw.out S.below) (fun _ _ h => h) (by have := HL.out; have := HLO.out; simp; omega) (fun v1 w1 S => ?_)) | ((with_reducible refine gate_builtin (b := .append) (xs := #[.tmp 47, .tmp 48]) rfl ?_); at_builtin; refine sp_rows S rfl rfl Tryd.underlying22 info32 rfl (by decide) (by omega) rfl rfl (Kd.C_below HQ1.out S.below) (fun _ _ h => h) (by have := HL.out; have := HLO.out; have := HLS.out; simp; omega) (fun v1 w1 S => ?_); obtain ⟨go, no, co, rfl, hno⟩ := R_adrN (S.outR .here) (by have := HLO.out; simp; omega); have HNO := Lib.hid hno.out; clear hno; have han : a < no := by rw [HNO.out]; have := HLO.out; simp; omega) | ((with_reducible refine (HE _).out.mono ?_); rintro r w' ⟨rfl, hb⟩; replace S := S.call hb) | ((with_reducible refine wl ?_); refine sxa S HGN.out ?_) | ((with_reducible refine (HT _ (below_step HB1.out S.below)).out.mono ?_); rintro r w' ⟨A5, c5, rfl, hq3, hb⟩; replace S := S.call hb; have HQ3 := Lib.hid hq3; clear hq3 hb))
  have HN0 : Hid (no = (outs 0).length ∧ (Kd.int .u64).C _ (some ⟨go, 0, none⟩) no (outs 0) ∧ no ≤ co) := Lib.hid (by
    have e0 : ([] ++ out ++ sw).set a ev = outs 0 := by rw [HO.out]; rfl
    have hR := S.outR .here
    rw [e0] at hR
    have h1 := R_C hR
    have h3 := (Kd.R_reads' hR).2.1
    have h2 : no = (outs 0).length := by rw [HNO.out, ← e0, List.length_set]
    rw [h2] at h3 ⊢
    exact ⟨rfl, h1, h3⟩)
  have HBB := Lib.hid (below_step HB1.out S.below)
  have HQ2 := Lib.hid (Kd.C_below HQ2.out S.below)
  clear HSh HT HE HGN HCw HB1 HNO han HO t0 HQ1 HC ha t1 t2 hd hp
  go_loopw [11, 13] (fun v k wr => ∃ (i : Nat) (A6 : Option Addr) (n6 c6 : Nat), i ≤ lt ∧ k = .int .i64 i ∧ v = .slice A6 n6 c6 ∧ Hid (n6 = (outs i).length ∧ (Kd.int .u64).C wr A6 n6 (outs i) ∧ n6 ≤ c6) ∧ Hid ((Kd.int .i64).C wr A2 lt sq) ∧ Hid (k37.C wr A5 lt T) ∧ Hid (Below w.heap.size w wr)) (fun _ k _ => lt - (intOf k).toNat)
  case atStart => exact ⟨0, _, _, _, Nat.zero_le _, rfl, rfl, HN0, HQ2, HQ3, HBB⟩
  case round =>
    clear S HN0 HBB HQ2 HQ3
    obtain ⟨i, A6, n6, c6, hi, rfl, rfl, HO, HQ2, HQ3, HB⟩ := hrel
    by_cases hil : i < lt
    · have hltb := HQ3.out.2.1
      obtain ⟨q, hq, hq2⟩ := HSA.out i hil
      have hdr := below_drew1 (Below.refl wr.heap.size wr)
      obtain ⟨ad, rfl, hv⟩ := cellI (by rw [HTL.out]; exact Kd.C_below HQ2.out hdr) i (by rw [HTL.out]; exact hil)
      obtain ⟨ae, B3, d3, B4, d4, rfl, hN⟩ := kid_at (by rw [HLT.out]; exact Kd.C_below HQ3.out hdr) i (by rw [HLT.out]; exact hil)
      obtain ⟨x, hx⟩ : ∃ x, T[i]'(by rw [HLT.out]; exact hil) = x := ⟨_, rfl⟩
      have hx2 : T[i]? = some x := by rw [← hx]; exact List.getElem?_eq_getElem _
      rw [hx] at hN
      have HPi := HP.out i x A6 c6 B3 d3 B4 d4 wr.drew hx2 (by rw [← HO.out.1]; exact Kd.C_below HO.out.2.1 hdr) (by rw [← HO.out.1]; exact HO.out.2.2) hN.K
      rw [hq] at hv HPi
      rw [← HO.out.1] at HPi
      have HPi := Lib.hid HPi
      have HND := Lib.hid hN.cells
      have hwr : IntKind.i64.wrap ((lo : Int) + (q : Int)) = (lo : Int) + q := (i64_w _).trans (w64 (by omega) (by omega))
      clear hx hx2 hN hq
      go_wp2
      refine bws (Sep.start wr) (fun S2 => ?_)
      refine pu 0 66 ?_
      refine pu 1 67 ?_
      refine pu 2 68 ?_
      refine pu 3 69 ?_
      refine pu 4 70 ?_
      refine bwl 5 hv (Below.refl _ _) ?_
      refine pu 6 72 ?_
      refine pu 7 73 ?_
      refine pu 8 74 ?_
      refine pu 9 75 ?_
      refine bwa 10 HND.out (Below.refl _ _) ?_
      refine bwc 11 77 Tryd.func26 HPi.out (fun r' w2 hT => ?_)
      obtain ⟨A7, c7, rfl, ⟨hC7, hc7⟩, hb⟩ := hT
      refine ⟨_, rfl, hb, _, rfl, ?_⟩
      simp only [Act.put, List.setIfInBounds_toArray, List.set_cons_zero, List.set_cons_succ]
      refine pu 12 11 ?_
      refine dn ?_
      clear hwr
      go_wp2
      go_roundw
      case rel => exact ⟨i + 1, _, _, _, by omega, by go_num, rfl, Lib.hid ⟨rfl, hC7, hc7⟩, Lib.hid (Kd.C_below HQ2.out (below_step hdr hb)), Lib.hid (Kd.C_below HQ3.out (below_step hdr hb)), Lib.hid (below_step (below_drew1 HB.out) hb)⟩
      case measure => simp [intOf]; omega
    · obtain rfl : i = lt := by omega
      go_wp2
      obtain ⟨hn6, hC6, hc6⟩ := HO.out
      subst hn6
      exact rt (Sep.start _) ⟨_, _, rfl, ⟨hC6, hc6⟩, HB.out⟩
set_option maxRecDepth 100000 in
set_option maxHeartbeats 4000000 in
theorem place_s3 (n : S37) (A3 A4 : Option Addr) (c3 c4 : Nat) (A : Option Addr) (c : Nat) (out : List Int) (a : Nat) (d p : Nat) (w : World) (sw sq : List Int) (T : List S37) (outs : Nat → List Int)
    (hC : (Kd.int .u64).C w A out.length out) (ha : a < out.length) (h0 : n.f0 ≠ 0) (HSh : ShR_ n A3 c3 A4 c4 (ptS 0 d p) sw sq w) (HT : TaR_ n A3 c3 A4 c4 T w)
    (hlen : out.length + sw.length ≤ 536870000) (hsa : ∀ i, i < T.length → ∃ q : Nat, wd sq i = q ∧ out.length + q ≤ 536870000) (hTl : sq.length = T.length) (hd : d ≤ 65535) (hp : p ≤ 65535) (hd0 : d = 0) (hp0 : p = 0)
    (hO : outs 0 = (out ++ sw).set a (encS (-1) d p)) (HP : PlR_ out.length sq T outs) :
    Calls Tryd.prog 26 #[.slice A out.length c, .int .i64 a, ndV n A3 c3 A4 c4] w (WdV w (outs T.length)) := by
  have S := Sep.start w
  have HC := Lib.hid hC
  have HE := fun w' => Lib.hid (encode_s (-1) d p w' (by omega) (by omega) (by omega) (by omega) (by omega) (by omega))
  replace HSh := fun w' hw => Lib.hid (HSh w' hw)
  replace HT := fun w' hw => Lib.hid (HT w' hw)
  replace HP := Lib.hid HP
  have HO := Lib.hid hO
  have HL := Lib.hid hlen
  have t0 : (n.f0 == 0) = false := beq_eq_false_iff_ne.2 h0
  obtain ⟨f0, f1, f2, f3, l⟩ := n
  dsimp only [ndV] at *
  generalize f3.length = m3 at *
  generalize l.length = m4 at *
  obtain ⟨lo, hlo⟩ : ∃ m, out.length = m := ⟨_, rfl⟩
  obtain ⟨ls, hls⟩ : ∃ m, sw.length = m := ⟨_, rfl⟩
  obtain ⟨la, hla⟩ : ∃ m, sq.length = m := ⟨_, rfl⟩
  obtain ⟨lt, hlt⟩ : ∃ m, T.length = m := ⟨_, rfl⟩
  have HLO := Lib.hid hlo
  have HLS := Lib.hid hls
  have HTL : Hid (sq.length = lt) := Lib.hid (by rw [hTl, hlt])
  have HLT := Lib.hid hlt
  have HSA := Lib.hid hsa
  rw [hlt] at hTl HSA HT
  rw [hlo] at HC HSA HP hlen ha ⊢
  try rw [hlo] at HE HO
  rw [hls] at HSh hlen
  rw [hTl] at HSh
  generalize encS (-1) d p = ev at *
  unfold WdV
  rw [hlt]
  clear hC h0 hO hsa hlo hls hla hTl l f3
  have t1 : ((d : Int) == 0) = true := beq_iff_eq.2 (by omega)
  have t2 : ((p : Int) == 0) = true := beq_iff_eq.2 (by omega)
  clear hd0 hp0
  go_enter Tryd.func26, Tryd.ntmps26
  go_wp2_with (first | go_skip | ((with_reducible refine wl ?_); refine sp_put (i := a) (y := ev) rfl rfl rfl S ?hpp rfl han (by kernel_rfl) rfl (fun w1 S => ?_); (case hpp => first | (go_simp; done) | (go_simp; rfl))) | ((with_reducible refine wl ?_); first | (refine sn S (fun g w1 S => ?_); first | ((fail_if_success (have := gn)); revert g; intro gn S) | ((fail_if_success (have := gp)); revert g; intro gp S)) | refine ss S (fun w1 S => ?_) | refine sl S ?_ | refine sa S ?_) | ((with_reducible refine (HSh _ S.below).out.mono ?_); rintro r w' ⟨A1, c1, A2, c2, rfl, hq1, hq2, hb⟩; replace S := S.call hb; have HB1 := Lib.hid S.below; have HGN := Lib.hid (blk_cells (cs := [.int .i64 f0, .int .i64 f1, .int .i64 f2, .slice A3 m3 c3, .slice A4 m4 c4]) (S.blk .here)); have HCw := Lib.hid (Kd.C_below HC.out S.below); have HQ1 := Lib.hid hq1; have HQ2 := Lib.hid hq2; replace S := Sep.start w'; clear hq1 hq2 hb) | ((with_reducible refine gate_dst (N := 45) rfl ?_); refine sp_lit (Kd.int .u64) 32 (N := 45) rfl rfl S [] [] ?hr (Reps.none _ _) (by simp) (fun g w1 S => ?_); (case hr => first | (go_simp; done) | (go_simp; rfl))) | ((with_reducible refine gate_builtin (b := .append) (xs := #[.tmp 45, .tmp 46]) rfl ?_); at_builtin; refine sp_rows S rfl rfl Tryd.underlying22 info32 rfl (by decide) (by omega) rfl rfl (Kd.C_below HCw.out S.below) (fun _ _ h => h) (by have := HL.out; have := HLO.out; simp; omega) (fun v1 w1 S => ?_)) | ((with_reducible refine gate_builtin (b := .append) (xs := #[.tmp 47, .tmp 48]) rfl ?_); at_builtin; refine sp_rows S rfl rfl Tryd.underlying22 info32 rfl (by decide) (by omega) rfl rfl (Kd.C_below HQ1.out S.below) (fun _ _ h => h) (by have := HL.out; have := HLO.out; have := HLS.out; simp; omega) (fun v1 w1 S => ?_); obtain ⟨go, no, co, rfl, hno⟩ := R_adrN (S.outR .here) (by have := HLO.out; simp; omega); have HNO := Lib.hid hno.out; clear hno; have han : a < no := by rw [HNO.out]; have := HLO.out; simp; omega) | ((with_reducible refine (HE _).out.mono ?_); rintro r w' ⟨rfl, hb⟩; replace S := S.call hb) | ((with_reducible refine wl ?_); refine sxa S HGN.out ?_) | ((with_reducible refine (HT _ (below_step HB1.out S.below)).out.mono ?_); rintro r w' ⟨A5, c5, rfl, hq3, hb⟩; replace S := S.call hb; have HQ3 := Lib.hid hq3; clear hq3 hb))
  have HN0 : Hid (no = (outs 0).length ∧ (Kd.int .u64).C _ (some ⟨go, 0, none⟩) no (outs 0) ∧ no ≤ co) := Lib.hid (by
    have e0 : ([] ++ out ++ sw).set a ev = outs 0 := by rw [HO.out]; rfl
    have hR := S.outR .here
    rw [e0] at hR
    have h1 := R_C hR
    have h3 := (Kd.R_reads' hR).2.1
    have h2 : no = (outs 0).length := by rw [HNO.out, ← e0, List.length_set]
    rw [h2] at h3 ⊢
    exact ⟨rfl, h1, h3⟩)
  have HBB := Lib.hid (below_step HB1.out S.below)
  have HQ2 := Lib.hid (Kd.C_below HQ2.out S.below)
  clear HSh HT HE HGN HCw HB1 HNO han HO t0 HQ1 HC ha t1 t2 hd hp
  go_loopw [11, 13] (fun v k wr => ∃ (i : Nat) (A6 : Option Addr) (n6 c6 : Nat), i ≤ lt ∧ k = .int .i64 i ∧ v = .slice A6 n6 c6 ∧ Hid (n6 = (outs i).length ∧ (Kd.int .u64).C wr A6 n6 (outs i) ∧ n6 ≤ c6) ∧ Hid ((Kd.int .i64).C wr A2 lt sq) ∧ Hid (k37.C wr A5 lt T) ∧ Hid (Below w.heap.size w wr)) (fun _ k _ => lt - (intOf k).toNat)
  case atStart => exact ⟨0, _, _, _, Nat.zero_le _, rfl, rfl, HN0, HQ2, HQ3, HBB⟩
  case round =>
    clear S HN0 HBB HQ2 HQ3
    obtain ⟨i, A6, n6, c6, hi, rfl, rfl, HO, HQ2, HQ3, HB⟩ := hrel
    by_cases hil : i < lt
    · have hltb := HQ3.out.2.1
      obtain ⟨q, hq, hq2⟩ := HSA.out i hil
      have hdr := below_drew1 (Below.refl wr.heap.size wr)
      obtain ⟨ad, rfl, hv⟩ := cellI (by rw [HTL.out]; exact Kd.C_below HQ2.out hdr) i (by rw [HTL.out]; exact hil)
      obtain ⟨ae, B3, d3, B4, d4, rfl, hN⟩ := kid_at (by rw [HLT.out]; exact Kd.C_below HQ3.out hdr) i (by rw [HLT.out]; exact hil)
      obtain ⟨x, hx⟩ : ∃ x, T[i]'(by rw [HLT.out]; exact hil) = x := ⟨_, rfl⟩
      have hx2 : T[i]? = some x := by rw [← hx]; exact List.getElem?_eq_getElem _
      rw [hx] at hN
      have HPi := HP.out i x A6 c6 B3 d3 B4 d4 wr.drew hx2 (by rw [← HO.out.1]; exact Kd.C_below HO.out.2.1 hdr) (by rw [← HO.out.1]; exact HO.out.2.2) hN.K
      rw [hq] at hv HPi
      rw [← HO.out.1] at HPi
      have HPi := Lib.hid HPi
      have HND := Lib.hid hN.cells
      have hwr : IntKind.i64.wrap ((lo : Int) + (q : Int)) = (lo : Int) + q := (i64_w _).trans (w64 (by omega) (by omega))
      clear hx hx2 hN hq
      go_wp2
      refine bws (Sep.start wr) (fun S2 => ?_)
      refine pu 0 66 ?_
      refine pu 1 67 ?_
      refine pu 2 68 ?_
      refine pu 3 69 ?_
      refine pu 4 70 ?_
      refine bwl 5 hv (Below.refl _ _) ?_
      refine pu 6 72 ?_
      refine pu 7 73 ?_
      refine pu 8 74 ?_
      refine pu 9 75 ?_
      refine bwa 10 HND.out (Below.refl _ _) ?_
      refine bwc 11 77 Tryd.func26 HPi.out (fun r' w2 hT => ?_)
      obtain ⟨A7, c7, rfl, ⟨hC7, hc7⟩, hb⟩ := hT
      refine ⟨_, rfl, hb, _, rfl, ?_⟩
      simp only [Act.put, List.setIfInBounds_toArray, List.set_cons_zero, List.set_cons_succ]
      refine pu 12 11 ?_
      refine dn ?_
      clear hwr
      go_wp2
      go_roundw
      case rel => exact ⟨i + 1, _, _, _, by omega, by go_num, rfl, Lib.hid ⟨rfl, hC7, hc7⟩, Lib.hid (Kd.C_below HQ2.out (below_step hdr hb)), Lib.hid (Kd.C_below HQ3.out (below_step hdr hb)), Lib.hid (below_step (below_drew1 HB.out) hb)⟩
      case measure => simp [intOf]; omega
    · obtain rfl : i = lt := by omega
      go_wp2
      obtain ⟨hn6, hC6, hc6⟩ := HO.out
      subst hn6
      exact rt (Sep.start _) ⟨_, _, rfl, ⟨hC6, hc6⟩, HB.out⟩
set_option maxRecDepth 100000 in
set_option maxHeartbeats 4000000 in
theorem place_l (n : S37) (A3 A4 : Option Addr) (c3 c4 : Nat) (A : Option Addr) (c : Nat) (out : List Int) (a : Nat) (e q : Int) (w : World) (sw sq : List Int) (T : List S37) (outs : Nat → List Int)
    (hC : (Kd.int .u64).C w A out.length out) (ha : a < out.length) (h0 : n.f0 ≠ 0) (HSh : ShR_ n A3 c3 A4 c4 (ptL 0 e q) sw sq w) (HT : TaR_ n A3 c3 A4 c4 T w)
    (hlen : out.length + sw.length ≤ 536870000) (hsa : ∀ i, i < T.length → ∃ q : Nat, wd sq i = q ∧ out.length + q ≤ 536870000) (hTl : sq.length = T.length) (he0 : 0 ≤ e) (he1 : e ≤ 7) (hq0 : 0 ≤ q) (hq1 : q ≤ 536870911)
    (hO : outs 0 = (out ++ sw).set a (encL ((out.length : Int) - a - 1) e q)) (HP : PlR_ out.length sq T outs) :
    Calls Tryd.prog 26 #[.slice A out.length c, .int .i64 a, ndV n A3 c3 A4 c4] w (WdV w (outs T.length)) := by
  have S := Sep.start w
  have HC := Lib.hid hC
  have HE := fun w' => Lib.hid (encode_l ((out.length : Int) - a - 1) e q w' (by omega) (by omega) (by omega) (by omega) (by omega) (by omega))
  replace HSh := fun w' hw => Lib.hid (HSh w' hw)
  replace HT := fun w' hw => Lib.hid (HT w' hw)
  replace HP := Lib.hid HP
  have HO := Lib.hid hO
  have HL := Lib.hid hlen
  have t0 : (n.f0 == 0) = false := beq_eq_false_iff_ne.2 h0
  obtain ⟨f0, f1, f2, f3, l⟩ := n
  dsimp only [ndV] at *
  generalize f3.length = m3 at *
  generalize l.length = m4 at *
  obtain ⟨lo, hlo⟩ : ∃ m, out.length = m := ⟨_, rfl⟩
  obtain ⟨ls, hls⟩ : ∃ m, sw.length = m := ⟨_, rfl⟩
  obtain ⟨la, hla⟩ : ∃ m, sq.length = m := ⟨_, rfl⟩
  obtain ⟨lt, hlt⟩ : ∃ m, T.length = m := ⟨_, rfl⟩
  have HLO := Lib.hid hlo
  have HLS := Lib.hid hls
  have HTL : Hid (sq.length = lt) := Lib.hid (by rw [hTl, hlt])
  have HLT := Lib.hid hlt
  have HSA := Lib.hid hsa
  rw [hlt] at hTl HSA HT
  rw [hlo] at HC HSA HP hlen ha ⊢
  try rw [hlo] at HE HO
  rw [hls] at HSh hlen
  rw [hTl] at HSh
  generalize encL ((lo : Int) - a - 1) e q = ev at *
  unfold WdV
  rw [hlt]
  clear hC h0 hO hsa hlo hls hla hTl l f3
  go_enter Tryd.func26, Tryd.ntmps26
  go_wp2_with (first | go_skip | ((with_reducible refine wl ?_); refine sp_put (i := a) (y := ev) rfl rfl rfl S ?hpp rfl han (by kernel_rfl) rfl (fun w1 S => ?_); (case hpp => first | (go_simp; done) | (go_simp; rfl))) | ((with_reducible refine wl ?_); first | (refine sn S (fun g w1 S => ?_); first | ((fail_if_success (have := gn)); revert g; intro gn S) | ((fail_if_success (have := gp)); revert g; intro gp S)) | refine ss S (fun w1 S => ?_) | refine sl S ?_ | refine sa S ?_) | ((with_reducible refine (HSh _ S.below).out.mono ?_); rintro r w' ⟨A1, c1, A2, c2, rfl, hq1, hq2, hb⟩; replace S := S.call hb; have HB1 := Lib.hid S.below; have HGN := Lib.hid (blk_cells (cs := [.int .i64 f0, .int .i64 f1, .int .i64 f2, .slice A3 m3 c3, .slice A4 m4 c4]) (S.blk .here)); have HCw := Lib.hid (Kd.C_below HC.out S.below); have HQ1 := Lib.hid hq1; have HQ2 := Lib.hid hq2; replace S := Sep.start w'; clear hq1 hq2 hb) | ((with_reducible refine gate_dst (N := 45) rfl ?_); refine sp_lit (Kd.int .u64) 32 (N := 45) rfl rfl S [] [] ?hr (Reps.none _ _) (by simp) (fun g w1 S => ?_); (case hr => first | (go_simp; done) | (go_simp; rfl))) | ((with_reducible refine gate_builtin (b := .append) (xs := #[.tmp 45, .tmp 46]) rfl ?_); at_builtin; refine sp_rows S rfl rfl Tryd.underlying22 info32 rfl (by decide) (by omega) rfl rfl (Kd.C_below HCw.out S.below) (fun _ _ h => h) (by have := HL.out; have := HLO.out; simp; omega) (fun v1 w1 S => ?_)) | ((with_reducible refine gate_builtin (b := .append) (xs := #[.tmp 47, .tmp 48]) rfl ?_); at_builtin; refine sp_rows S rfl rfl Tryd.underlying22 info32 rfl (by decide) (by omega) rfl rfl (Kd.C_below HQ1.out S.below) (fun _ _ h => h) (by have := HL.out; have := HLO.out; have := HLS.out; simp; omega) (fun v1 w1 S => ?_); obtain ⟨go, no, co, rfl, hno⟩ := R_adrN (S.outR .here) (by have := HLO.out; simp; omega); have HNO := Lib.hid hno.out; clear hno; have han : a < no := by rw [HNO.out]; have := HLO.out; simp; omega) | ((with_reducible refine (HE _).out.mono ?_); rintro r w' ⟨rfl, hb⟩; replace S := S.call hb) | ((with_reducible refine wl ?_); refine sxa S HGN.out ?_) | ((with_reducible refine (HT _ (below_step HB1.out S.below)).out.mono ?_); rintro r w' ⟨A5, c5, rfl, hq3, hb⟩; replace S := S.call hb; have HQ3 := Lib.hid hq3; clear hq3 hb))
  have HN0 : Hid (no = (outs 0).length ∧ (Kd.int .u64).C _ (some ⟨go, 0, none⟩) no (outs 0) ∧ no ≤ co) := Lib.hid (by
    have e0 : ([] ++ out ++ sw).set a ev = outs 0 := by rw [HO.out]; rfl
    have hR := S.outR .here
    rw [e0] at hR
    have h1 := R_C hR
    have h3 := (Kd.R_reads' hR).2.1
    have h2 : no = (outs 0).length := by rw [HNO.out, ← e0, List.length_set]
    rw [h2] at h3 ⊢
    exact ⟨rfl, h1, h3⟩)
  have HBB := Lib.hid (below_step HB1.out S.below)
  have HQ2 := Lib.hid (Kd.C_below HQ2.out S.below)
  clear HSh HT HE HGN HCw HB1 HNO han HO t0 HQ1 HC ha he0 he1 hq0 hq1
  go_loopw [11, 13] (fun v k wr => ∃ (i : Nat) (A6 : Option Addr) (n6 c6 : Nat), i ≤ lt ∧ k = .int .i64 i ∧ v = .slice A6 n6 c6 ∧ Hid (n6 = (outs i).length ∧ (Kd.int .u64).C wr A6 n6 (outs i) ∧ n6 ≤ c6) ∧ Hid ((Kd.int .i64).C wr A2 lt sq) ∧ Hid (k37.C wr A5 lt T) ∧ Hid (Below w.heap.size w wr)) (fun _ k _ => lt - (intOf k).toNat)
  case atStart => exact ⟨0, _, _, _, Nat.zero_le _, rfl, rfl, HN0, HQ2, HQ3, HBB⟩
  case round =>
    clear S HN0 HBB HQ2 HQ3
    obtain ⟨i, A6, n6, c6, hi, rfl, rfl, HO, HQ2, HQ3, HB⟩ := hrel
    by_cases hil : i < lt
    · have hltb := HQ3.out.2.1
      obtain ⟨q, hq, hq2⟩ := HSA.out i hil
      have hdr := below_drew1 (Below.refl wr.heap.size wr)
      obtain ⟨ad, rfl, hv⟩ := cellI (by rw [HTL.out]; exact Kd.C_below HQ2.out hdr) i (by rw [HTL.out]; exact hil)
      obtain ⟨ae, B3, d3, B4, d4, rfl, hN⟩ := kid_at (by rw [HLT.out]; exact Kd.C_below HQ3.out hdr) i (by rw [HLT.out]; exact hil)
      obtain ⟨x, hx⟩ : ∃ x, T[i]'(by rw [HLT.out]; exact hil) = x := ⟨_, rfl⟩
      have hx2 : T[i]? = some x := by rw [← hx]; exact List.getElem?_eq_getElem _
      rw [hx] at hN
      have HPi := HP.out i x A6 c6 B3 d3 B4 d4 wr.drew hx2 (by rw [← HO.out.1]; exact Kd.C_below HO.out.2.1 hdr) (by rw [← HO.out.1]; exact HO.out.2.2) hN.K
      rw [hq] at hv HPi
      rw [← HO.out.1] at HPi
      have HPi := Lib.hid HPi
      have HND := Lib.hid hN.cells
      have hwr : IntKind.i64.wrap ((lo : Int) + (q : Int)) = (lo : Int) + q := (i64_w _).trans (w64 (by omega) (by omega))
      clear hx hx2 hN hq
      go_wp2
      refine bws (Sep.start wr) (fun S2 => ?_)
      refine pu 0 66 ?_
      refine pu 1 67 ?_
      refine pu 2 68 ?_
      refine pu 3 69 ?_
      refine pu 4 70 ?_
      refine bwl 5 hv (Below.refl _ _) ?_
      refine pu 6 72 ?_
      refine pu 7 73 ?_
      refine pu 8 74 ?_
      refine pu 9 75 ?_
      refine bwa 10 HND.out (Below.refl _ _) ?_
      refine bwc 11 77 Tryd.func26 HPi.out (fun r' w2 hT => ?_)
      obtain ⟨A7, c7, rfl, ⟨hC7, hc7⟩, hb⟩ := hT
      refine ⟨_, rfl, hb, _, rfl, ?_⟩
      simp only [Act.put, List.setIfInBounds_toArray, List.set_cons_zero, List.set_cons_succ]
      refine pu 12 11 ?_
      refine dn ?_
      clear hwr
      go_wp2
      go_roundw
      case rel => exact ⟨i + 1, _, _, _, by omega, by go_num, rfl, Lib.hid ⟨rfl, hC7, hc7⟩, Lib.hid (Kd.C_below HQ2.out (below_step hdr hb)), Lib.hid (Kd.C_below HQ3.out (below_step hdr hb)), Lib.hid (below_step (below_drew1 HB.out) hb)⟩
      case measure => simp [intOf]; omega
    · obtain rfl : i = lt := by omega
      go_wp2
      obtain ⟨hn6, hC6, hc6⟩ := HO.out
      subst hn6
      exact rt (Sep.start _) ⟨_, _, rfl, ⟨hC6, hc6⟩, HB.out⟩
end Go.Proofs.YtidglmocekghmaaDoor.Pr
end
section
namespace Go.Proofs.YtidglmocekghmaaDoor.Pr
set_option linter.unusedVariables false
set_option linter.unusedSimpArgs false
def BytN (b : List Int) : Prop := ∀ x ∈ b, 0 ≤ x ∧ x < 256
def fitN (n : S37) : Prop :=
 n.f0 = 0 ∨
 (n.f0 = 1 ∧ BytN n.f3 ∧ n.f3.length % 8 = 0 ∧ n.f3.length / 8 ≤ 65535 ∧ n.f4.length ≤ 65535) ∨
 (n.f0 = 2 ∧ 0 ≤ n.f1 ∧ n.f1 < 6 ∧ 0 ≤ n.f2 ∧ n.f2 ≤ 536870911 ∧ BytN n.f3 ∧ n.f3.length ≤ 8 * (wordsE n.f1 n.f2).toNat ∧ (wordsE n.f1 n.f2).toNat ≤ n.f3.length ∧ n.f4 = []) ∨
 (n.f0 = 2 ∧ n.f1 = 6 ∧ n.f2 = n.f4.length ∧ n.f4.length ≤ 536870911 ∧ n.f3 = []) ∨
 (n.f0 = 2 ∧ n.f1 = 7 ∧ n.f2 = n.f4.length ∧ n.f4.length ≤ 536870911 ∧ n.f3 = [] ∧ ∀ x ∈ n.f4, x.f0 = 1)
def fitT : S37 → Prop := AllT fitN
theorem fitN.kind {n : S37} (h : fitN n) (h0 : n.f0 ≠ 0) : n.f0 = 1 ∨ (n.f0 = 2 ∧ (n.f1 = 7 ∨ n.f1 = 6 ∨ n.f4 = [])) := by
 rcases h with h | h | h | h | h
 ·exact (h0 h).elim
 ·exact .inl h.1
 ·exact .inr ⟨h.1, .inr (.inr h.2.2.2.2.2.2.2.2)⟩
 ·exact .inr ⟨h.1, .inr (.inl h.2.1)⟩
 ·exact .inr ⟨h.1, .inl h.2.1⟩
theorem targets_size {n x : S37} (h : x ∈ targetsL n) : tsize x < tsize n := by
 unfold targetsL at h
 by_cases hq : n.f0 = 2 ∧ n.f1 = 7
 ·rw [if_pos hq] at h
  obtain ⟨y, hy, hx⟩ := List.mem_flatMap.1 h
  exact Nat.lt_trans (tsize_kid hx) (tsize_kid hy)
 ·rw [if_neg hq] at h
  exact tsize_kid h
theorem targets_fit {n : S37} (h : fitT n) : ∀ x ∈ targetsL n, fitT x := by
 intro x hx
 unfold targetsL at hx
 by_cases hq : n.f0 = 2 ∧ n.f1 = 7
 ·rw [if_pos hq] at hx
  obtain ⟨y, hy, hx⟩ := List.mem_flatMap.1 hx
  exact AllT.kids (AllT.kids h y hy) x hx
 ·rw [if_neg hq] at hx
  exact AllT.kids h x hx
mutual
theorem placeW_ge : ∀ (n : S37) (out : List Int) (a : Nat), out.length ≤ (placeW n out a).length
 | ⟨k, e, n, b, l⟩, out, a => by
  have h1 := putW_len ⟨k, e, n, b, l⟩ out a
  unfold placeW
  split
  ·exact Nat.le_refl _
  split
  ·exact Nat.le_trans (by omega) (placesW_ge l _ _)
  split
  ·exact Nat.le_trans (by omega) (placeE_ge _ _ l _ _)
  split
  ·exact Nat.le_trans (by omega) (placesW_ge l _ _)
  ·omega
theorem placesW_ge : ∀ (l : List S37) (out : List Int) (a : Nat), out.length ≤ (placesW l out a).length
 | [], out, a => by unfold placesW; exact Nat.le_refl _
 | x :: l, out, a => by unfold placesW; exact Nat.le_trans (placeW_ge x out a) (placesW_ge l _ _)
theorem placeE_ge (A B : Nat) : ∀ (l : List S37) (out : List Int) (a : Nat), out.length ≤ (placeE A B l out a).length
 | [], out, a => by unfold placeE; exact Nat.le_refl _
 | ⟨_, _, _, _, k⟩ :: l, out, a => by unfold placeE; exact Nat.le_trans (placesW_ge k out _) (placeE_ge A B l _ _)
end
theorem plAll_ge : ∀ (l : List S37) (ps : List Int) (st : Nat) (out : List Int), out.length ≤ (plAll l ps st out).length
 | x :: l, q :: ps, st, out => by unfold plAll; exact Nat.le_trans (placeW_ge x out _) (plAll_ge l ps st _)
 | [], _, _, _ => by unfold plAll; exact Nat.le_refl _
 | _ :: _, [], _, _ => by unfold plAll; exact Nat.le_refl _
theorem sq_add (x u : Nat) : (x + u) * (x + u) = x * x + 2 * (x * u) + u * u := by
 rw [Nat.add_mul, Nat.mul_add, Nat.mul_add, Nat.mul_comm u x]
 omega
theorem plAll_le {S : Nat} (hP : ∀ x, tsize x < S → ∀ (out : List Int) (a : Nat), fitT x → (placeW x out a).length ≤ out.length + tsize x * tsize x) : ∀ (l : List S37) (ps : List Int) (st : Nat) (out : List Int), (∀ x ∈ l, tsize x < S ∧ fitT x) → (plAll l ps st out).length ≤ out.length + tsizes l * tsizes l
 | x :: l, q :: ps, st, out, h => by
  unfold plAll
  have h1 := hP x (h x List.mem_cons_self).1 out (st + q.toNat) (h x List.mem_cons_self).2
  have h2 := plAll_le hP l ps st (placeW x out (st + q.toNat)) (fun y hy => h y (List.mem_cons_of_mem _ hy))
  rw [tsizes, sq_add]
  omega
 | [], _, _, _, _ => by unfold plAll; omega
 | _ :: _, [], _, _, _ => by unfold plAll; omega
theorem sumL (l : List S37) : maxD l ≤ tsizes l ∧ maxP l ≤ tsizes (l.flatMap (·.f4)) ∧ l.length + maxD l + tsizes (l.flatMap (·.f4)) ≤ tsizes l := by
 induction l with
 | nil => simp [maxD, maxP, tsizes]
 | cons y l ih =>
  obtain ⟨h1, h2, h3⟩ := ih
  have hs := tsize_eq y
  have ha : tsizes (y.f4 ++ l.flatMap (·.f4)) = tsizes y.f4 + tsizes (l.flatMap (·.f4)) := by
   generalize l.flatMap (·.f4) = m
   induction y.f4 with
   | nil => simp [tsizes]
   | cons z k ih => rw [List.cons_append, tsizes, tsizes, ih]; omega
  have hl := length_tsizes y.f4
  rw [List.flatMap_cons, ha]
  unfold maxD maxP
  rw [tsizes, List.length_cons]
  omega
theorem placeW_le : ∀ (S : Nat) (n : S37), tsize n < S → ∀ (out : List Int) (a : Nat), fitT n → (placeW n out a).length ≤ out.length + tsize n * tsize n
 | 0, n, h, _, _, _ => by omega
 | S + 1, n, h, out, a, hf => by
  by_cases h0 : n.f0 = 0
  ·obtain ⟨k, e, m, b, l⟩ := n
   unfold placeW
   rw [if_pos h0]
   omega
  have hk := (AllT.here hf).kind h0
  rw [placeW_all n out a h0 hk]
  have h1 := plAll_le (S := tsize n) (fun x hx out a hfx => placeW_le S x (by omega) out a hfx) (targetsL n) (atW n) out.length (putW n out a) (fun x hx => ⟨targets_size hx, targets_fit hf x hx⟩)
  rw [putW_len] at h1
  refine Nat.le_trans h1 ?_
  rw [Nat.add_assoc]
  refine Nat.add_le_add_left ?_ _
  have hs := tsize_eq n
  have hl := length_tsizes n.f4
  have main : ∀ (x U : Nat), 1 ≤ x → tsize n = x + U → (shallowW n).length ≤ x + 2 * U → (shallowW n).length + U * U ≤ tsize n * tsize n := by
   intro x U hx e hw
   rw [e, sq_add]
   have y1 : x * 1 ≤ x * x := Nat.mul_le_mul_left _ hx
   have y2 : 1 * U ≤ x * U := Nat.mul_le_mul_right _ hx
   omega
  rcases AllT.here hf with h | ⟨h, _, _, _, _⟩ | ⟨h, e0, e6, _, _, _, _, hw, hn⟩ | ⟨h, e6, _, _, h3⟩ | ⟨h, e7, _, _, h3, _⟩
  ·exact (h0 h).elim
  ·have hT : targetsL n = n.f4 := if_neg (by omega)
   rw [hT]
   refine main (1 + n.f3.length) (tsizes n.f4) (by omega) (by omega) ?_
   unfold shallowW
   rw [if_pos h, List.length_append, wordsB_len, List.length_replicate]
   omega
  ·have hT : targetsL n = n.f4 := if_neg (by omega)
   rw [hT]
   refine main (1 + n.f3.length) (tsizes n.f4) (by omega) (by omega) ?_
   unfold shallowW
   rw [if_neg (by omega), if_neg (by omega), if_neg (by omega), wordsB_len]
   omega
  ·have hT : targetsL n = n.f4 := if_neg (by omega)
   rw [hT]
   refine main (1 + n.f3.length) (tsizes n.f4) (by omega) (by omega) ?_
   unfold shallowW
   rw [if_neg (by omega), if_neg (by omega), if_pos e6, List.length_replicate]
   omega
  ·have hT : targetsL n = n.f4.flatMap (·.f4) := if_pos ⟨h, e7⟩
   rw [hT]
   obtain ⟨s1, s2, s3⟩ := sumL n.f4
   have hw : (shallowW n).length = 1 + n.f4.length * (maxD n.f4 + maxP n.f4) := by
    unfold shallowW
    rw [if_neg (by omega), if_pos e7, List.length_cons, shallowE_len]
    omega
   rw [hw]
   generalize maxD n.f4 = A at *
   generalize maxP n.f4 = B at *
   generalize tsizes (n.f4.flatMap (·.f4)) = U at *
   generalize n.f4.length = m at *
   have y0 : 1 + m + (A + U) ≤ tsize n := by omega
   have y1 : (1 + m + (A + U)) * (1 + m + (A + U)) ≤ tsize n * tsize n := Nat.mul_le_mul y0 y0
   rw [sq_add] at y1
   have y2 : m * (A + B) ≤ (1 + m) * (A + U) := Nat.mul_le_mul (by omega) (by omega)
   have y3 : U * U ≤ (A + U) * (A + U) := Nat.mul_le_mul (by omega) (by omega)
   have y4 : 1 * 1 ≤ (1 + m) * (1 + m) := Nat.mul_le_mul (by omega) (by omega)
   omega
end Go.Proofs.YtidglmocekghmaaDoor.Pr
end
section
namespace Go.Proofs.YtidglmocekghmaaDoor.Pr
open Go.RowKit Go.Proofs.YtidglmocekghmaaDoorW.PrintWords Go.Proofs.YtidglmocekghmaaDoorW.PrintLast Go.Proofs.YtidglmocekghmaaDoorW.PrintMore
set_option linter.unusedVariables false
set_option linter.unusedSimpArgs false
theorem K_below {w w' : World} {x : S37} {cs : List Value} (hb : Below w.heap.size w w') (h : k37.K w x cs) : k37.K w' x cs := k37.K_below hb h
theorem maxD_bd {l : List S37} {k : Nat} (h : ∀ x ∈ l, x.f3.length / 8 ≤ k) : maxD l ≤ k := by
 induction l with
 | nil => exact Nat.zero_le _
 | cons y l ih =>
  have h1 := h y List.mem_cons_self
  have h2 := ih (fun x hx => h x (List.mem_cons_of_mem _ hx))
  unfold maxD
  omega
theorem maxP_bd {l : List S37} {k : Nat} (h : ∀ x ∈ l, x.f4.length ≤ k) : maxP l ≤ k := by
 induction l with
 | nil => exact Nat.zero_le _
 | cons y l ih =>
  have h1 := h y List.mem_cons_self
  have h2 := ih (fun x hx => h x (List.mem_cons_of_mem _ hx))
  unfold maxP
  omega
theorem atW_le {n : S37} (h6 : n.f0 = 1 ∨ n.f1 = 7 ∨ n.f1 = 6 ∨ n.f4 = []) : (atW n).length ≤ (shallowW n).length := by
 unfold atW shallowW
 by_cases h1 : n.f0 = 1
 ·rw [if_pos h1, if_pos h1, atS_len, List.length_append, List.length_replicate]
  omega
 ·rw [if_neg h1, if_neg h1]
  by_cases h7 : n.f1 = 7
  ·rw [if_pos h7, if_pos h7, List.length_cons, shallowE_len]
   have := atE_len (maxD n.f4) (maxP n.f4) n.f4 1 (fun x hx => maxP_le hx)
   omega
  ·rw [if_neg h7, if_neg h7, atS_len]
   by_cases e6 : n.f1 = 6
   ·rw [if_pos e6, List.length_replicate]
    omega
   ·rcases h6 with h6 | h6 | h6 | h6
    ·exact (h1 h6).elim
    ·exact (h7 h6).elim
    ·exact (e6 h6).elim
    ·rw [h6]
     simp
theorem wd_mem {l : List Int} {i : Nat} (h : i < l.length) : wd l i ∈ l := by
 unfold wd
 rw [List.getD_eq_getElem?_getD, List.getElem?_eq_getElem h]
 exact List.getElem_mem h
theorem shallow_any (n : S37) (A3 A4 : Option Addr) (c3 c4 : Nat) (w : World) (h : k37.K w n (ndC n A3 c3 A4 c4)) (hf : fitT n) (h0 : n.f0 ≠ 0) (hs : (shallowW n).length ≤ 536870000) : Calls Tryd.prog 48 #[ndV n A3 c3 A4 c4] w (ShV w n) := by
 rcases AllT.here hf with h' | ⟨h1, hb, h8, hd, hp⟩ | ⟨h2, e0, e6, n0, n1, hb, hl, hw, hk⟩ | ⟨h2, e6, hn, hl, h3⟩ | ⟨h2, e7, hn, hl, h3, hx⟩
 ·exact (h0 h').elim
 ·exact shallow_s n A3 A4 c3 c4 w h h1 hb h8 hd hp
 ·exact shallow_l n A3 A4 c3 c4 w h h2 (by omega) hb n0 n1 hl (fun e => by omega) (by rw [hk]; simp)
 ·exact shallow_l n A3 A4 c3 c4 w h h2 (by omega) (by rw [h3]; intro x hx; cases hx) (by omega) (by omega) (by rw [h3]; simp) (fun _ => ⟨h3, hn.symm⟩) hl
 ·have hk : ∀ x ∈ n.f4, BytN x.f3 ∧ x.f3.length % 8 = 0 ∧ x.f3.length / 8 ≤ 65535 ∧ x.f4.length ≤ 65535 := fun x hx2 => by
   have h1 := hx x hx2
   rcases AllT.here (AllT.kids hf x hx2) with h' | h' | h' | h' | h'
   ·omega
   ·exact h'.2
   ·omega
   ·omega
   ·omega
  have hsl : (shallowW n).length = n.f4.length * (maxD n.f4 + maxP n.f4) + 1 := by
   unfold shallowW
   rw [if_neg (by omega), if_pos e7, List.length_cons, shallowE_len]
  exact shallow_c n A3 A4 c3 c4 w h h2 e7 (fun x hx2 => ⟨(hk x hx2).1, (hk x hx2).2.1⟩) hn hl (maxD_bd (fun x hx2 => (hk x hx2).2.2.1)) (maxP_bd (fun x hx2 => (hk x hx2).2.2.2)) (by omega)
set_option maxRecDepth 100000 in
theorem place_0 (n : S37) (A3 A4 : Option Addr) (c3 c4 : Nat) (A : Option Addr) (c : Nat) (out : List Int) (a : Nat) (w : World) (hC : (Kd.int .u64).C w A out.length out) (hcp : out.length ≤ c) (h0 : n.f0 = 0) :
    Calls Tryd.prog 26 #[.slice A out.length c, .int .i64 a, ndV n A3 c3 A4 c4] w (WdV w out) := by
  have S := Sep.start w
  have HC := Lib.hid hC
  have HCP := Lib.hid hcp
  obtain ⟨f0, f1, f2, f3, l⟩ := n
  dsimp only [ndV] at *
  subst h0
  unfold WdV
  clear hC hcp
  go_enter Tryd.func26, Tryd.ntmps26
  go_wp2_with (first | go_skip | ((with_reducible refine wl ?_); first | refine sn S (fun g w1 S => ?_) | refine sl S ?_))
  exact rt S ⟨_, _, rfl, ⟨Kd.C_below HC.out S.below, HCP.out⟩, S.below⟩
theorem place_any : ∀ (S : Nat) (n : S37), tsize n < S → fitT n → ∀ (A : Option Addr) (c : Nat) (out : List Int) (a : Nat) (A3 : Option Addr) (c3 : Nat) (A4 : Option Addr) (c4 : Nat) (w : World), (Kd.int .u64).C w A out.length out → out.length ≤ c → a < out.length → (placeW n out a).length ≤ 536870000 → k37.K w n (ndC n A3 c3 A4 c4) →
  Calls Tryd.prog 26 #[.slice A out.length c, .int .i64 a, ndV n A3 c3 A4 c4] w (WdV w (placeW n out a))
 | 0, n, h, _ => by omega
 | S + 1, n, hS, hf => by
  intro A c out a A3 c3 A4 c4 w hC hcp ha hlen hK
  by_cases h0 : n.f0 = 0
  ·have e : placeW n out a = out := by
    obtain ⟨k, e, m, b, l⟩ := n
    unfold placeW
    exact if_pos h0
   rw [e]
   exact place_0 n A3 A4 c3 c4 A c out a w hC hcp h0
  have hk := (AllT.here hf).kind h0
  have hk6 : n.f0 = 1 ∨ n.f1 = 7 ∨ n.f1 = 6 ∨ n.f4 = [] := hk.elim .inl (fun h => .inr h.2)
  have hk12 : n.f0 = 1 ∨ n.f0 = 2 := hk.elim .inl (fun h => .inr h.1)
  have hpair := atW_pair n hk12
  have hall := placeW_all n out a h0 hk
  have hput := putW_len n out a
  have hge := plAll_ge (targetsL n) (atW n) out.length (putW n out a)
  rw [← hall] at hge
  have hsl : out.length + (shallowW n).length ≤ 536870000 := by omega
  have hfin : (fun i => plAll ((targetsL n).take i) ((atW n).take i) out.length (putW n out a)) (targetsL n).length = placeW n out a := by
   dsimp only
   rw [List.take_length, ← hpair, List.take_length, hall]
  have HP : PlR_ out.length (atW n) (targetsL n) (fun i => plAll ((targetsL n).take i) ((atW n).take i) out.length (putW n out a)) := by
   intro i x A' c' B3 d3 B4 d4 w' hx hC' hcp' hK'
   obtain ⟨hi, rfl⟩ := List.getElem?_eq_some_iff.1 hx
   have hi2 : i < (atW n).length := by omega
   have hm : wd (atW n) i ∈ atW n := wd_mem hi2
   obtain ⟨q, hq, hql⟩ := atW_mem hk6 hm
   have e1 : plAll ((targetsL n).take (i + 1)) ((atW n).take (i + 1)) out.length (putW n out a) = placeW (targetsL n)[i] (plAll ((targetsL n).take i) ((atW n).take i) out.length (putW n out a)) (out.length + q) := by
    rw [take_snoc _ _ hi, take_wd _ _ hi2, plAll_snoc _ _ _ _ _ _ (by rw [List.length_take, List.length_take]; omega), hq, Int.toNat_natCast]
   have hge2 := plAll_ge ((targetsL n).take i) ((atW n).take i) out.length (putW n out a)
   have hrest : (plAll ((targetsL n).take (i + 1)) ((atW n).take (i + 1)) out.length (putW n out a)).length ≤ (placeW n out a).length := by
    have h1 := plAll_append ((targetsL n).take (i + 1)) ((atW n).take (i + 1)) ((targetsL n).drop (i + 1)) ((atW n).drop (i + 1)) out.length (putW n out a) (by rw [List.length_take, List.length_take]; omega)
    rw [List.take_append_drop, List.take_append_drop, ← hall] at h1
    rw [h1]
    exact plAll_ge _ _ _ _
   have hsz := targets_size (List.getElem_mem hi)
   have IH := place_any S (targetsL n)[i] (by omega) (targets_fit hf _ (List.getElem_mem hi)) A' c' (plAll ((targetsL n).take i) ((atW n).take i) out.length (putW n out a)) (out.length + q) B3 d3 B4 d4 w' hC' hcp' (by omega) (by rw [← e1]; omega) hK'
   rw [← e1, Int.natCast_add] at IH
   rw [hq]
   exact IH
  have HSh : ∀ w', Below w.heap.size w w' → Calls Tryd.prog 48 #[ndV n A3 c3 A4 c4] w' (ShV w' n) := fun w' hb => shallow_any n A3 A4 c3 c4 w' (K_below hb hK) hf h0 (by omega)
  have hle := atW_le hk6
  have HT : TaR_ n A3 c3 A4 c4 (targetsL n) w := fun w' hb => targets_any n A3 A4 c3 c4 w' (K_below hb hK) (by omega)
  have hsa : ∀ i, i < (targetsL n).length → ∃ q : Nat, wd (atW n) i = q ∧ out.length + q ≤ 536870000 := fun i hi => by
   obtain ⟨q, hq, hql⟩ := atW_mem hk6 (wd_mem (by omega : i < (atW n).length))
   exact ⟨q, hq, by omega⟩
  have hO : (fun i => plAll ((targetsL n).take i) ((atW n).take i) out.length (putW n out a)) 0 = (out ++ shallowW n).set a (ptrW n ((out.length : Int) - a - 1)) := by
   dsimp only
   rw [List.take_zero, List.take_zero]
   rfl
  rw [← hfin]
  rcases AllT.here hf with h' | ⟨h1, hb, h8, hd, hp⟩ | ⟨h2, e0, e6, n0, n1, hb, hl, hw, hk⟩ | ⟨h2, e6, hn, hl, h3⟩ | ⟨h2, e7, hn, hl, h3, hx⟩
  ·exact (h0 h').elim
  ·have hv : ptrV n = ptS 0 (n.f3.length / 8 : Nat) n.f4.length := if_pos h1
   have HS2 : ShR_ n A3 c3 A4 c4 (ptS 0 (n.f3.length / 8 : Nat) n.f4.length) (shallowW n) (atW n) w := fun w' hb => by
    have := HSh w' hb
    unfold ShV at this
    rwa [hv] at this
   have hpt : ptrW n ((out.length : Int) - a - 1) = if n.f3.length / 8 + n.f4.length = 0 then encS (-1) 0 0 else encS ((out.length : Int) - a - 1) (n.f3.length / 8 : Nat) n.f4.length := if_pos h1
   rw [hpt] at hO
   by_cases hd0 : n.f3.length / 8 = 0
   ·by_cases hp0 : n.f4.length = 0
    ·rw [if_pos (by omega)] at hO
     exact place_s3 n A3 A4 c3 c4 A c out a _ _ w _ _ _ _ hC ha h0 HS2 HT hsl hsa hpair hd hp hd0 hp0 (hO.trans (by rw [hd0, hp0]; rfl)) HP
    ·rw [if_neg (by omega)] at hO
     exact place_s2 n A3 A4 c3 c4 A c out a _ _ w _ _ _ _ hC ha h0 HS2 HT hsl hsa hpair hd hp hd0 hp0 hO HP
   ·rw [if_neg (by omega)] at hO
    exact place_s1 n A3 A4 c3 c4 A c out a _ _ w _ _ _ _ hC ha h0 HS2 HT hsl hsa hpair hd hp hd0 hO HP
  ·have hv : ptrV n = ptL 0 n.f1 n.f2 := by unfold ptrV; rw [if_neg (by omega), if_neg (by omega)]
   have HS2 : ShR_ n A3 c3 A4 c4 (ptL 0 n.f1 n.f2) (shallowW n) (atW n) w := fun w' hb => by
    have := HSh w' hb
    unfold ShV at this
    rwa [hv] at this
   have hpt : ptrW n ((out.length : Int) - a - 1) = encL ((out.length : Int) - a - 1) n.f1 n.f2 := by unfold ptrW; rw [if_neg (by omega), if_neg (by omega), if_neg (by omega)]
   rw [hpt] at hO
   exact place_l n A3 A4 c3 c4 A c out a _ _ w _ _ _ _ hC ha h0 HS2 HT hsl hsa hpair (by omega) (by omega) (by omega) (by omega) hO HP
  ·have hv : ptrV n = ptL 0 n.f1 n.f2 := by unfold ptrV; rw [if_neg (by omega), if_neg (by omega)]
   have HS2 : ShR_ n A3 c3 A4 c4 (ptL 0 n.f1 n.f2) (shallowW n) (atW n) w := fun w' hb => by
    have := HSh w' hb
    unfold ShV at this
    rwa [hv] at this
   have hpt : ptrW n ((out.length : Int) - a - 1) = encL ((out.length : Int) - a - 1) n.f1 n.f2 := by unfold ptrW; rw [if_neg (by omega), if_neg (by omega), if_pos e6, e6, hn]
   rw [hpt] at hO
   exact place_l n A3 A4 c3 c4 A c out a _ _ w _ _ _ _ hC ha h0 HS2 HT hsl hsa hpair (by omega) (by omega) (by omega) (by omega) hO HP
  ·have hv : ptrV n = ptL 0 7 (n.f4.length * (maxD n.f4 + maxP n.f4) : Nat) := by unfold ptrV; rw [if_neg (by omega), if_pos e7]
   have HS2 : ShR_ n A3 c3 A4 c4 (ptL 0 7 (n.f4.length * (maxD n.f4 + maxP n.f4) : Nat)) (shallowW n) (atW n) w := fun w' hb => by
    have := HSh w' hb
    unfold ShV at this
    rwa [hv] at this
   have hpt : ptrW n ((out.length : Int) - a - 1) = encL ((out.length : Int) - a - 1) 7 (n.f4.length * (maxD n.f4 + maxP n.f4) : Nat) := by unfold ptrW; rw [if_neg (by omega), if_pos e7]
   have hsw : (shallowW n).length = n.f4.length * (maxD n.f4 + maxP n.f4) + 1 := by
    unfold shallowW
    rw [if_neg (by omega), if_pos e7, List.length_cons, shallowE_len]
   rw [hpt] at hO
   exact place_l n A3 A4 c3 c4 A c out a _ _ w _ _ _ _ hC ha h0 HS2 HT hsl hsa hpair (by omega) (by omega) (by omega) (by omega) hO HP
end Go.Proofs.YtidglmocekghmaaDoor.Pr
end
section
namespace Go.Proofs.YtidglmocekghmaaDoor.Pr
open Go.RowKit Go.Proofs.YtidglmocekghmaaDoorW.PrintWords Go.Proofs.YtidglmocekghmaaDoorW.PrintLast Go.Proofs.YtidglmocekghmaaDoorW.PrintMore
set_option linter.unusedVariables false
set_option linter.unusedSimpArgs false
theorem tsizes_snoc (l : List S37) (i : Nat) (h : i < l.length) : tsizes (l.take (i + 1)) = tsizes (l.take i) + tsize l[i] := tsizes_take l i h
theorem tsizes_leT (l : List S37) (i : Nat) : tsizes (l.take i) ≤ tsizes l := by
 induction l generalizing i with
 | nil => simp
 | cons x l ih =>
  cases i with
  | zero => simp [tsizes]
  | succ i => have := ih i; rw [List.take_succ_cons, tsizes, tsizes]; omega
def NumV (w : World) (p : Int → Prop) (r : Ending) (w' : World) : Prop := ∃ x, r = .returned (.int .i64 x) ∧ p x ∧ Below w.heap.size w w'
set_option maxRecDepth 100000 in
set_option maxHeartbeats 4000000 in
theorem size_any : ∀ (S : Nat) (n : S37), tsize n < S → tsize n ≤ 1000000000000 → ∀ (A3 : Option Addr) (c3 : Nat) (A4 : Option Addr) (c4 : Nat) (w : World), k37.K w n (ndC n A3 c3 A4 c4) → Calls Tryd.prog 42 #[ndV n A3 c3 A4 c4] w (NumV w (fun x => x = (tsize n : Int)))
  | 0, n, h, _ => by omega
  | S + 1, n, hS, hB => by
    intro A3 c3 A4 c4 w h
    obtain ⟨-, -, -, g4⟩ := K_C3 h
    have HK := Lib.hid (fun i hi => kid_at g4 i hi)
    have ht := tsize_eq n
    have hl := length_tsizes n.f4
    have HI : Hid (∀ (i : Nat) (x : S37), n.f4[i]? = some x → ∀ A3 c3 A4 c4 w', k37.K w' x (ndC x A3 c3 A4 c4) → Calls Tryd.prog 42 #[ndV x A3 c3 A4 c4] w' (NumV w' (fun y => y = (tsize x : Int)))) := Lib.hid (fun i x hx A3 c3 A4 c4 w' hk => by
      have := tsize_kid (List.mem_of_getElem? hx)
      exact size_any S x (by omega) (by omega) A3 c3 A4 c4 w' hk)
    have HM := Lib.hid (fun i hi => tsizes_snoc n.f4 i hi)
    have HLE := Lib.hid (tsizes_leT n.f4)
    have HL : Hid ((1 : Int) + n.f3.length + (tsizes (n.f4.take n.f4.length) : Int) = (tsize n : Int)) := Lib.hid (by rw [List.take_length]; omega)
    have HBD : Hid (1 + n.f3.length + tsizes n.f4 ≤ 1000000000000) := Lib.hid (by omega)
    have hm3 : n.f3.length ≤ 1000000000000 := by omega
    have hm4 : n.f4.length ≤ 1000000000000 := by omega
    generalize tsize n = z at *
    obtain ⟨f0, f1, f2, f3, l⟩ := n
    dsimp only [ndV, ndC] at *
    generalize f3.length = m3 at *
    obtain ⟨m, hm⟩ : ∃ m, l.length = m := ⟨_, rfl⟩
    rw [hm] at HL hm4 ⊢
    have HH := Lib.hid hm
    have S := Sep.start w
    unfold NumV at *
    clear g4 h hm hl ht hB
    go_enter Tryd.func42, Tryd.ntmps42
    go_wp2_with (first | go_skip | ((with_reducible refine wl ?_); first | (refine sn S (fun g w1 S => ?_); first | ((fail_if_success (have := gn)); revert g; intro gn S)) | refine sl S ?_))
    have S := Lib.hid S
    go_loopw [3, 4] (fun a k wr => ∃ j : Nat, j ≤ m ∧ k = .int .i64 j ∧ a = .int .i64 (1 + (m3 : Int) + (tsizes (l.take j) : Int)) ∧ Hid (Sep w wr [.box gn #[.int .i64 f0, .int .i64 f1, .int .i64 f2, .slice A3 m3 c3, .slice A4 m c4] 37])) (fun _ k _ => m - (intOf k).toNat)
    case atStart => exact ⟨0, Nat.zero_le _, rfl, by simp [tsizes], S⟩
    case round =>
      clear S
      obtain ⟨j, hj, rfl, rfl, S⟩ := hrel
      by_cases hjl : j < m
      · obtain ⟨ad, B3, d3, B4, d4, rfl, hN⟩ := HK.out j (by rw [HH.out]; exact hjl)
        have e1 := HM.out j (by rw [HH.out]; exact hjl)
        have e2 := HLE.out (j + 1)
        have e3 := HBD.out
        obtain ⟨x, hx⟩ : ∃ x, l[j]'(by rw [HH.out]; exact hjl) = x := ⟨_, rfl⟩
        have hx2 : l[j]? = some x := by rw [← hx]; exact List.getElem?_eq_getElem _
        rw [hx] at hN e1
        have HIx := fun w' (hb : Below w.heap.size w w') => Lib.hid (HI.out j x hx2 B3 d3 B4 d4 w' (K_below hb hN.K))
        have HND := Lib.hid hN.cells
        have E1 := Lib.hid e1
        have y1 : 1 + (m3 : Int) + (tsizes (l.take j) : Int) + tsize x ≤ 1000000000000 := by omega
        clear hx hx2 hN e1 e2 e3
        generalize tsizes (l.take j) = t at *
        generalize tsize x = u at *
        have S := S.out
        go_wp2_with (first | go_skip | ((with_reducible refine wl ?_); first | refine sl S ?_ | refine sxa S HND.out ?_) | ((with_reducible refine (HIx _ S.below).out.mono ?_); rintro r w' ⟨y, rfl, rfl, hb⟩; replace S := S.call hb))
        go_roundw
        case rel => exact ⟨j + 1, by omega, by go_num, by rw [E1.out]; congr 1; omega, Lib.hid S⟩
        case measure => simp [intOf]; omega
      · obtain rfl : j = m := by omega
        have S := S.out
        rw [HL.out]
        go_wp2_with (first | go_skip | ((with_reducible refine wl ?_); refine sl S ?_))
        exact rt S ⟨_, rfl, rfl, S.below⟩
set_option maxRecDepth 100000 in
set_option maxHeartbeats 4000000 in
theorem nest_any : ∀ (S : Nat) (n : S37), tsize n < S → tsize n ≤ 1000000000000 → ∀ (A3 : Option Addr) (c3 : Nat) (A4 : Option Addr) (c4 : Nat) (w : World), k37.K w n (ndC n A3 c3 A4 c4) → Calls Tryd.prog 43 #[ndV n A3 c3 A4 c4] w (NumV w (fun x => 1 ≤ x ∧ x ≤ (tsize n : Int)))
  | 0, n, h, _ => by omega
  | S + 1, n, hS, hB => by
    intro A3 c3 A4 c4 w h
    obtain ⟨-, -, -, g4⟩ := K_C3 h
    have HK := Lib.hid (fun i hi => kid_at g4 i hi)
    have ht := tsize_eq n
    have hl := length_tsizes n.f4
    have HI : Hid (∀ (i : Nat) (x : S37), n.f4[i]? = some x → ∀ A3 c3 A4 c4 w', k37.K w' x (ndC x A3 c3 A4 c4) → Calls Tryd.prog 43 #[ndV x A3 c3 A4 c4] w' (NumV w' (fun y => 1 ≤ y ∧ y ≤ (tsize n : Int) - 1))) := Lib.hid (fun i x hx A3 c3 A4 c4 w' hk => by
      have := tsize_kid (List.mem_of_getElem? hx)
      refine (nest_any S x (by omega) (by omega) A3 c3 A4 c4 w' hk).mono ?_
      rintro r w' ⟨y, rfl, h1, hb⟩
      exact ⟨y, rfl, by omega, hb⟩)
    have hz1 : 1 ≤ tsize n := by omega
    have hz2 : tsize n ≤ 1000000000000 := by omega
    have hm4 : n.f4.length ≤ 1000000000000 := by omega
    generalize tsize n = z at *
    obtain ⟨f0, f1, f2, f3, l⟩ := n
    dsimp only [ndV, ndC] at *
    generalize f3.length = m3 at *
    obtain ⟨m, hm⟩ : ∃ m, l.length = m := ⟨_, rfl⟩
    rw [hm] at hm4 ⊢
    have HH := Lib.hid hm
    have S := Sep.start w
    unfold NumV at *
    clear g4 h hm hl ht hB
    go_enter Tryd.func43, Tryd.ntmps43
    go_wp2_with (first | go_skip | ((with_reducible refine wl ?_); first | (refine sn S (fun g w1 S => ?_); first | ((fail_if_success (have := gn)); revert g; intro gn S)) | refine sl S ?_))
    have S := Lib.hid S
    go_loopw [3, 4] (fun a k wr => ∃ (j : Nat) (y : Int), j ≤ m ∧ k = .int .i64 j ∧ a = .int .i64 y ∧ 0 ≤ y ∧ y ≤ (z : Int) - 1 ∧ Hid (Sep w wr [.box gn #[.int .i64 f0, .int .i64 f1, .int .i64 f2, .slice A3 m3 c3, .slice A4 m c4] 37])) (fun _ k _ => m - (intOf k).toNat)
    case atStart => exact ⟨0, 0, Nat.zero_le _, rfl, rfl, by omega, by omega, S⟩
    case round =>
      clear S
      obtain ⟨j, y, hj, rfl, rfl, y0, y1, S⟩ := hrel
      by_cases hjl : j < m
      · obtain ⟨ad, B3, d3, B4, d4, rfl, hN⟩ := HK.out j (by rw [HH.out]; exact hjl)
        obtain ⟨x, hx⟩ : ∃ x, l[j]'(by rw [HH.out]; exact hjl) = x := ⟨_, rfl⟩
        have hx2 : l[j]? = some x := by rw [← hx]; exact List.getElem?_eq_getElem _
        rw [hx] at hN
        have HIx := fun w' (hb : Below w.heap.size w w') => Lib.hid (HI.out j x hx2 B3 d3 B4 d4 w' (K_below hb hN.K))
        have HND := Lib.hid hN.cells
        clear hx hx2 hN
        have S := S.out
        go_wp2_with (first | go_skip | ((with_reducible refine wl ?_); first | refine sl S ?_ | refine sxa S HND.out ?_) | ((with_reducible refine (HIx _ S.below).out.mono ?_); rintro r w' ⟨u, rfl, ⟨u0, u1⟩, hb⟩; replace S := S.call hb))
        go_roundw
        case rel => exact ⟨j + 1, max y u, by omega, by go_num, by first | rfl | (congr 1; omega), by omega, by omega, Lib.hid S⟩
        case measure => simp [intOf]; omega
      · obtain rfl : j = m := by omega
        have S := S.out
        go_wp2_with (first | go_skip | ((with_reducible refine wl ?_); refine sl S ?_))
        exact rt S ⟨y + 1, rfl, ⟨by omega, by omega⟩, S.below⟩
def BoolV (w : World) (p : Prop) (r : Ending) (w' : World) : Prop := ∃ b, r = .returned (.bool b) ∧ (b = true → p) ∧ Below w.heap.size w w'
theorem BoolV.mk {w w' : World} {p : Prop} (b : Bool) (h : b = true → p) (hb : Below w.heap.size w w') : BoolV w p (.returned (.bool b)) w' := ⟨b, rfl, h, hb⟩
set_option maxRecDepth 100000 in
set_option maxHeartbeats 4000000 in
theorem few10_any (n : S37) (A3 A4 : Option Addr) (c3 c4 : Nat) (w : World) (h : k37.K w n (ndC n A3 c3 A4 c4)) (hB : tsize n ≤ 1000000000000) : Calls Tryd.prog 23 #[ndV n A3 c3 A4 c4] w (BoolV w (tsize n ≤ 3000)) := by
  have HS := fun w' (hb : Below w.heap.size w w') => Lib.hid (size_any (tsize n + 1) n (Nat.lt_succ_self _) hB A3 c3 A4 c4 w' (K_below hb h))
  have HN := fun w' (hb : Below w.heap.size w w') => Lib.hid (nest_any (tsize n + 1) n (Nat.lt_succ_self _) hB A3 c3 A4 c4 w' (K_below hb h))
  have S := Sep.start w
  generalize tsize n = z at *
  obtain ⟨f0, f1, f2, f3, l⟩ := n
  dsimp only [ndV, ndC] at *
  unfold NumV at *
  clear h
  by_cases hz : z ≤ 3000
  · have hzI : (z : Int) ≤ 3000 := by omega
    have HZ := Lib.hid hz
    clear hz
    go_enter Tryd.func23, Tryd.ntmps23
    go_wp2_with (first | go_skip | ((with_reducible refine wl ?_); first | refine sn S (fun g w1 S => ?_) | refine sa S ?_) | ((with_reducible refine (HS _ S.below).out.mono ?_); rintro r w' ⟨y, rfl, rfl, hb⟩; replace S := S.call hb) | ((with_reducible refine (HN _ S.below).out.mono ?_); rintro r w' ⟨y, rfl, hy, hb⟩; replace S := S.call hb))
    exact rt S (BoolV.mk _ (fun _ => HZ.out) S.below)
  · have hzI : ¬ (z : Int) ≤ 3000 := by omega
    clear hz
    go_enter Tryd.func23, Tryd.ntmps23
    go_wp2_with (first | go_skip | ((with_reducible refine wl ?_); first | refine sn S (fun g w1 S => ?_) | refine sa S ?_) | ((with_reducible refine (HS _ S.below).out.mono ?_); rintro r w' ⟨y, rfl, rfl, hb⟩; replace S := S.call hb))
    exact rt S (BoolV.mk false (fun h => Bool.noConfusion h) S.below)
end Go.Proofs.YtidglmocekghmaaDoor.Pr
end
section
namespace Go.Proofs.YtidglmocekghmaaDoor.Pr
open Go.RowKit Go.Proofs.YtidglmocekghmaaDoorW.PrintWords Go.Proofs.YtidglmocekghmaaDoorW.PrintLast Go.Proofs.YtidglmocekghmaaDoorW.PrintMore
set_option linter.unusedVariables false
set_option linter.unusedSimpArgs false
section
variable {P : Program} {md : Region.Mode} {ops : Array Oper} {Q : Exit → Act → World → Prop} {w0 W w : World} {L : List Asr} {SP : World → Prop} {ds : List Nat} {α : Type} {d : Kd α} {e : Nat} {v : Value} {xs ys : List α}
section
variable {rest : List Oper} {o : Oper} {a a' : Act}
end
def RgAt (P : Program) (ops : Array Oper) (i n : Nat) (l l' : Array Bool) (a : Act) (f : FuncId) (fn : Func) (args : Array Value) : Prop :=
 ∃ (oi : Oper) (av : Array Operand) (ts : Array TypeId), ops[i]? = some oi ∧ oi.dst = some n ∧ l.setIfInBounds i true = l' ∧ Region.wanted oi (yielded ops a.tmps) = true ∧ (fn.name == "runtime.NumGoroutine") = false ∧ fn.body.isSome = true ∧ oi.op = .call { callee := .value (.func f), args := av, argTypes := ts } ∧ av.map a.eval = args
theorem rgAt {i n : Nat} {l l' : Array Bool} {a : Act} {f : FuncId} {fn : Func} {args : Array Value} {oi : Oper} {av : Array Operand} {ts : Array TypeId} (h1 : ops[i]? = some oi) (h2 : oi.dst = some n) (h3 : l.setIfInBounds i true = l') (h5 : Region.wanted oi (yielded ops a.tmps) = true) (h7 : (fn.name == "runtime.NumGoroutine") = false) (h8 : fn.body.isSome = true) (h9 : oi.op = .call { callee := .value (.func f), args := av, argTypes := ts }) (h10 : av.map a.eval = args) : RgAt P ops i n l l' a f fn args :=
 ⟨oi, av, ts, h1, h2, h3, h5, h7, h8, h9, h10⟩
theorem rcg (n : Nat) {i : Nat} {f : FuncId} {args : Array Value} {R : Ending → World → Prop} {fuel : Nat} {l l' : Array Bool} {a : Act} {fn : Func} (h6 : P.funcs[f]? = some fn) (hC : Calls P f args w R)
    (h : ∀ e w1, R e w1 → ∃ v, e = .returned v ∧ SP w1 ∧ ∃ a', a.put (some n) v = a' ∧ wpAnyLast P md ops Q SP ds fuel l' a' w1)
    (hd : i ∉ ds := by decide)
    (k : RgAt P ops i n l l' a f fn args := by
      apply rgAt
      case h1 => simp only [List.getElem?_toArray, List.getElem?_cons_zero, List.getElem?_cons_succ]; rfl
      case h2 => rfl
      case h3 => simp only [List.setIfInBounds_toArray, List.set_cons_zero, List.set_cons_succ]; rfl
      case h5 => rfl
      case h7 => kernel_rfl
      case h8 => kernel_rfl
      case h9 => rfl
      case h10 => simp only [List.map_toArray, List.map_cons, List.map_nil]; rfl) : Rdy P md ops Q SP ds fuel l a w i := by
  obtain ⟨oi, av, ts, h1, h2, h3, h5, h7, h8, h9, h10⟩ := k
  refine ⟨oi, h1, hd, fun K hK => ?_⟩
  rw [h2]
  refine goes_ h6 h7 h8 args h5 h2 h9 h10 (hC.mono ?_)
  intro e w1 hR
  obtain ⟨v, he, hk, a', ha, hh⟩ := h e w1 hR
  subst ha h3
  exact ⟨v, he, hK.out _ _ hk (fun _ => hh)⟩
end
end Go.Proofs.YtidglmocekghmaaDoor.Pr
end
section
namespace Go.Proofs.YtidglmocekghmaaDoor.Pr
open Go.RowKit Go.Proofs.YtidglmocekghmaaDoorW.PrintWords Go.Proofs.YtidglmocekghmaaDoorW.PrintLast Go.Proofs.YtidglmocekghmaaDoorW.PrintMore
set_option linter.unusedVariables false
set_option linter.unusedSimpArgs false
section
variable {P : Program} {md : Region.Mode} {ops : Array Oper} {Q : Exit → Act → World → Prop} {S : World → Prop} {ds : List Nat} {w w1 : World}
def PqAt (P : Program) (md : Region.Mode) (ops : Array Oper) (Q : Exit → Act → World → Prop) (i n : Nat) (l l' : Array Bool) (a a' : Act) : Prop :=
 ∃ oi : Oper, ops[i]? = some oi ∧ oi.dst = some n ∧ l.setIfInBounds i true = l' ∧ anyB md ops l l' i = true ∧ (∀ c a w, Q (.panic c) (a.put oi.dst undef) w → Q (.panic c) a w) ∧ Region.wanted oi (yielded ops a.tmps) = false ∧ a.put (some n) undef = a'
theorem pq (i n : Nat) {fuel : Nat} {l l' : Array Bool} {a a' : Act} (h : wpAnyLast P md ops Q S ds fuel l' a' w)
    (k : PqAt P md ops Q i n l l' a a' := by
      refine ⟨_, rfl, rfl, ?_, ?_, fun _ _ _ h => h, ?_, ?_⟩
      · simp only [List.setIfInBounds_toArray, List.set_cons_zero, List.set_cons_succ]; rfl
      · kernel_rfl
      · rfl
      · simp only [Act.put, List.setIfInBounds_toArray, List.set_cons_zero, List.set_cons_succ]; rfl) : wpAnyLast P md ops Q S ds (fuel + 1) l a w := by
  obtain ⟨oi, hi, hN, hl, hc, hQ, hw, ha⟩ := k
  exact pure_ l' hi hN hc hQ (.inr ⟨hw, rfl⟩) ha h
def BhAt (P : Program) (md : Region.Mode) (ops : Array Oper) (Q : Exit → Act → World → Prop) (i : Nat) (l l' : Array Bool) (a a' : Act) (ad : Addr) (v : Value) : Prop :=
 ∃ oi t p, ops[i]? = some oi ∧ l.setIfInBounds i true = l' ∧ takeB md ops [] l l' i = true ∧ Region.wanted oi (yielded ops a.tmps) = true ∧ oi.op = .load t p ∧ a.eval p = .pointer (some ad) ∧ scalB P t = true ∧ a.put oi.dst v = a' ∧ (∀ c v a w, Q (.panic c) (a.put oi.dst v) w → Q (.panic c) a w)
theorem bhAt {i : Nat} {l l' : Array Bool} {a a' : Act} {ad : Addr} {v : Value} {oi : Oper} {t : TypeId} {p : Operand} (h1 : ops[i]? = some oi) (h2 : l.setIfInBounds i true = l') (h3 : takeB md ops [] l l' i = true) (h4 : Region.wanted oi (yielded ops a.tmps) = true) (h5 : oi.op = .load t p) (h6 : a.eval p = .pointer (some ad)) (h7 : scalB P t = true) (h8 : a.put oi.dst v = a') (h9 : ∀ c v a w, Q (.panic c) (a.put oi.dst v) w → Q (.panic c) a w) : BhAt P md ops Q i l l' a a' ad v := ⟨oi, t, p, h1, h2, h3, h4, h5, h6, h7, h8, h9⟩
theorem bwh (i : Nat) {ad : Addr} {v : Value} (hv : w1.cell? ad = some v) (hb : Bw w1 w) {l l' : Array Bool} {a a' : Act} {fuel : Nat} (h : wpAnyLast P md ops Q (Bw w1) [] fuel l' a' w)
    (k : BhAt P md ops Q i l l' a a' ad v := by
      apply bhAt
      case h1 => simp only [List.getElem?_toArray, List.getElem?_cons_zero, List.getElem?_cons_succ]; rfl
      case h2 => simp only [List.setIfInBounds_toArray, List.set_cons_zero, List.set_cons_succ]; rfl
      case h3 => kernel_rfl
      case h4 => rfl
      case h5 => with_reducible rfl
      case h6 => first | (go_simp; done) | (go_simp; rfl)
      case h7 => kernel_rfl
      case h8 => simp only [Act.put, List.setIfInBounds_toArray, List.set_cons_zero, List.set_cons_succ]; rfl
      case h9 => exact fun _ _ _ _ h => h) : wpAnyLast P md ops Q (Bw w1) [] (fuel + 1) l a w := by
  obtain ⟨oi, t, p, h1, h2, h3, h4, h5, h6, h7, h8, h9⟩ := k
  refine take_ l' h1 rfl h3 (fun c a w => h9 c _ a w) (.inl ⟨h4, fun w' s => ?_⟩) hb h8 h
  have hr := run_load_one (P := P) h7 (pw_cell_below s hv)
  unfold execOp
  simp only [h5, h6, Sem.run_bind, Sem.run_pure, Result.andThen_ok, hr]
theorem bwk (i n : Nat) {f : FuncId} {args : Array Value} {R : Ending → World → Prop} {fuel : Nat} {l l' : Array Bool} {a : Act} {fn : Func} (h6 : P.funcs[f]? = some fn) (hC : Calls P f args w R)
    (h : ∀ e w2, R e w2 → ∃ v, e = .returned v ∧ Bw w1 w2 ∧ ∃ a', a.put (some n) v = a' ∧ wpAnyLast P md ops Q (Bw w1) [] fuel l' a' w2)
    (k : RgAt P ops i n l l' a f fn args := by
      apply rgAt
      case h1 => simp only [List.getElem?_toArray, List.getElem?_cons_zero, List.getElem?_cons_succ]; rfl
      case h2 => rfl
      case h3 => simp only [List.setIfInBounds_toArray, List.set_cons_zero, List.set_cons_succ]; rfl
      case h5 => rfl
      case h7 => kernel_rfl
      case h8 => kernel_rfl
      case h9 => rfl
      case h10 => simp only [List.map_toArray, List.map_cons, List.map_nil]; rfl)
    (hr : (Region.ready md ops l == [i]) = true := by kernel_rfl) : wpAnyLast P md ops Q (Bw w1) [] (fuel + 1) l a w :=
  rdo [i] (by simp) (List.forall_mem_cons.2 ⟨rcg n h6 hC h (by simp) k, List.forall_mem_nil _⟩) hr
end
theorem words11_any (A : Option Addr) (c : Nat) (d : List Int) (w : World) (hr : (Kd.int .u8).C w A d.length d) (hc : d.length ≤ c) (hl : d.length ≤ 1000000000000) : Calls Tryd.prog 46 #[.slice A d.length c] w fun e w' => e = .returned (.int .i64 (twords d : Int)) ∧ Below w.heap.size w w' := by
 obtain ⟨k, hk⟩ := (rwords_ev d hl).rounds
 refine (capnpref11_Words.calls k A c d _ w hr hc hk).mono ?_
 rintro e w' ⟨h1, h2⟩
 exact ⟨h1, h2.below⟩
theorem ptrs11_any (A : Option Addr) (c : Nat) (l : List S37) (w : World) (hr : k37.C w A l.length l) (hc : l.length ≤ c) (hl : l.length ≤ 1000000000000) : Calls Tryd.prog 47 #[.slice A l.length c] w fun e w' => e = .returned (.int .i64 (keptN nullN l : Int)) ∧ Below w.heap.size w w' := by
 obtain ⟨k, hk⟩ := (rptrs_ev l hl).rounds
 refine (capnpref11_Pointers.calls k A c l _ w hr hc hk).mono ?_
 rintro e w' ⟨h1, h2⟩
 exact ⟨h1, h2.below⟩
end Go.Proofs.YtidglmocekghmaaDoor.Pr
end
section
namespace Go.Proofs.YtidglmocekghmaaDoor.Pr
open Go.RowKit Go.Proofs.YtidglmocekghmaaDoorW.PrintWords Go.Proofs.YtidglmocekghmaaDoorW.PrintLast Go.Proofs.YtidglmocekghmaaDoorW.PrintMore
set_option linter.unusedVariables false
set_option linter.unusedSimpArgs false
theorem same_wd {s t : List Int} (hl : s.length = t.length) (h : ∀ i, i < s.length → wd s i = wd t i) : s = t := by
 refine List.ext_getElem hl (fun i hi hi' => ?_)
 have := h i hi
 unfold wd at this
 rw [List.getD_eq_getElem?_getD, List.getD_eq_getElem?_getD, List.getElem?_eq_getElem hi, List.getElem?_eq_getElem hi'] at this
 simpa using this
end Go.Proofs.YtidglmocekghmaaDoor.Pr
end
section
namespace Go.Proofs.YtidglmocekghmaaDoor.Pr
open Go.RowKit Go.Proofs.YtidglmocekghmaaDoorW.PrintWords Go.Proofs.YtidglmocekghmaaDoorW.PrintLast Go.Proofs.YtidglmocekghmaaDoorW.PrintMore
set_option linter.unusedVariables false
set_option linter.unusedSimpArgs false
set_option maxHeartbeats 1000000 in
theorem same_bytes (A B : Option Addr) (c d : Nat) (s t : List Int) (w : World) (hs : (Kd.int .u8).C w A s.length s) (ht : (Kd.int .u8).C w B t.length t) :
    Calls Tryd.prog 45 #[.slice A s.length c, .slice B t.length d] w (BoolV w (s = t)) := by
  have S := Sep.start w
  have HA := Lib.hid (fun i hi => cellB hs i hi)
  have HB := Lib.hid (fun i hi => cellB ht i hi)
  have hsl := hs.2.1
  by_cases hl : s.length = t.length
  · have H1 : Hid (∀ (h : ∀ i, i < s.length → wd s i = wd t i), s = t) := Lib.hid (fun h => same_wd hl h)
    generalize (s = t) = r at *
    rw [← hl] at HB ⊢
    obtain ⟨n, hn⟩ : ∃ n, s.length = n := ⟨_, rfl⟩
    rw [hn] at HA HB H1 hsl ⊢
    clear hs ht hl hn
    go_enter Tryd.func45, Tryd.ntmps45
    go_wp2
    have S := Lib.hid S
    go_loopw [5] (fun v wr => ∃ j : Nat, j ≤ n ∧ v = .int .i64 j ∧ Hid (∀ i, i < j → wd s i = wd t i) ∧ Hid (Sep w wr [])) (fun v _ => n - (intOf v).toNat)
    case atStart => exact ⟨0, Nat.zero_le _, rfl, Lib.hid (fun i hi => by omega), S⟩
    case round =>
      clear S
      obtain ⟨j, hj, rfl, hall, S⟩ := hrel
      by_cases hjn : j < n
      · have hjI : (j : Int) < (n : Int) := by omega
        obtain ⟨aa, rfl, hva⟩ := HA.out j hjn
        obtain ⟨ab, rfl, hvb⟩ := HB.out j hjn
        have hva := pw_cell_below S.out.drew.below hva
        have hvb := pw_cell_below S.out.drew.below hvb
        by_cases he : wd s j = wd t j
        · have hall2 : Hid (∀ i, i < j + 1 → wd s i = wd t i) := Lib.hid (fun i hi => by
            by_cases hij : i = j
            · subst hij; exact he
            · exact hall.out i (by omega))
          rw [he] at hva
          have hne : (wd t j != wd t j) = false := by simp
          clear he hall
          generalize wd t j = y at *
          go_wp2
          refine bws S.out (fun S => ?_)
          refine pu 0 17 ?_
          refine pu 1 18 ?_
          refine pu 2 19 ?_
          refine bwl 3 hva (Below.refl _ _) ?_
          refine pu 4 21 ?_
          refine pu 5 22 ?_
          refine pu 6 23 ?_
          refine bwl 7 hvb (Below.refl _ _) ?_
          refine pu 8 25 ?_
          refine dn ?_
          go_wp2
          go_roundw
          case rel => exact ⟨j + 1, by omega, by go_num, hall2, Lib.hid S⟩
          case measure => simp [intOf]; omega
        · have hne : (wd s j != wd t j) = true := bne_iff_ne.2 he
          clear he hall H1
          generalize wd s j = x at *
          generalize wd t j = y at *
          go_wp2
          refine bws S.out (fun S => ?_)
          refine pu 0 17 ?_
          refine pu 1 18 ?_
          refine pu 2 19 ?_
          refine bwl 3 hva (Below.refl _ _) ?_
          refine pu 4 21 ?_
          refine pu 5 22 ?_
          refine pu 6 23 ?_
          refine bwl 7 hvb (Below.refl _ _) ?_
          refine pu 8 25 ?_
          refine dn ?_
          go_wp2
          exact rt S (BoolV.mk false (fun h => Bool.noConfusion h) S.below)
      · obtain rfl : n = j := by omega
        have hr := Lib.hid (H1.out hall.out)
        clear H1 hall
        go_wp2
        exact rt S.out (BoolV.mk true (fun _ => hr.out) S.out.below)
  · have tl : ((s.length : Int) != (t.length : Int)) = true := bne_iff_ne.2 (by omega)
    clear hs ht hl
    go_enter Tryd.func45, Tryd.ntmps45
    go_wp2
    exact rt S (BoolV.mk false (fun h => Bool.noConfusion h) S.below)
end Go.Proofs.YtidglmocekghmaaDoor.Pr
end
section
namespace Go.Proofs.YtidglmocekghmaaDoor.Pr
open Go.RowKit Go.Proofs.YtidglmocekghmaaDoorW.PrintWords Go.Proofs.YtidglmocekghmaaDoorW.PrintLast Go.Proofs.YtidglmocekghmaaDoorW.PrintMore
set_option linter.unusedVariables false
set_option linter.unusedSimpArgs false
def Stop (p : Prop) : Prop := p
theorem stop_ {p : Prop} (h : Stop p) : p := h
def vaO (n : S37) : Prop :=
 (n.f0 = 0 ∧ n.f1 = 0 ∧ n.f2 = 0 ∧ n.f3 = [] ∧ n.f4 = []) ∨
 (n.f0 = 1 ∧ n.f1 = 0 ∧ n.f2 = 0 ∧ n.f3.length % 8 = 0 ∧ n.f3.length ≤ 524280 ∧ n.f4.length ≤ 65535) ∨
 (n.f0 = 2 ∧ 0 ≤ n.f2 ∧ n.f2 ≤ 536870911 ∧ 0 ≤ n.f1 ∧ n.f1 ≤ 7 ∧ ((6 ≤ n.f1 ∧ n.f3 = [] ∧ (n.f4.length : Int) = n.f2) ∨ (n.f1 < 6 ∧ n.f4 = [] ∧ (n.f3.length : Int) = bytesE n.f1 n.f2 ∧ trimE n.f1 n.f2 n.f3 = n.f3)))
def vaK (n : S37) : Prop := n.f0 = 2 → n.f1 = 7 → ∀ x ∈ n.f4, x.f0 = 1
def vaI (n : S37) : Prop := ∀ (i : Nat) (x : S37), n.f4[i]? = some x → n.f0 = 2 → n.f1 = 7 → x.f0 = 1
def vaT : S37 → Prop := AllT fun n => vaO n ∧ vaK n
set_option maxRecDepth 100000 in
set_option maxHeartbeats 16000000 in
theorem valid_any : ∀ (S : Nat) (n : S37), tsize n < S → tsize n ≤ 1000000000000 → okT n → ∀ (A3 : Option Addr) (c3 : Nat) (A4 : Option Addr) (c4 : Nat) (w : World), k37.K w n (ndC n A3 c3 A4 c4) → Calls Tryd.prog 24 #[ndV n A3 c3 A4 c4] w (BoolV w (vaT n))
  | 0, n, h, _, _ => by omega
  | S + 1, n, hS, hB, ho => by
    intro A3 c3 A4 c4 w h
    obtain ⟨l3, g3, l4, g4⟩ := K_C3 h
    have HK := Lib.hid (fun i hi => kid_at g4 i hi)
    have ht := tsize_eq n
    have hl := length_tsizes n.f4
    have HI : Hid (∀ (i : Nat) (x : S37), n.f4[i]? = some x → ∀ A3 c3 A4 c4 w', k37.K w' x (ndC x A3 c3 A4 c4) → Calls Tryd.prog 24 #[ndV x A3 c3 A4 c4] w' (BoolV w' (vaT x))) := Lib.hid (fun i x hx A3 c3 A4 c4 w' hk => by
      have := tsize_kid (List.mem_of_getElem? hx)
      exact valid_any S x (by omega) (by omega) (AllT.kids ho x (List.mem_of_getElem? hx)) A3 c3 A4 c4 w' hk)
    have HC3 := Lib.hid g3
    have HBY := Lib.hid (AllT.here ho)
    have HP : Hid ((∀ (i : Nat) (x : S37), n.f4[i]? = some x → vaT x) → vaI n → vaO n → vaT n) := Lib.hid (fun h1 h3 h2 => .mk ⟨h2, fun e1 e2 x hx => by
      obtain ⟨i, hi, rfl⟩ := List.mem_iff_getElem.1 hx
      exact h3 i _ (List.getElem?_eq_getElem hi) e1 e2⟩ (fun x hx => by
      obtain ⟨i, hi, rfl⟩ := List.mem_iff_getElem.1 hx
      exact h1 i _ (List.getElem?_eq_getElem hi)))
    have hm4 : n.f4.length ≤ 1000000000000 := by omega
    have hm3 : n.f3.length ≤ 1000000000000 := by omega
    generalize vaT n = PT at *
    obtain ⟨f0, f1, f2, f3, l⟩ := n
    dsimp only [ndV, ndC] at *
    obtain ⟨m3, hm3e⟩ : ∃ m3, f3.length = m3 := ⟨_, rfl⟩
    have HM3 := Lib.hid hm3e
    rw [hm3e] at HC3 hm3 ⊢
    obtain ⟨m, hm⟩ : ∃ m, l.length = m := ⟨_, rfl⟩
    rw [hm] at hm4 ⊢
    have HH := Lib.hid hm
    have S := Sep.start w
    clear g3 g4 l3 l4 h hm hl ht hB ho hm3e
    by_cases h2 : f0 = 2
    · subst h2
      by_cases h7 : f1 = 7
      · subst h7
        go_enter Tryd.func24, Tryd.ntmps24
        go_wp2_with (first | go_skip | ((with_reducible refine wl ?_); first | (refine sn S (fun g w1 S => ?_); first | ((fail_if_success (have := gn)); revert g; intro gn S)) | refine sl S ?_))
        have S := Lib.hid S
        go_loopw [3] (fun k wr => ∃ (j : Nat), j ≤ m ∧ k = .int .i64 j ∧ Hid (∀ (i : Nat) (x : S37), i < j → l[i]? = some x → vaT x ∧ x.f0 = 1) ∧ Hid (Sep w wr [.box gn #[.int .i64 2, .int .i64 7, .int .i64 f2, .slice A3 m3 c3, .slice A4 m c4] 37])) (fun k _ => m - (intOf k).toNat)
        case atStart => exact ⟨0, Nat.zero_le _, rfl, Lib.hid (fun i x hi _ => by omega), S⟩
        case round =>
          clear S
          obtain ⟨j, hj, rfl, HA, S⟩ := hrel
          by_cases hjl : j < m
          · obtain ⟨ad, B3, e3, B4, e4, rfl, hN⟩ := HK.out j (by rw [HH.out]; exact hjl)
            obtain ⟨x, hx⟩ : ∃ x, l[j]'(by rw [HH.out]; exact hjl) = x := ⟨_, rfl⟩
            have hx2 : l[j]? = some x := by rw [← hx]; exact List.getElem?_eq_getElem _
            rw [hx] at hN
            have HIx := fun w' (hb : Below w.heap.size w w') => Lib.hid (HI.out j x hx2 B3 e3 B4 e4 w' (K_below hb hN.K))
            have HND := Lib.hid hN.cells
            have hx0 := Lib.hid hN.h0
            have HA2 : Hid (vaT x ∧ x.f0 = 1 → ∀ (i : Nat) (y : S37), i < j + 1 → l[i]? = some y → vaT y ∧ y.f0 = 1) := Lib.hid (fun hp i y hi hy => by
              by_cases hij : i = j
              · subst hij
                obtain rfl := Option.some.inj (hx2.symm.trans hy)
                exact hp
              · exact HA.out i y (by omega) hy)
            clear hx hx2 hN HA
            have S := S.out
            by_cases hk1 : x.f0 = 1
            · have tk : (x.f0 != 1) = false := by rw [bne_eq_false_iff_eq]; exact hk1
              have HK1 := Lib.hid hk1
              clear hk1
              go_wp2_with (first | go_skip | ((with_reducible refine wl0 rfl ?_); first | refine sl S ?_ | refine sxa S HND.out ?_) | ((with_reducible refine gate_dst (N := 20) rfl ?_); refine sl S ?_) | ((with_reducible refine gate_dst (N := 24) rfl ?_); refine sl S ?_) | ((with_reducible refine gate_dst (N := 29) rfl ?_); refine sl S ?_) | ((with_reducible refine gate_dst (N := 33) rfl ?_); refine sx S hx0.out ?_) | ((with_reducible refine (HIx _ S.below).out.mono ?_); rintro r w' ⟨b, rfl, hp, hb⟩; replace S := S.call hb; refine stop_ ?_))
              unfold Stop
              cases b
              · go_wp2_with (first | go_skip | ((with_reducible refine wl0 rfl ?_); first | refine sl S ?_ | refine sxa S HND.out ?_) | ((with_reducible refine gate_dst (N := 20) rfl ?_); refine sl S ?_) | ((with_reducible refine gate_dst (N := 24) rfl ?_); refine sl S ?_) | ((with_reducible refine gate_dst (N := 29) rfl ?_); refine sl S ?_) | ((with_reducible refine gate_dst (N := 33) rfl ?_); refine sx S hx0.out ?_))
                exact rt S (BoolV.mk false (fun h => Bool.noConfusion h) S.below)
              · go_wp2_with (first | go_skip | ((with_reducible refine wl0 rfl ?_); first | refine sl S ?_ | refine sxa S HND.out ?_) | ((with_reducible refine gate_dst (N := 20) rfl ?_); refine sl S ?_) | ((with_reducible refine gate_dst (N := 24) rfl ?_); refine sl S ?_) | ((with_reducible refine gate_dst (N := 29) rfl ?_); refine sl S ?_) | ((with_reducible refine gate_dst (N := 33) rfl ?_); refine sx S hx0.out ?_))
                go_roundw
                case rel => exact ⟨j + 1, by omega, by go_num, Lib.hid (HA2.out ⟨hp rfl, HK1.out⟩), Lib.hid S⟩
                case measure => simp [intOf]; omega
            · have tk : (x.f0 != 1) = true := bne_iff_ne.2 hk1
              clear hk1
              go_wp2_with (first | go_skip | ((with_reducible refine wl0 rfl ?_); first | refine sl S ?_ | refine sxa S HND.out ?_) | ((with_reducible refine gate_dst (N := 20) rfl ?_); refine sl S ?_) | ((with_reducible refine gate_dst (N := 24) rfl ?_); refine sl S ?_) | ((with_reducible refine gate_dst (N := 29) rfl ?_); refine sl S ?_) | ((with_reducible refine gate_dst (N := 33) rfl ?_); refine sx S hx0.out ?_) | ((with_reducible refine (HIx _ S.below).out.mono ?_); rintro r w' ⟨b, rfl, hp, hb⟩; replace S := S.call hb; refine stop_ ?_))
              unfold Stop
              cases b
              · go_wp2_with (first | go_skip | ((with_reducible refine wl0 rfl ?_); first | refine sl S ?_ | refine sxa S HND.out ?_) | ((with_reducible refine gate_dst (N := 20) rfl ?_); refine sl S ?_) | ((with_reducible refine gate_dst (N := 24) rfl ?_); refine sl S ?_) | ((with_reducible refine gate_dst (N := 29) rfl ?_); refine sl S ?_) | ((with_reducible refine gate_dst (N := 33) rfl ?_); refine sx S hx0.out ?_))
                exact rt S (BoolV.mk false (fun h => Bool.noConfusion h) S.below)
              · go_wp2_with (first | go_skip | ((with_reducible refine wl0 rfl ?_); first | refine sl S ?_ | refine sxa S HND.out ?_) | ((with_reducible refine gate_dst (N := 20) rfl ?_); refine sl S ?_) | ((with_reducible refine gate_dst (N := 24) rfl ?_); refine sl S ?_) | ((with_reducible refine gate_dst (N := 29) rfl ?_); refine sl S ?_) | ((with_reducible refine gate_dst (N := 33) rfl ?_); refine sx S hx0.out ?_))
                exact rt S (BoolV.mk false (fun h => Bool.noConfusion h) S.below)
          · obtain rfl : m = j := by omega
            have S := S.out
            have HA2 := fun (i : Nat) (x : S37) (hx : l[i]? = some x) => (HA.out i x (by rw [← HH.out]; exact (List.getElem?_eq_some_iff.1 hx).1) hx).1
            have HK2 : vaI ⟨2, 7, f2, f3, l⟩ := fun (i : Nat) (x : S37) (hx : l[i]? = some x) _ _ => (HA.out i x (by rw [← HH.out]; exact (List.getElem?_eq_some_iff.1 hx).1) hx).2
            replace HA2 := Lib.hid HA2
            replace HK2 := Lib.hid HK2
            by_cases q0 : 0 ≤ f2
            · have tq0 : decide (f2 < 0) = false := by first | omega | exact beq_iff_eq.2 (by omega) | exact decide_eq_true (by omega) | exact decide_eq_false (by omega)
              by_cases q1 : f2 ≤ 536870911
              · have tq1 : decide (536870911 < f2) = false := by first | omega | exact beq_iff_eq.2 (by omega) | exact decide_eq_true (by omega) | exact decide_eq_false (by omega)
                by_cases q2 : m3 = 0
                · have tq2 : ((m3 : Int) == 0) = true := by first | omega | exact beq_iff_eq.2 (by omega) | exact decide_eq_true (by omega) | exact decide_eq_false (by omega)
                  by_cases q3 : (m : Int) = f2
                  · have tq3 : ((m : Int) == f2) = true := by first | omega | exact beq_iff_eq.2 (by omega) | exact decide_eq_true (by omega) | exact decide_eq_false (by omega)
                    go_wp2_with (first | go_skip | ((with_reducible refine wl ?_); first | refine sl S ?_))
                    exact rt S (BoolV.mk true (fun _ => HP.out HA2.out HK2.out (.inr (.inr ⟨rfl, q0, q1, (by show (0 : Int) ≤ 7; decide), (by show (7 : Int) ≤ 7; decide), .inl ⟨(by show (6 : Int) ≤ 7; decide), List.eq_nil_of_length_eq_zero (HM3.out.trans q2), by rw [HH.out]; exact q3⟩⟩))) S.below)
                  · have tq3 : ((m : Int) == f2) = false := by first | omega | exact beq_eq_false_iff_ne.2 (by omega) | exact decide_eq_true (by omega) | exact decide_eq_false (by omega)
                    go_wp2_with (first | go_skip | ((with_reducible refine wl ?_); first | refine sl S ?_))
                    exact rt S (BoolV.mk false (fun h => Bool.noConfusion h) S.below)
                · have tq2 : ((m3 : Int) == 0) = false := by first | omega | exact beq_eq_false_iff_ne.2 (by omega) | exact decide_eq_true (by omega) | exact decide_eq_false (by omega)
                  go_wp2_with (first | go_skip | ((with_reducible refine wl ?_); first | refine sl S ?_))
                  exact rt S (BoolV.mk false (fun h => Bool.noConfusion h) S.below)
              · have tq1 : decide (536870911 < f2) = true := by first | omega | exact beq_eq_false_iff_ne.2 (by omega) | exact decide_eq_true (by omega) | exact decide_eq_false (by omega)
                go_wp2_with (first | go_skip | ((with_reducible refine wl ?_); first | refine sl S ?_))
                exact rt S (BoolV.mk false (fun h => Bool.noConfusion h) S.below)
            · have tq0 : decide (f2 < 0) = true := by first | omega | exact beq_eq_false_iff_ne.2 (by omega) | exact decide_eq_true (by omega) | exact decide_eq_false (by omega)
              go_wp2_with (first | go_skip | ((with_reducible refine wl ?_); first | refine sl S ?_))
              exact rt S (BoolV.mk false (fun h => Bool.noConfusion h) S.below)
      · have t7 : (f1 == 7) = false := beq_eq_false_iff_ne.2 h7
        have HK2 : vaI ⟨2, f1, f2, f3, l⟩ := fun i x hx e1 e2 => (h7 e2).elim
        replace HK2 := Lib.hid HK2
        replace h7 := Lib.hid h7
        go_enter Tryd.func24, Tryd.ntmps24
        go_wp2_with (first | go_skip | ((with_reducible refine wl ?_); first | (refine sn S (fun g w1 S => ?_); first | ((fail_if_success (have := gn)); revert g; intro gn S)) | refine sl S ?_))
        have S := Lib.hid S
        go_loopw [3] (fun k wr => ∃ (j : Nat), j ≤ m ∧ k = .int .i64 j ∧ Hid (∀ (i : Nat) (x : S37), i < j → l[i]? = some x → vaT x) ∧ Hid (Sep w wr [.box gn #[.int .i64 2, .int .i64 f1, .int .i64 f2, .slice A3 m3 c3, .slice A4 m c4] 37])) (fun k _ => m - (intOf k).toNat)
        case atStart => exact ⟨0, Nat.zero_le _, rfl, Lib.hid (fun i x hi _ => by omega), S⟩
        case round =>
          clear S
          obtain ⟨j, hj, rfl, HA, S⟩ := hrel
          by_cases hjl : j < m
          · obtain ⟨ad, B3, e3, B4, e4, rfl, hN⟩ := HK.out j (by rw [HH.out]; exact hjl)
            obtain ⟨x, hx⟩ : ∃ x, l[j]'(by rw [HH.out]; exact hjl) = x := ⟨_, rfl⟩
            have hx2 : l[j]? = some x := by rw [← hx]; exact List.getElem?_eq_getElem _
            rw [hx] at hN
            have HIx := fun w' (hb : Below w.heap.size w w') => Lib.hid (HI.out j x hx2 B3 e3 B4 e4 w' (K_below hb hN.K))
            have HND := Lib.hid hN.cells
            have hx0 := Lib.hid hN.h0
            have HA2 : Hid (vaT x → ∀ (i : Nat) (y : S37), i < j + 1 → l[i]? = some y → vaT y) := Lib.hid (fun hp i y hi hy => by
              by_cases hij : i = j
              · subst hij
                obtain rfl := Option.some.inj (hx2.symm.trans hy)
                exact hp
              · exact HA.out i y (by omega) hy)
            clear hx hx2 hN HA
            have S := S.out
            go_wp2_with (first | go_skip | ((with_reducible refine wl0 rfl ?_); first | refine sl S ?_ | refine sxa S HND.out ?_) | ((with_reducible refine gate_dst (N := 20) rfl ?_); refine sl S ?_) | ((with_reducible refine gate_dst (N := 24) rfl ?_); refine sl S ?_) | ((with_reducible refine gate_dst (N := 29) rfl ?_); refine sl S ?_) | ((with_reducible refine gate_dst (N := 33) rfl ?_); refine sx S hx0.out ?_) | ((with_reducible refine (HIx _ S.below).out.mono ?_); rintro r w' ⟨b, rfl, hp, hb⟩; replace S := S.call hb; refine stop_ ?_))
            unfold Stop
            cases b
            · go_wp2_with (first | go_skip | ((with_reducible refine wl0 rfl ?_); first | refine sl S ?_ | refine sxa S HND.out ?_) | ((with_reducible refine gate_dst (N := 20) rfl ?_); refine sl S ?_) | ((with_reducible refine gate_dst (N := 24) rfl ?_); refine sl S ?_) | ((with_reducible refine gate_dst (N := 29) rfl ?_); refine sl S ?_) | ((with_reducible refine gate_dst (N := 33) rfl ?_); refine sx S hx0.out ?_))
              exact rt S (BoolV.mk false (fun h => Bool.noConfusion h) S.below)
            · go_wp2_with (first | go_skip | ((with_reducible refine wl0 rfl ?_); first | refine sl S ?_ | refine sxa S HND.out ?_) | ((with_reducible refine gate_dst (N := 20) rfl ?_); refine sl S ?_) | ((with_reducible refine gate_dst (N := 24) rfl ?_); refine sl S ?_) | ((with_reducible refine gate_dst (N := 29) rfl ?_); refine sl S ?_) | ((with_reducible refine gate_dst (N := 33) rfl ?_); refine sx S hx0.out ?_))
              go_roundw
              case rel => exact ⟨j + 1, by omega, by go_num, Lib.hid (HA2.out (hp rfl)), Lib.hid S⟩
              case measure => simp [intOf]; omega
          · obtain rfl : m = j := by omega
            have S := S.out
            have HA2 := fun (i : Nat) (x : S37) (hx : l[i]? = some x) => HA.out i x (by rw [← HH.out]; exact (List.getElem?_eq_some_iff.1 hx).1) hx
            have HK2 := HK2.out
            replace HA2 := Lib.hid HA2
            replace HK2 := Lib.hid HK2
            by_cases q0 : 0 ≤ f2
            · have tq0 : decide (f2 < 0) = false := by first | omega | exact beq_iff_eq.2 (by omega) | exact decide_eq_true (by omega) | exact decide_eq_false (by omega)
              by_cases q1 : f2 ≤ 536870911
              · have tq1 : decide (536870911 < f2) = false := by first | omega | exact beq_iff_eq.2 (by omega) | exact decide_eq_true (by omega) | exact decide_eq_false (by omega)
                by_cases q2 : 0 ≤ f1
                · have tq2 : decide (f1 < 0) = false := by first | omega | exact beq_iff_eq.2 (by omega) | exact decide_eq_true (by omega) | exact decide_eq_false (by omega)
                  by_cases q3 : f1 ≤ 7
                  · have tq3 : decide (7 < f1) = false := by first | omega | exact beq_iff_eq.2 (by omega) | exact decide_eq_true (by omega) | exact decide_eq_false (by omega)
                    have H7 := h7.out
                    have Q0 := q0
                    have Q1 := q1
                    have Q2 := q2
                    have Q3 := q3
                    clear q0 q1 q2 q3
                    by_cases q4 : f1 = 6
                    · have tq4 : decide (6 ≤ f1) = true := decide_eq_true (by omega)
                      by_cases q0 : m3 = 0
                      · have tq0 : ((m3 : Int) == 0) = true := by first | omega | exact beq_iff_eq.2 (by omega) | exact decide_eq_true (by omega) | exact decide_eq_false (by omega)
                        by_cases q1 : (m : Int) = f2
                        · have tq1 : ((m : Int) == f2) = true := by first | omega | exact beq_iff_eq.2 (by omega) | exact decide_eq_true (by omega) | exact decide_eq_false (by omega)
                          go_wp2_with (first | go_skip | ((with_reducible refine wl ?_); first | refine sl S ?_))
                          exact rt S (BoolV.mk true (fun _ => HP.out HA2.out HK2.out (.inr (.inr ⟨rfl, Q0, Q1, Q2, Q3, .inl ⟨by show 6 ≤ f1; omega, List.eq_nil_of_length_eq_zero (HM3.out.trans q0), by rw [HH.out]; exact q1⟩⟩))) S.below)
                        · have tq1 : ((m : Int) == f2) = false := by first | omega | exact beq_eq_false_iff_ne.2 (by omega) | exact decide_eq_true (by omega) | exact decide_eq_false (by omega)
                          go_wp2_with (first | go_skip | ((with_reducible refine wl ?_); first | refine sl S ?_))
                          exact rt S (BoolV.mk false (fun h => Bool.noConfusion h) S.below)
                      · have tq0 : ((m3 : Int) == 0) = false := by first | omega | exact beq_eq_false_iff_ne.2 (by omega) | exact decide_eq_true (by omega) | exact decide_eq_false (by omega)
                        go_wp2_with (first | go_skip | ((with_reducible refine wl ?_); first | refine sl S ?_))
                        exact rt S (BoolV.mk false (fun h => Bool.noConfusion h) S.below)
                    · have tq4 : decide (6 ≤ f1) = false := decide_eq_false (by omega)
                      have q0 := Q0
                      have q1 := Q1
                      have q2 := Q2
                      have q3 := Q3
                      clear Q0 Q1 Q2 Q3
                      have H44 := fun w' => Lib.hid (bytes_any6 f1 f2 w' q0 q1)
                      have H39 := fun w' (hb : Below w.heap.size w w') (hle : (bytesE f1 f2).toNat ≤ m3) => Lib.hid (show Calls Tryd.prog 39 #[.int .i64 f1, .int .i64 f2, .slice A3 m3 c3] w' _ from HM3.out ▸ rtrim_any f1 f2 A3 c3 f3 w' (HM3.out.symm ▸ Kd.C_below HC3.out hb) (fun x hx => by have := HBY.out x hx; omega) q0 q1 (HM3.out.symm ▸ hle))
                      have H45 := fun (A' : Option Addr) (n' c' : Nat) w' (hb : Below w.heap.size w w') (hn : n' = (trimE f1 f2 f3).length) (hC : (Kd.int .u8).C w' A' (trimE f1 f2 f3).length (trimE f1 f2 f3)) => Lib.hid (show Calls Tryd.prog 45 #[.slice A' n' c', .slice A3 m3 c3] w' (BoolV w' (trimE f1 f2 f3 = f3)) from by
                        have := same_bytes A' A3 c' c3 (trimE f1 f2 f3) f3 w' hC (by rw [HM3.out]; exact Kd.C_below HC3.out hb)
                        rw [HM3.out] at this
                        rw [hn]
                        exact this)
                      have hbb : 0 ≤ bytesE f1 f2 := (bytesE_bd f1 f2 q0 q1).1
                      obtain ⟨kb, hkb⟩ : ∃ kb, bytesE f1 f2 = kb := ⟨_, rfl⟩
                      obtain ⟨tf, htf⟩ : ∃ tf, trimE f1 f2 f3 = tf := ⟨_, rfl⟩
                      rw [hkb] at H44 H39 hbb
                      rw [htf] at H39 H45
                      have HKB := Lib.hid hkb
                      have HTF := Lib.hid htf
                      clear hkb htf
                      by_cases q5 : m = 0
                      · have tq5 : ((m : Int) != 0) = false := by rw [bne_eq_false_iff_eq]; omega
                        by_cases q6 : (m3 : Int) = kb
                        · have tq6 : ((m3 : Int) != kb) = false := by rw [bne_eq_false_iff_eq]; exact q6
                          replace H39 := fun w' hb => H39 w' hb (by omega)
                          go_wp2_with (first | go_skip | ((with_reducible refine wl ?_); first | refine sl S ?_))
                          refine bws S (fun S => ?_)
                          have d1 := (blk_cell (S.blk .here) 1).trans rfl
                          have d2 := (blk_cell (S.blk .here) 2).trans rfl
                          have d3 := (blk_cell (S.blk .here) 3).trans rfl
                          have d4 := (blk_cell (S.blk .here) 4).trans rfl
                          refine pu 0 125 ?_
                          refine bwl 1 d4 (Below.refl _ _) ?_
                          refine pu 2 127 ?_
                          refine pu 3 128 ?_
                          refine pu 4 129 ?_
                          refine pu 5 130 ?_
                          refine bwh 6 d3 (Below.refl _ _) ?_
                          refine pu 7 132 ?_
                          refine pu 8 133 ?_
                          refine bwh 9 d1 (Below.refl _ _) ?_
                          refine pu 10 135 ?_
                          refine bwh 11 d2 (Below.refl _ _) ?_
                          refine bwk 12 137 Tryd.func44 (H44 _).out (fun r' w2 hT => ?_)
                          obtain ⟨rfl, rfl⟩ := hT
                          refine ⟨_, rfl, Below.refl _ _, _, rfl, ?_⟩
                          simp only [Act.put, List.setIfInBounds_toArray, List.set_cons_zero, List.set_cons_succ]
                          refine pu 13 138 ?_
                          refine pu 14 139 ?_
                          refine dn ?_
                          go_wp2
                          clear d1 d2 d3 d4
                          refine bws S (fun S => ?_)
                          have d1 := (blk_cell (S.blk .here) 1).trans rfl
                          have d2 := (blk_cell (S.blk .here) 2).trans rfl
                          have d3 := (blk_cell (S.blk .here) 3).trans rfl
                          refine pu 0 140 ?_
                          refine bwl 1 d1 (Below.refl _ _) ?_
                          refine pu 2 142 ?_
                          refine bwl 3 d2 (Below.refl _ _) ?_
                          refine pu 4 144 ?_
                          refine bwl 5 d3 (Below.refl _ _) ?_
                          refine pu 7 147 ?_
                          refine bwl 8 d3 (Below.refl _ _) ?_
                          refine bwk 6 146 Tryd.func39 (H39 _ S.below).out (fun r' w2 hT => ?_)
                          obtain ⟨v, rfl, hR, hb⟩ := hT
                          obtain ⟨A7, n7, c7, rfl, hn7⟩ := R_sl hR
                          have hC7 := R_C hR
                          replace S := S.call hb
                          refine ⟨_, rfl, hb, _, rfl, ?_⟩
                          simp only [Act.put, List.setIfInBounds_toArray, List.set_cons_zero, List.set_cons_succ]
                          refine bwk 9 149 Tryd.func45 (H45 _ _ _ _ S.below hn7.out hC7).out (fun r' w3 hT => ?_)
                          obtain ⟨b, rfl, hp, hb3⟩ := hT
                          replace S := S.call hb3
                          refine ⟨_, rfl, below_step hb hb3, _, rfl, ?_⟩
                          simp only [Act.put, List.setIfInBounds_toArray, List.set_cons_zero, List.set_cons_succ]
                          refine pu 10 2 ?_
                          refine dn ?_
                          go_wp2
                          exact rt S (BoolV.mk b (fun hbt => HP.out HA2.out HK2.out (.inr (.inr ⟨rfl, q0, q1, q2, q3, .inr ⟨by show f1 < 6; omega, List.eq_nil_of_length_eq_zero (HH.out.trans q5), by rw [HM3.out]; exact q6.trans HKB.out.symm, HTF.out.trans (hp hbt)⟩⟩))) S.below)
                        · have tq6 : ((m3 : Int) != kb) = true := bne_iff_ne.2 q6
                          clear H39 H45
                          go_wp2_with (first | go_skip | ((with_reducible refine wl ?_); first | refine sl S ?_))
                          refine bws S (fun S => ?_)
                          have d1 := (blk_cell (S.blk .here) 1).trans rfl
                          have d2 := (blk_cell (S.blk .here) 2).trans rfl
                          have d3 := (blk_cell (S.blk .here) 3).trans rfl
                          have d4 := (blk_cell (S.blk .here) 4).trans rfl
                          refine pu 0 125 ?_
                          refine bwl 1 d4 (Below.refl _ _) ?_
                          refine pu 2 127 ?_
                          refine pu 3 128 ?_
                          refine pu 4 129 ?_
                          refine pu 5 130 ?_
                          refine bwh 6 d3 (Below.refl _ _) ?_
                          refine pu 7 132 ?_
                          refine pu 8 133 ?_
                          refine bwh 9 d1 (Below.refl _ _) ?_
                          refine pu 10 135 ?_
                          refine bwh 11 d2 (Below.refl _ _) ?_
                          refine bwk 12 137 Tryd.func44 (H44 _).out (fun r' w2 hT => ?_)
                          obtain ⟨rfl, rfl⟩ := hT
                          refine ⟨_, rfl, Below.refl _ _, _, rfl, ?_⟩
                          simp only [Act.put, List.setIfInBounds_toArray, List.set_cons_zero, List.set_cons_succ]
                          refine pu 13 138 ?_
                          refine pu 14 139 ?_
                          refine dn ?_
                          go_wp2
                          exact rt S (BoolV.mk false (fun h => Bool.noConfusion h) S.below)
                      · have tq5 : ((m : Int) != 0) = true := bne_iff_ne.2 (by omega)
                        clear H39 H45 H44
                        go_wp2_with (first | go_skip | ((with_reducible refine wl ?_); first | refine sl S ?_))
                        refine bws S (fun S => ?_)
                        have d1 := (blk_cell (S.blk .here) 1).trans rfl
                        have d2 := (blk_cell (S.blk .here) 2).trans rfl
                        have d3 := (blk_cell (S.blk .here) 3).trans rfl
                        have d4 := (blk_cell (S.blk .here) 4).trans rfl
                        refine pu 0 125 ?_
                        refine bwl 1 d4 (Below.refl _ _) ?_
                        refine pu 2 127 ?_
                        refine pu 3 128 ?_
                        refine pu 4 129 ?_
                        refine pq 5 130 ?_
                        refine pq 6 131 ?_
                        refine pq 7 132 ?_
                        refine pq 8 133 ?_
                        refine pq 9 134 ?_
                        refine pq 10 135 ?_
                        refine pq 11 136 ?_
                        refine pq 12 137 ?_
                        refine pq 13 138 ?_
                        refine pu 14 139 ?_
                        refine dn ?_
                        go_wp2
                        exact rt S (BoolV.mk false (fun h => Bool.noConfusion h) S.below)
                  · have tq3 : decide (7 < f1) = true := by first | omega | exact beq_eq_false_iff_ne.2 (by omega) | exact decide_eq_true (by omega) | exact decide_eq_false (by omega)
                    go_wp2_with (first | go_skip | ((with_reducible refine wl ?_); first | refine sl S ?_))
                    exact rt S (BoolV.mk false (fun h => Bool.noConfusion h) S.below)
                · have tq2 : decide (f1 < 0) = true := by first | omega | exact beq_eq_false_iff_ne.2 (by omega) | exact decide_eq_true (by omega) | exact decide_eq_false (by omega)
                  go_wp2_with (first | go_skip | ((with_reducible refine wl ?_); first | refine sl S ?_))
                  exact rt S (BoolV.mk false (fun h => Bool.noConfusion h) S.below)
              · have tq1 : decide (536870911 < f2) = true := by first | omega | exact beq_eq_false_iff_ne.2 (by omega) | exact decide_eq_true (by omega) | exact decide_eq_false (by omega)
                go_wp2_with (first | go_skip | ((with_reducible refine wl ?_); first | refine sl S ?_))
                exact rt S (BoolV.mk false (fun h => Bool.noConfusion h) S.below)
            · have tq0 : decide (f2 < 0) = true := by first | omega | exact beq_eq_false_iff_ne.2 (by omega) | exact decide_eq_true (by omega) | exact decide_eq_false (by omega)
              go_wp2_with (first | go_skip | ((with_reducible refine wl ?_); first | refine sl S ?_))
              exact rt S (BoolV.mk false (fun h => Bool.noConfusion h) S.below)
    · have t2 : (f0 == 2) = false := beq_eq_false_iff_ne.2 h2
      have HK2 : vaI ⟨f0, f1, f2, f3, l⟩ := fun i x hx e1 e2 => (h2 e1).elim
      replace HK2 := Lib.hid HK2
      clear h2
      by_cases h0 : f0 = 0
      · subst h0
        clear t2
        go_enter Tryd.func24, Tryd.ntmps24
        go_wp2_with (first | go_skip | ((with_reducible refine wl ?_); first | (refine sn S (fun g w1 S => ?_); first | ((fail_if_success (have := gn)); revert g; intro gn S)) | refine sl S ?_))
        have S := Lib.hid S
        go_loopw [3] (fun k wr => ∃ (j : Nat), j ≤ m ∧ k = .int .i64 j ∧ Hid (∀ (i : Nat) (x : S37), i < j → l[i]? = some x → vaT x) ∧ Hid (Sep w wr [.box gn #[.int .i64 0, .int .i64 f1, .int .i64 f2, .slice A3 m3 c3, .slice A4 m c4] 37])) (fun k _ => m - (intOf k).toNat)
        case atStart => exact ⟨0, Nat.zero_le _, rfl, Lib.hid (fun i x hi _ => by omega), S⟩
        case round =>
          clear S
          obtain ⟨j, hj, rfl, HA, S⟩ := hrel
          by_cases hjl : j < m
          · obtain ⟨ad, B3, e3, B4, e4, rfl, hN⟩ := HK.out j (by rw [HH.out]; exact hjl)
            obtain ⟨x, hx⟩ : ∃ x, l[j]'(by rw [HH.out]; exact hjl) = x := ⟨_, rfl⟩
            have hx2 : l[j]? = some x := by rw [← hx]; exact List.getElem?_eq_getElem _
            rw [hx] at hN
            have HIx := fun w' (hb : Below w.heap.size w w') => Lib.hid (HI.out j x hx2 B3 e3 B4 e4 w' (K_below hb hN.K))
            have HND := Lib.hid hN.cells
            have hx0 := Lib.hid hN.h0
            have HA2 : Hid (vaT x → ∀ (i : Nat) (y : S37), i < j + 1 → l[i]? = some y → vaT y) := Lib.hid (fun hp i y hi hy => by
              by_cases hij : i = j
              · subst hij
                obtain rfl := Option.some.inj (hx2.symm.trans hy)
                exact hp
              · exact HA.out i y (by omega) hy)
            clear hx hx2 hN HA
            have S := S.out
            go_wp2_with (first | go_skip | ((with_reducible refine wl0 rfl ?_); first | refine sl S ?_ | refine sxa S HND.out ?_) | ((with_reducible refine gate_dst (N := 20) rfl ?_); refine sl S ?_) | ((with_reducible refine gate_dst (N := 24) rfl ?_); refine sl S ?_) | ((with_reducible refine gate_dst (N := 29) rfl ?_); refine sl S ?_) | ((with_reducible refine gate_dst (N := 33) rfl ?_); refine sx S hx0.out ?_) | ((with_reducible refine (HIx _ S.below).out.mono ?_); rintro r w' ⟨b, rfl, hp, hb⟩; replace S := S.call hb; refine stop_ ?_))
            unfold Stop
            cases b
            · go_wp2_with (first | go_skip | ((with_reducible refine wl0 rfl ?_); first | refine sl S ?_ | refine sxa S HND.out ?_) | ((with_reducible refine gate_dst (N := 20) rfl ?_); refine sl S ?_) | ((with_reducible refine gate_dst (N := 24) rfl ?_); refine sl S ?_) | ((with_reducible refine gate_dst (N := 29) rfl ?_); refine sl S ?_) | ((with_reducible refine gate_dst (N := 33) rfl ?_); refine sx S hx0.out ?_))
              exact rt S (BoolV.mk false (fun h => Bool.noConfusion h) S.below)
            · go_wp2_with (first | go_skip | ((with_reducible refine wl0 rfl ?_); first | refine sl S ?_ | refine sxa S HND.out ?_) | ((with_reducible refine gate_dst (N := 20) rfl ?_); refine sl S ?_) | ((with_reducible refine gate_dst (N := 24) rfl ?_); refine sl S ?_) | ((with_reducible refine gate_dst (N := 29) rfl ?_); refine sl S ?_) | ((with_reducible refine gate_dst (N := 33) rfl ?_); refine sx S hx0.out ?_))
              go_roundw
              case rel => exact ⟨j + 1, by omega, by go_num, Lib.hid (HA2.out (hp rfl)), Lib.hid S⟩
              case measure => simp [intOf]; omega
          · obtain rfl : m = j := by omega
            have S := S.out
            have HA2 := fun (i : Nat) (x : S37) (hx : l[i]? = some x) => HA.out i x (by rw [← HH.out]; exact (List.getElem?_eq_some_iff.1 hx).1) hx
            have HK2 := HK2.out
            replace HA2 := Lib.hid HA2
            replace HK2 := Lib.hid HK2
            by_cases q0 : f1 = 0
            · have tq0 : (f1 == 0) = true := by first | omega | exact beq_iff_eq.2 (by omega) | exact decide_eq_true (by omega) | exact decide_eq_false (by omega)
              by_cases q1 : f2 = 0
              · have tq1 : (f2 == 0) = true := by first | omega | exact beq_iff_eq.2 (by omega) | exact decide_eq_true (by omega) | exact decide_eq_false (by omega)
                by_cases q2 : m3 = 0
                · have tq2 : ((m3 : Int) == 0) = true := by first | omega | exact beq_iff_eq.2 (by omega) | exact decide_eq_true (by omega) | exact decide_eq_false (by omega)
                  by_cases q3 : m = 0
                  · have tq3 : ((m : Int) == 0) = true := by first | omega | exact beq_iff_eq.2 (by omega) | exact decide_eq_true (by omega) | exact decide_eq_false (by omega)
                    go_wp2_with (first | go_skip | ((with_reducible refine wl ?_); first | refine sl S ?_))
                    exact rt S (BoolV.mk true (fun _ => HP.out HA2.out HK2.out (.inl ⟨rfl, q0, q1, List.eq_nil_of_length_eq_zero (HM3.out.trans q2), List.eq_nil_of_length_eq_zero (HH.out.trans q3)⟩)) S.below)
                  · have tq3 : ((m : Int) == 0) = false := by first | omega | exact beq_eq_false_iff_ne.2 (by omega) | exact decide_eq_true (by omega) | exact decide_eq_false (by omega)
                    go_wp2_with (first | go_skip | ((with_reducible refine wl ?_); first | refine sl S ?_))
                    exact rt S (BoolV.mk false (fun h => Bool.noConfusion h) S.below)
                · have tq2 : ((m3 : Int) == 0) = false := by first | omega | exact beq_eq_false_iff_ne.2 (by omega) | exact decide_eq_true (by omega) | exact decide_eq_false (by omega)
                  go_wp2_with (first | go_skip | ((with_reducible refine wl ?_); first | refine sl S ?_))
                  exact rt S (BoolV.mk false (fun h => Bool.noConfusion h) S.below)
              · have tq1 : (f2 == 0) = false := by first | omega | exact beq_eq_false_iff_ne.2 (by omega) | exact decide_eq_true (by omega) | exact decide_eq_false (by omega)
                go_wp2_with (first | go_skip | ((with_reducible refine wl ?_); first | refine sl S ?_))
                exact rt S (BoolV.mk false (fun h => Bool.noConfusion h) S.below)
            · have tq0 : (f1 == 0) = false := by first | omega | exact beq_eq_false_iff_ne.2 (by omega) | exact decide_eq_true (by omega) | exact decide_eq_false (by omega)
              go_wp2_with (first | go_skip | ((with_reducible refine wl ?_); first | refine sl S ?_))
              exact rt S (BoolV.mk false (fun h => Bool.noConfusion h) S.below)
      · by_cases h1 : f0 = 1
        · subst h1
          clear t2 h0
          go_enter Tryd.func24, Tryd.ntmps24
          go_wp2_with (first | go_skip | ((with_reducible refine wl ?_); first | (refine sn S (fun g w1 S => ?_); first | ((fail_if_success (have := gn)); revert g; intro gn S)) | refine sl S ?_))
          have S := Lib.hid S
          go_loopw [3] (fun k wr => ∃ (j : Nat), j ≤ m ∧ k = .int .i64 j ∧ Hid (∀ (i : Nat) (x : S37), i < j → l[i]? = some x → vaT x) ∧ Hid (Sep w wr [.box gn #[.int .i64 1, .int .i64 f1, .int .i64 f2, .slice A3 m3 c3, .slice A4 m c4] 37])) (fun k _ => m - (intOf k).toNat)
          case atStart => exact ⟨0, Nat.zero_le _, rfl, Lib.hid (fun i x hi _ => by omega), S⟩
          case round =>
            clear S
            obtain ⟨j, hj, rfl, HA, S⟩ := hrel
            by_cases hjl : j < m
            · obtain ⟨ad, B3, e3, B4, e4, rfl, hN⟩ := HK.out j (by rw [HH.out]; exact hjl)
              obtain ⟨x, hx⟩ : ∃ x, l[j]'(by rw [HH.out]; exact hjl) = x := ⟨_, rfl⟩
              have hx2 : l[j]? = some x := by rw [← hx]; exact List.getElem?_eq_getElem _
              rw [hx] at hN
              have HIx := fun w' (hb : Below w.heap.size w w') => Lib.hid (HI.out j x hx2 B3 e3 B4 e4 w' (K_below hb hN.K))
              have HND := Lib.hid hN.cells
              have hx0 := Lib.hid hN.h0
              have HA2 : Hid (vaT x → ∀ (i : Nat) (y : S37), i < j + 1 → l[i]? = some y → vaT y) := Lib.hid (fun hp i y hi hy => by
                by_cases hij : i = j
                · subst hij
                  obtain rfl := Option.some.inj (hx2.symm.trans hy)
                  exact hp
                · exact HA.out i y (by omega) hy)
              clear hx hx2 hN HA
              have S := S.out
              go_wp2_with (first | go_skip | ((with_reducible refine wl0 rfl ?_); first | refine sl S ?_ | refine sxa S HND.out ?_) | ((with_reducible refine gate_dst (N := 20) rfl ?_); refine sl S ?_) | ((with_reducible refine gate_dst (N := 24) rfl ?_); refine sl S ?_) | ((with_reducible refine gate_dst (N := 29) rfl ?_); refine sl S ?_) | ((with_reducible refine gate_dst (N := 33) rfl ?_); refine sx S hx0.out ?_) | ((with_reducible refine (HIx _ S.below).out.mono ?_); rintro r w' ⟨b, rfl, hp, hb⟩; replace S := S.call hb; refine stop_ ?_))
              unfold Stop
              cases b
              · go_wp2_with (first | go_skip | ((with_reducible refine wl0 rfl ?_); first | refine sl S ?_ | refine sxa S HND.out ?_) | ((with_reducible refine gate_dst (N := 20) rfl ?_); refine sl S ?_) | ((with_reducible refine gate_dst (N := 24) rfl ?_); refine sl S ?_) | ((with_reducible refine gate_dst (N := 29) rfl ?_); refine sl S ?_) | ((with_reducible refine gate_dst (N := 33) rfl ?_); refine sx S hx0.out ?_))
                exact rt S (BoolV.mk false (fun h => Bool.noConfusion h) S.below)
              · go_wp2_with (first | go_skip | ((with_reducible refine wl0 rfl ?_); first | refine sl S ?_ | refine sxa S HND.out ?_) | ((with_reducible refine gate_dst (N := 20) rfl ?_); refine sl S ?_) | ((with_reducible refine gate_dst (N := 24) rfl ?_); refine sl S ?_) | ((with_reducible refine gate_dst (N := 29) rfl ?_); refine sl S ?_) | ((with_reducible refine gate_dst (N := 33) rfl ?_); refine sx S hx0.out ?_))
                go_roundw
                case rel => exact ⟨j + 1, by omega, by go_num, Lib.hid (HA2.out (hp rfl)), Lib.hid S⟩
                case measure => simp [intOf]; omega
            · obtain rfl : m = j := by omega
              have S := S.out
              have HA2 := fun (i : Nat) (x : S37) (hx : l[i]? = some x) => HA.out i x (by rw [← HH.out]; exact (List.getElem?_eq_some_iff.1 hx).1) hx
              have HK2 := HK2.out
              replace HA2 := Lib.hid HA2
              replace HK2 := Lib.hid HK2
              by_cases q0 : f1 = 0
              · have tq0 : (f1 == 0) = true := by first | omega | exact beq_iff_eq.2 (by omega) | exact decide_eq_true (by omega) | exact decide_eq_false (by omega)
                by_cases q1 : f2 = 0
                · have tq1 : (f2 == 0) = true := by first | omega | exact beq_iff_eq.2 (by omega) | exact decide_eq_true (by omega) | exact decide_eq_false (by omega)
                  by_cases q2 : m3 % 8 = 0
                  · have tq2 : ((m3 : Int) % 8 == 0) = true := by first | omega | exact beq_iff_eq.2 (by omega) | exact decide_eq_true (by omega) | exact decide_eq_false (by omega)
                    by_cases q3 : m3 ≤ 524280
                    · have tq3 : ((m3 : Int) ≤ 524280) := by first | omega | exact beq_iff_eq.2 (by omega) | exact decide_eq_true (by omega) | exact decide_eq_false (by omega)
                      by_cases q4 : m ≤ 65535
                      · have tq4 : ((m : Int) ≤ 65535) := by first | omega | exact beq_iff_eq.2 (by omega) | exact decide_eq_true (by omega) | exact decide_eq_false (by omega)
                        go_wp2_with (first | go_skip | ((with_reducible refine wl ?_); first | refine sl S ?_))
                        exact rt S (BoolV.mk true (fun _ => HP.out HA2.out HK2.out (.inr (.inl ⟨rfl, q0, q1, HM3.out.symm ▸ q2, HM3.out.symm ▸ q3, HH.out.symm ▸ q4⟩))) S.below)
                      · have tq4 : ¬ ((m : Int) ≤ 65535) := by first | omega | exact beq_eq_false_iff_ne.2 (by omega) | exact decide_eq_true (by omega) | exact decide_eq_false (by omega)
                        go_wp2_with (first | go_skip | ((with_reducible refine wl ?_); first | refine sl S ?_))
                        exact rt S (BoolV.mk false (fun h => Bool.noConfusion h) S.below)
                    · have tq3 : ¬ ((m3 : Int) ≤ 524280) := by first | omega | exact beq_eq_false_iff_ne.2 (by omega) | exact decide_eq_true (by omega) | exact decide_eq_false (by omega)
                      go_wp2_with (first | go_skip | ((with_reducible refine wl ?_); first | refine sl S ?_))
                      exact rt S (BoolV.mk false (fun h => Bool.noConfusion h) S.below)
                  · have tq2 : ((m3 : Int) % 8 == 0) = false := by first | omega | exact beq_eq_false_iff_ne.2 (by omega) | exact decide_eq_true (by omega) | exact decide_eq_false (by omega)
                    go_wp2_with (first | go_skip | ((with_reducible refine wl ?_); first | refine sl S ?_))
                    exact rt S (BoolV.mk false (fun h => Bool.noConfusion h) S.below)
                · have tq1 : (f2 == 0) = false := by first | omega | exact beq_eq_false_iff_ne.2 (by omega) | exact decide_eq_true (by omega) | exact decide_eq_false (by omega)
                  go_wp2_with (first | go_skip | ((with_reducible refine wl ?_); first | refine sl S ?_))
                  exact rt S (BoolV.mk false (fun h => Bool.noConfusion h) S.below)
              · have tq0 : (f1 == 0) = false := by first | omega | exact beq_eq_false_iff_ne.2 (by omega) | exact decide_eq_true (by omega) | exact decide_eq_false (by omega)
                go_wp2_with (first | go_skip | ((with_reducible refine wl ?_); first | refine sl S ?_))
                exact rt S (BoolV.mk false (fun h => Bool.noConfusion h) S.below)
        · have t0 : (f0 == 0) = false := beq_eq_false_iff_ne.2 h0
          have t1 : (f0 == 1) = false := beq_eq_false_iff_ne.2 h1
          clear h0 h1
          go_enter Tryd.func24, Tryd.ntmps24
          go_wp2_with (first | go_skip | ((with_reducible refine wl ?_); first | (refine sn S (fun g w1 S => ?_); first | ((fail_if_success (have := gn)); revert g; intro gn S)) | refine sl S ?_))
          have S := Lib.hid S
          go_loopw [3] (fun k wr => ∃ (j : Nat), j ≤ m ∧ k = .int .i64 j ∧ Hid (∀ (i : Nat) (x : S37), i < j → l[i]? = some x → vaT x) ∧ Hid (Sep w wr [.box gn #[.int .i64 f0, .int .i64 f1, .int .i64 f2, .slice A3 m3 c3, .slice A4 m c4] 37])) (fun k _ => m - (intOf k).toNat)
          case atStart => exact ⟨0, Nat.zero_le _, rfl, Lib.hid (fun i x hi _ => by omega), S⟩
          case round =>
            clear S
            obtain ⟨j, hj, rfl, HA, S⟩ := hrel
            by_cases hjl : j < m
            · obtain ⟨ad, B3, e3, B4, e4, rfl, hN⟩ := HK.out j (by rw [HH.out]; exact hjl)
              obtain ⟨x, hx⟩ : ∃ x, l[j]'(by rw [HH.out]; exact hjl) = x := ⟨_, rfl⟩
              have hx2 : l[j]? = some x := by rw [← hx]; exact List.getElem?_eq_getElem _
              rw [hx] at hN
              have HIx := fun w' (hb : Below w.heap.size w w') => Lib.hid (HI.out j x hx2 B3 e3 B4 e4 w' (K_below hb hN.K))
              have HND := Lib.hid hN.cells
              have hx0 := Lib.hid hN.h0
              have HA2 : Hid (vaT x → ∀ (i : Nat) (y : S37), i < j + 1 → l[i]? = some y → vaT y) := Lib.hid (fun hp i y hi hy => by
                by_cases hij : i = j
                · subst hij
                  obtain rfl := Option.some.inj (hx2.symm.trans hy)
                  exact hp
                · exact HA.out i y (by omega) hy)
              clear hx hx2 hN HA
              have S := S.out
              go_wp2_with (first | go_skip | ((with_reducible refine wl0 rfl ?_); first | refine sl S ?_ | refine sxa S HND.out ?_) | ((with_reducible refine gate_dst (N := 20) rfl ?_); refine sl S ?_) | ((with_reducible refine gate_dst (N := 24) rfl ?_); refine sl S ?_) | ((with_reducible refine gate_dst (N := 29) rfl ?_); refine sl S ?_) | ((with_reducible refine gate_dst (N := 33) rfl ?_); refine sx S hx0.out ?_) | ((with_reducible refine (HIx _ S.below).out.mono ?_); rintro r w' ⟨b, rfl, hp, hb⟩; replace S := S.call hb; refine stop_ ?_))
              unfold Stop
              cases b
              · go_wp2_with (first | go_skip | ((with_reducible refine wl0 rfl ?_); first | refine sl S ?_ | refine sxa S HND.out ?_) | ((with_reducible refine gate_dst (N := 20) rfl ?_); refine sl S ?_) | ((with_reducible refine gate_dst (N := 24) rfl ?_); refine sl S ?_) | ((with_reducible refine gate_dst (N := 29) rfl ?_); refine sl S ?_) | ((with_reducible refine gate_dst (N := 33) rfl ?_); refine sx S hx0.out ?_))
                exact rt S (BoolV.mk false (fun h => Bool.noConfusion h) S.below)
              · go_wp2_with (first | go_skip | ((with_reducible refine wl0 rfl ?_); first | refine sl S ?_ | refine sxa S HND.out ?_) | ((with_reducible refine gate_dst (N := 20) rfl ?_); refine sl S ?_) | ((with_reducible refine gate_dst (N := 24) rfl ?_); refine sl S ?_) | ((with_reducible refine gate_dst (N := 29) rfl ?_); refine sl S ?_) | ((with_reducible refine gate_dst (N := 33) rfl ?_); refine sx S hx0.out ?_))
                go_roundw
                case rel => exact ⟨j + 1, by omega, by go_num, Lib.hid (HA2.out (hp rfl)), Lib.hid S⟩
                case measure => simp [intOf]; omega
            · obtain rfl : m = j := by omega
              have S := S.out
              have HA2 := fun (i : Nat) (x : S37) (hx : l[i]? = some x) => HA.out i x (by rw [← HH.out]; exact (List.getElem?_eq_some_iff.1 hx).1) hx
              have HK2 := HK2.out
              replace HA2 := Lib.hid HA2
              replace HK2 := Lib.hid HK2
              go_wp2_with (first | go_skip | ((with_reducible refine wl ?_); first | refine sl S ?_))
              exact rt S (BoolV.mk false (fun h => Bool.noConfusion h) S.below)
end Go.Proofs.YtidglmocekghmaaDoor.Pr
end
section
namespace Go.Proofs.YtidglmocekghmaaDoor.Pr
open Go.RowKit Go.Proofs.YtidglmocekghmaaDoorW.PrintWords Go.Proofs.YtidglmocekghmaaDoorW.PrintLast Go.Proofs.YtidglmocekghmaaDoorW.PrintMore
set_option linter.unusedVariables false
set_option linter.unusedSimpArgs false
def trN (n : S37) : Prop := n.f0 = 1 → 8 * twords n.f3 = n.f3.length ∧ keptN nullN n.f4 = n.f4.length
def trT : S37 → Prop := AllT trN
set_option maxRecDepth 100000 in
set_option maxHeartbeats 4000000 in
theorem trimmed_any : ∀ (S : Nat) (n : S37), tsize n < S → tsize n ≤ 1000000000000 → ∀ (A3 : Option Addr) (c3 : Nat) (A4 : Option Addr) (c4 : Nat) (w : World), k37.K w n (ndC n A3 c3 A4 c4) → Calls Tryd.prog 25 #[ndV n A3 c3 A4 c4] w (BoolV w (trT n))
  | 0, n, h, _ => by omega
  | S + 1, n, hS, hB => by
    intro A3 c3 A4 c4 w h
    obtain ⟨l3, g3, l4, g4⟩ := K_C3 h
    have HK := Lib.hid (fun i hi => kid_at g4 i hi)
    have ht := tsize_eq n
    have hl := length_tsizes n.f4
    have HI : Hid (∀ (i : Nat) (x : S37), n.f4[i]? = some x → ∀ A3 c3 A4 c4 w', k37.K w' x (ndC x A3 c3 A4 c4) → Calls Tryd.prog 25 #[ndV x A3 c3 A4 c4] w' (BoolV w' (trT x))) := Lib.hid (fun i x hx A3 c3 A4 c4 w' hk => by
      have := tsize_kid (List.mem_of_getElem? hx)
      exact trimmed_any S x (by omega) (by omega) A3 c3 A4 c4 w' hk)
    have HW3 := fun w' (hb : Below w.heap.size w w') => Lib.hid (words11_any A3 c3 n.f3 w' (Kd.C_below g3 hb) l3 (by omega))
    have HW4 := fun w' (hb : Below w.heap.size w w') => Lib.hid (ptrs11_any A4 c4 n.f4 w' (Kd.C_below g4 hb) l4 (by omega))
    have HP : Hid ((∀ (i : Nat) (x : S37), n.f4[i]? = some x → trT x) → trN n → trT n) := Lib.hid (fun h1 h2 => .mk h2 (fun x hx => by
      obtain ⟨i, hi, rfl⟩ := List.mem_iff_getElem.1 hx
      exact h1 i _ (List.getElem?_eq_getElem hi)))
    have HTW := Lib.hid (trN.eq_1 n)
    have htl : twords n.f3 ≤ 1000000000000 := by have := keptN_le zeroB n.f3; unfold twords; omega
    have hkl : keptN nullN n.f4 ≤ 1000000000000 := by have := keptN_le nullN n.f4; omega
    have hm4 : n.f4.length ≤ 1000000000000 := by omega
    have hm3 : n.f3.length ≤ 1000000000000 := by omega
    generalize trT n = PT at *
    generalize trN n = PN at *
    obtain ⟨f0, f1, f2, f3, l⟩ := n
    dsimp only [ndV, ndC] at *
    generalize twords f3 = tw at *
    generalize keptN nullN l = kp at *
    generalize f3.length = m3 at *
    obtain ⟨m, hm⟩ : ∃ m, l.length = m := ⟨_, rfl⟩
    rw [hm] at hm4 HW4 HTW ⊢
    have HH := Lib.hid hm
    have S := Sep.start w
    clear g3 g4 l3 l4 h hm hl ht hB
    have hwr : IntKind.i64.wrap (8 * (tw : Int)) = 8 * (tw : Int) := (i64_w _).trans (w64 (by omega) (by omega))
    by_cases h1 : f0 = 1
    · subst h1
      by_cases h2 : 8 * tw = m3
      · have t2 : ((8 * (tw : Int)) != (m3 : Int)) = false := by rw [bne_eq_false_iff_eq]; omega
        by_cases h3 : kp = m
        · have t3 : ((kp : Int) != (m : Int)) = false := by rw [bne_eq_false_iff_eq]; omega
          have HPN : Hid PN := Lib.hid (HTW.out ▸ fun _ => ⟨h2, h3⟩)
          clear h2 h3 HTW
          go_enter Tryd.func25, Tryd.ntmps25
          go_wp2_with (first | go_skip | ((with_reducible refine wl ?_); first | (refine sn S (fun g w1 S => ?_); first | ((fail_if_success (have := gn)); revert g; intro gn S)) | refine sl S ?_))
          refine bws S (fun S => ?_)
          have d0 := (blk_cell (S.blk .here) 0).trans rfl
          have d3 := (blk_cell (S.blk .here) 3).trans rfl
          have d4 := (blk_cell (S.blk .here) 4).trans rfl
          refine pu 0 4 ?_
          refine bwl 1 d0 (Below.refl _ _) ?_
          refine pu 2 6 ?_
          refine pu 3 7 ?_
          refine pu 4 8 ?_
          refine bwh 5 d3 (Below.refl _ _) ?_
          refine pu 8 12 ?_
          refine bwh 9 d3 (Below.refl _ _) ?_
          refine pu 10 14 ?_
          refine bwk 6 10 Tryd.func46 (HW3 _ S.below).out (fun r' w2 hT => ?_)
          obtain ⟨rfl, hb⟩ := hT
          replace S := S.call hb
          refine ⟨_, rfl, hb, _, rfl, ?_⟩
          simp only [Act.put, List.setIfInBounds_toArray, List.set_cons_zero, List.set_cons_succ]
          refine pu 7 11 ?_
          refine pu 11 15 ?_
          refine pu 12 16 ?_
          refine pu 13 17 ?_
          refine bwh 14 d4 hb ?_
          refine pu 16 20 ?_
          refine bwh 17 d4 hb ?_
          refine pu 18 22 ?_
          refine bwk 15 19 Tryd.func47 (HW4 _ S.below).out (fun r' w3 hT => ?_)
          obtain ⟨rfl, hb3⟩ := hT
          replace S := S.call hb3
          refine ⟨_, rfl, below_step hb hb3, _, rfl, ?_⟩
          simp only [Act.put, List.setIfInBounds_toArray, List.set_cons_zero, List.set_cons_succ]
          refine pu 19 23 ?_
          refine pu 20 24 ?_
          refine pu 21 25 ?_
          refine dn ?_
          try simp only [List.getElem_toArray, List.getElem_cons_zero, List.getElem_cons_succ]
          go_wp2
          have S := Lib.hid S
          go_loopw [3] (fun k wr => ∃ (j : Nat), j ≤ m ∧ k = .int .i64 j ∧ Hid (∀ (i : Nat) (x : S37), i < j → l[i]? = some x → trT x) ∧ Hid (Sep w wr [.box gn #[.int .i64 1, .int .i64 f1, .int .i64 f2, .slice A3 m3 c3, .slice A4 m c4] 37])) (fun k _ => m - (intOf k).toNat)
          case atStart => exact ⟨0, Nat.zero_le _, rfl, Lib.hid (fun i x hi _ => by omega), S⟩
          case round =>
            clear S
            obtain ⟨j, hj, rfl, HA, S⟩ := hrel
            by_cases hjl : j < m
            · obtain ⟨ad, B3, e3, B4, e4, rfl, hN⟩ := HK.out j (by rw [HH.out]; exact hjl)
              obtain ⟨x, hx⟩ : ∃ x, l[j]'(by rw [HH.out]; exact hjl) = x := ⟨_, rfl⟩
              have hx2 : l[j]? = some x := by rw [← hx]; exact List.getElem?_eq_getElem _
              rw [hx] at hN
              have HIx := fun w' (hb : Below w.heap.size w w') => Lib.hid (HI.out j x hx2 B3 e3 B4 e4 w' (K_below hb hN.K))
              have HND := Lib.hid hN.cells
              have HA2 : Hid (trT x → ∀ (i : Nat) (y : S37), i < j + 1 → l[i]? = some y → trT y) := Lib.hid (fun hp i y hi hy => by
                by_cases hij : i = j
                · subst hij
                  obtain rfl := Option.some.inj (hx2.symm.trans hy)
                  exact hp
                · exact HA.out i y (by omega) hy)
              clear hx hx2 hN
              have S := S.out
              go_wp2_with (first | go_skip | ((with_reducible refine wl ?_); first | refine sl S ?_ | refine sxa S HND.out ?_) | ((with_reducible refine (HIx _ S.below).out.mono ?_); rintro r w' ⟨b, rfl, hp, hb⟩; replace S := S.call hb))
              · exact rt S (BoolV.mk false (fun h => Bool.noConfusion h) S.below)
              · rename_i hbb
                have hb1 : b = true := by simpa using hbb
                exact ⟨⟨j + 1, by omega, by go_num, Lib.hid (HA2.out (hp hb1)), Lib.hid S⟩, by simp [intOf]; omega⟩
            · obtain rfl : j = m := by omega
              have S := S.out
              have HPT := HP.out (fun i x hx => HA.out i x (by rw [← HH.out]; exact (List.getElem?_eq_some_iff.1 hx).1) hx) HPN.out
              go_wp2_with (first | go_skip | ((with_reducible refine wl ?_); refine sl S ?_))
              exact rt S (BoolV.mk true (fun _ => HPT) S.below)
        · have t3 : ((kp : Int) != (m : Int)) = true := bne_iff_ne.2 (by omega)
          clear h2 h3 HTW
          go_enter Tryd.func25, Tryd.ntmps25
          go_wp2_with (first | go_skip | ((with_reducible refine wl ?_); first | (refine sn S (fun g w1 S => ?_); first | ((fail_if_success (have := gn)); revert g; intro gn S)) | refine sl S ?_))
          refine bws S (fun S => ?_)
          have d0 := (blk_cell (S.blk .here) 0).trans rfl
          have d3 := (blk_cell (S.blk .here) 3).trans rfl
          have d4 := (blk_cell (S.blk .here) 4).trans rfl
          refine pu 0 4 ?_
          refine bwl 1 d0 (Below.refl _ _) ?_
          refine pu 2 6 ?_
          refine pu 3 7 ?_
          refine pu 4 8 ?_
          refine bwh 5 d3 (Below.refl _ _) ?_
          refine pu 8 12 ?_
          refine bwh 9 d3 (Below.refl _ _) ?_
          refine pu 10 14 ?_
          refine bwk 6 10 Tryd.func46 (HW3 _ S.below).out (fun r' w2 hT => ?_)
          obtain ⟨rfl, hb⟩ := hT
          replace S := S.call hb
          refine ⟨_, rfl, hb, _, rfl, ?_⟩
          simp only [Act.put, List.setIfInBounds_toArray, List.set_cons_zero, List.set_cons_succ]
          refine pu 7 11 ?_
          refine pu 11 15 ?_
          refine pu 12 16 ?_
          refine pu 13 17 ?_
          refine bwh 14 d4 hb ?_
          refine pu 16 20 ?_
          refine bwh 17 d4 hb ?_
          refine pu 18 22 ?_
          refine bwk 15 19 Tryd.func47 (HW4 _ S.below).out (fun r' w3 hT => ?_)
          obtain ⟨rfl, hb3⟩ := hT
          replace S := S.call hb3
          refine ⟨_, rfl, below_step hb hb3, _, rfl, ?_⟩
          simp only [Act.put, List.setIfInBounds_toArray, List.set_cons_zero, List.set_cons_succ]
          refine pu 19 23 ?_
          refine pu 20 24 ?_
          refine pu 21 25 ?_
          refine dn ?_
          go_wp2
          exact rt S (BoolV.mk false (fun h => Bool.noConfusion h) S.below)
      · have t2 : ((8 * (tw : Int)) != (m3 : Int)) = true := bne_iff_ne.2 (by omega)
        clear h2 HTW
        go_enter Tryd.func25, Tryd.ntmps25
        go_wp2_with (first | go_skip | ((with_reducible refine wl ?_); first | (refine sn S (fun g w1 S => ?_); first | ((fail_if_success (have := gn)); revert g; intro gn S)) | refine sl S ?_))
        refine bws S (fun S => ?_)
        have d0 := (blk_cell (S.blk .here) 0).trans rfl
        have d3 := (blk_cell (S.blk .here) 3).trans rfl
        have d4 := (blk_cell (S.blk .here) 4).trans rfl
        refine pu 0 4 ?_
        refine bwl 1 d0 (Below.refl _ _) ?_
        refine pu 2 6 ?_
        refine pu 3 7 ?_
        refine pu 4 8 ?_
        refine bwh 5 d3 (Below.refl _ _) ?_
        refine pu 8 12 ?_
        refine bwh 9 d3 (Below.refl _ _) ?_
        refine pu 10 14 ?_
        refine bwk 6 10 Tryd.func46 (HW3 _ S.below).out (fun r' w2 hT => ?_)
        obtain ⟨rfl, hb⟩ := hT
        replace S := S.call hb
        refine ⟨_, rfl, hb, _, rfl, ?_⟩
        simp only [Act.put, List.setIfInBounds_toArray, List.set_cons_zero, List.set_cons_succ]
        refine pu 7 11 ?_
        refine pu 11 15 ?_
        refine pu 12 16 ?_
        refine pq 13 17 ?_
        refine pq 14 18 ?_
        refine pq 15 19 ?_
        refine pq 16 20 ?_
        refine pq 17 21 ?_
        refine pq 18 22 ?_
        refine pq 19 23 ?_
        refine pu 20 24 ?_
        refine pu 21 25 ?_
        refine dn ?_
        go_wp2
        exact rt S (BoolV.mk false (fun h => Bool.noConfusion h) S.below)
    · have t1 : (f0 == 1) = false := beq_eq_false_iff_ne.2 h1
      have HPN : Hid PN := Lib.hid (HTW.out ▸ fun e => (h1 e).elim)
      clear h1 HTW
      go_enter Tryd.func25, Tryd.ntmps25
      go_wp2_with (first | go_skip | ((with_reducible refine wl ?_); first | (refine sn S (fun g w1 S => ?_); first | ((fail_if_success (have := gn)); revert g; intro gn S)) | refine sl S ?_))
      refine bws S (fun S => ?_)
      have d0 := (blk_cell (S.blk .here) 0).trans rfl
      have d3 := (blk_cell (S.blk .here) 3).trans rfl
      have d4 := (blk_cell (S.blk .here) 4).trans rfl
      refine pu 0 4 ?_
      refine bwl 1 d0 (Below.refl _ _) ?_
      refine pu 2 6 ?_
      refine pu 3 7 ?_
      refine pq 4 8 ?_
      refine pq 5 9 ?_
      refine pq 6 10 ?_
      refine pq 7 11 ?_
      refine pq 8 12 ?_
      refine pq 9 13 ?_
      refine pq 10 14 ?_
      refine pq 11 15 ?_
      refine pq 12 16 ?_
      refine pq 13 17 ?_
      refine pq 14 18 ?_
      refine pq 15 19 ?_
      refine pq 16 20 ?_
      refine pq 17 21 ?_
      refine pq 18 22 ?_
      refine pq 19 23 ?_
      refine pq 20 24 ?_
      refine pu 21 25 ?_
      refine dn ?_
      try simp only [List.getElem_toArray, List.getElem_cons_zero, List.getElem_cons_succ]
      go_wp2
      have S := Lib.hid S
      go_loopw [3] (fun k wr => ∃ (j : Nat), j ≤ m ∧ k = .int .i64 j ∧ Hid (∀ (i : Nat) (x : S37), i < j → l[i]? = some x → trT x) ∧ Hid (Sep w wr [.box gn #[.int .i64 f0, .int .i64 f1, .int .i64 f2, .slice A3 m3 c3, .slice A4 m c4] 37])) (fun k _ => m - (intOf k).toNat)
      case atStart => exact ⟨0, Nat.zero_le _, rfl, Lib.hid (fun i x hi _ => by omega), S⟩
      case round =>
        clear S
        obtain ⟨j, hj, rfl, HA, S⟩ := hrel
        by_cases hjl : j < m
        · obtain ⟨ad, B3, e3, B4, e4, rfl, hN⟩ := HK.out j (by rw [HH.out]; exact hjl)
          obtain ⟨x, hx⟩ : ∃ x, l[j]'(by rw [HH.out]; exact hjl) = x := ⟨_, rfl⟩
          have hx2 : l[j]? = some x := by rw [← hx]; exact List.getElem?_eq_getElem _
          rw [hx] at hN
          have HIx := fun w' (hb : Below w.heap.size w w') => Lib.hid (HI.out j x hx2 B3 e3 B4 e4 w' (K_below hb hN.K))
          have HND := Lib.hid hN.cells
          have HA2 : Hid (trT x → ∀ (i : Nat) (y : S37), i < j + 1 → l[i]? = some y → trT y) := Lib.hid (fun hp i y hi hy => by
            by_cases hij : i = j
            · subst hij
              obtain rfl := Option.some.inj (hx2.symm.trans hy)
              exact hp
            · exact HA.out i y (by omega) hy)
          clear hx hx2 hN
          have S := S.out
          go_wp2_with (first | go_skip | ((with_reducible refine wl ?_); first | refine sl S ?_ | refine sxa S HND.out ?_) | ((with_reducible refine (HIx _ S.below).out.mono ?_); rintro r w' ⟨b, rfl, hp, hb⟩; replace S := S.call hb))
          · exact rt S (BoolV.mk false (fun h => Bool.noConfusion h) S.below)
          · rename_i hbb
            have hb1 : b = true := by simpa using hbb
            exact ⟨⟨j + 1, by omega, by go_num, Lib.hid (HA2.out (hp hb1)), Lib.hid S⟩, by simp [intOf]; omega⟩
        · obtain rfl : j = m := by omega
          have S := S.out
          have HPT := HP.out (fun i x hx => HA.out i x (by rw [← HH.out]; exact (List.getElem?_eq_some_iff.1 hx).1) hx) HPN.out
          go_wp2_with (first | go_skip | ((with_reducible refine wl ?_); refine sl S ?_))
          exact rt S (BoolV.mk true (fun _ => HPT) S.below)
end Go.Proofs.YtidglmocekghmaaDoor.Pr
end
section
namespace Go.Proofs.YtidglmocekghmaaDoor.Pr
set_option linter.unusedVariables false
set_option linter.unusedSimpArgs false
theorem Byt.N {b : List Int} (h : Byt b) : BytN b := fun x hx => by
 obtain ⟨i, hi, rfl⟩ := List.mem_iff_getElem.1 hx
 have := h i
 rwa [List.getD_eq_getElem?_getD, List.getElem?_eq_getElem hi] at this
theorem wordsE_bytes (e c : Int) (he : e < 6) (c0 : 0 ≤ c) : (wordsE e c).toNat ≤ (bytesE e c).toNat ∧ (bytesE e c).toNat ≤ 8 * (wordsE e c).toNat := by
 have hb : 0 ≤ bitsE e * c := Int.mul_nonneg (bitsE_bd e).1 c0
 unfold wordsE bytesE
 rw [if_neg (by omega)]
 generalize bitsE e * c = z at *
 omega
theorem write_len {n : S37} (h : fitT n) (hs : tsize n ≤ 18001) : (writeW n).length ≤ 536870000 := by
 have h1 := placeW_le (tsize n + 1) n (Nat.lt_succ_self _) [0] 0 h
 have h2 : tsize n * tsize n ≤ 18001 * 18001 := Nat.mul_le_mul hs hs
 unfold writeW
 simp only [List.length_cons, List.length_nil] at h1
 omega
end Go.Proofs.YtidglmocekghmaaDoor.Pr
end
section
namespace Go.Proofs.YtidglmocekghmaaDoor.Pr
theorem maxD_att : ∀ l : List S37, maxD l = 0 ∨ ∃ x ∈ l, x.f3.length / 8 = maxD l
 | [] => .inl rfl
 | y :: l => by
  unfold maxD
  by_cases h : maxD l ≤ y.f3.length / 8
  ·exact .inr ⟨y, List.mem_cons_self, by omega⟩
  ·rcases maxD_att l with h1 | ⟨x, h1, h2⟩
   ·omega
   ·exact .inr ⟨x, List.mem_cons_of_mem _ h1, by omega⟩
theorem maxP_att : ∀ l : List S37, maxP l = 0 ∨ ∃ x ∈ l, x.f4.length = maxP l
 | [] => .inl rfl
 | y :: l => by
  unfold maxP
  by_cases h : maxP l ≤ y.f4.length
  ·exact .inr ⟨y, List.mem_cons_self, by omega⟩
  ·rcases maxP_att l with h1 | ⟨x, h1, h2⟩
   ·omega
   ·exact .inr ⟨x, List.mem_cons_of_mem _ h1, by omega⟩
theorem lays_full {s : List Int} {a nx q : Nat} {kids : List S37} (h : lays s ((kids.take (keptN nullN kids)).map ttrim) a nx q) (hz : ∀ j, keptN nullN kids ≤ j → j < kids.length → wd s (a + j) = 0) : lays s (kids.map ttrim) a nx q := by
 obtain ⟨m, h1, h2, h3⟩ := keptN_parts nullN kids
 have hnull : ∀ (m : List S37) (b nx : Nat), (∀ x ∈ m, nullN x = true) → (∀ j, j < m.length → wd s (b + j) = 0) → lays s (m.map ttrim) b nx nx := fun m => by
  induction m with
  | nil => intro b nx _ _; rfl
  | cons x m ih =>
   intro b nx hx hw
   refine ⟨nx, ?_, ih (b + 1) nx (fun y hy => hx y (List.mem_cons_of_mem _ hy)) (fun j hj => by rw [show b + 1 + j = b + (j + 1) by omega]; exact hw (j + 1) (by simpa using hj))⟩
   have hx0 := hx x List.mem_cons_self
   obtain ⟨k, e, n, bb, l⟩ := x
   rw [ttrim_eq]
   unfold lay
   rw [if_pos (by simpa [nullN] using hx0)]
   exact ⟨hw 0 (by simp), rfl⟩
 have hlen : kids.length = keptN nullN kids + m.length := by
  have := congrArg List.length h1
  rw [List.length_append, h3] at this
  exact this
 conv => arg 2; rw [h1]
 rw [List.map_append, lays_append]
 refine ⟨q, h, hnull m _ q h2 (fun j hj => ?_)⟩
 rw [List.length_map, h3, Nat.add_assoc]
 exact hz _ (by omega) (by omega)
def ElF (s : List Int) (d p at_ : Nat) (x : S37) : Prop := ∃ l : List S37, x = ⟨1, 0, 0, bytesL (seg s at_ d), l⟩ ∧ l.length = p
theorem el_val {s : List Int} {f : Nat} (d p ad k0 i m : Nat) (cost : Int) (h1 : (strR [s] (valR [s] f) (elG ⟨2, 0, (ad : Int), d, p, 7, k0, cost⟩ (i : Int)) m).2.2 = 0) :
  (kidsR (valR [s] f 0) p ((ad + i * (d + p) + d : Nat) : Int) m).2.2 = 0 ∧ (strR [s] (valR [s] f) (elG ⟨2, 0, (ad : Int), d, p, 7, k0, cost⟩ (i : Int)) m).1 = ⟨1, 0, 0, bytesL (seg s (ad + i * (d + p)) d), (kidsR (valR [s] f 0) p ((ad + i * (d + p) + d : Nat) : Int) m).1⟩ := by
 have hE : elG ⟨2, 0, (ad : Int), d, p, 7, k0, cost⟩ (i : Int) = ⟨1, 0, ((ad + i * (d + p) : Nat) : Int), d, p, 0, 0, 0⟩ := by unfold elG; simp
 rw [hE] at h1 ⊢
 have h2 := strR_2 [s] (valR [s] f) ⟨1, 0, ((ad + i * (d + p) : Nat) : Int), d, p, 0, 0, 0⟩ m
 dsimp only at h2
 rw [Int.toNat_natCast, show (((ad + i * (d + p) : Nat) : Int) + (d : Int)) = ((ad + i * (d + p) + d : Nat) : Int) by omega] at h2
 rw [h2] at h1
 refine ⟨h1, ?_⟩
 unfold strR
 dsimp only
 rw [Int.toNat_natCast, show (((ad + i * (d + p) : Nat) : Int) + (d : Int)) = ((ad + i * (d + p) + d : Nat) : Int) by omega, if_neg (by rw [h1]; simp), cutG_one]
theorem els_form {s : List Int} {f : Nat} (d p ad k0 : Nat) (cost : Int) : ∀ (k i m : Nat), (kidsR (fun i m => strR [s] (valR [s] f) (elG ⟨2, 0, (ad : Int), d, p, 7, k0, cost⟩ i) m) k i m).2.2 = 0 → ∀ (j : Nat) (x : S37), (kidsR (fun i m => strR [s] (valR [s] f) (elG ⟨2, 0, (ad : Int), d, p, 7, k0, cost⟩ i) m) k i m).1[j]? = some x → ElF s d p (ad + (i + j) * (d + p)) x
 | 0, i, m, _, j, x, hx => by simp [kidsR] at hx
 | k + 1, i, m, he, j, x, hx => by
  have hsk := strR_sinks [s] (valR_sinks [s] f) (elG ⟨2, 0, (ad : Int), d, p, 7, k0, cost⟩ (i : Int)) m (by omega)
  revert he hx
  unfold kidsR
  by_cases h1 : (strR [s] (valR [s] f) (elG ⟨2, 0, (ad : Int), d, p, 7, k0, cost⟩ (i : Int)) m).2.2 ≠ 0
  ·rw [if_pos h1]
   intro he
   exact (h1 he).elim
  rw [if_neg h1]
  intro he hx
  have h1 : (strR [s] (valR [s] f) (elG ⟨2, 0, (ad : Int), d, p, 7, k0, cost⟩ (i : Int)) m).2.2 = 0 := by simpa using h1
  obtain ⟨hk0, hT1⟩ := el_val d p ad k0 i m cost h1
  dsimp only at he hx
  generalize strR [s] (valR [s] f) (elG ⟨2, 0, (ad : Int), d, p, 7, k0, cost⟩ (i : Int)) m = T at *
  cases j with
  | zero =>
   simp only [List.getElem?_cons_zero, Option.some.injEq] at hx
   subst hx
   exact ⟨_, by rw [hT1, Nat.add_zero], kidsR_len _ _ _ hk0⟩
  | succ j =>
   simp only [List.getElem?_cons_succ] at hx
   have e1 : ((T.2.1.toNat : Nat) : Int) = T.2.1 := by omega
   have e2 : ((i + 1 : Nat) : Int) = (i : Int) + 1 := by omega
   have := els_form d p ad k0 cost k (i + 1) T.2.1.toNat (by rw [e1, e2]; exact he) j x (by rw [e1, e2]; exact hx)
   rwa [show i + 1 + j = i + (j + 1) by omega] at this
theorem layE_vis {s : List Int} {f : Nat} (H : VisP s f) (d p ad k0 : Nat) (cost : Int) : ∀ (k i nx r m : Nat), ad + (i + k) * (d + p) ≤ s.length → nx ≤ s.length → (kidsR (fun i m => strR [s] (valR [s] f) (elG ⟨2, 0, (ad : Int), d, p, 7, k0, cost⟩ i) m) k i m).2.2 = 0 →
  layE s d p ((kidsR (fun i m => strR [s] (valR [s] f) (elG ⟨2, 0, (ad : Int), d, p, 7, k0, cost⟩ i) m) k i m).1.map ttrim) (ad + i * (d + p)) nx r →
  velems (visV s f) p (d + p) k (ad + i * (d + p) + d) nx = some r ∧ r ≤ s.length ∧ ∀ (j : Nat) (x : S37), (kidsR (fun i m => strR [s] (valR [s] f) (elG ⟨2, 0, (ad : Int), d, p, 7, k0, cost⟩ i) m) k i m).1[j]? = some x → ElK s d p (ad + (i + j) * (d + p)) x
 | 0, i, nx, r, m, _, hn, _, h => by
  simp only [kidsR, List.map_nil, layE] at h
  subst h
  exact ⟨rfl, hn, fun j x hx => by simp [kidsR] at hx⟩
 | k + 1, i, nx, r, m, hin, hn, he, h => by
  have y1 : (i + (k + 1)) * (d + p) = i * (d + p) + k * (d + p) + (d + p) := by rw [Nat.add_mul, Nat.add_mul, Nat.one_mul]; omega
  have y2 : (i + 1 + k) * (d + p) = i * (d + p) + k * (d + p) + (d + p) := by rw [Nat.add_mul, Nat.add_mul, Nat.one_mul]; omega
  have y3 : (i + 1) * (d + p) = i * (d + p) + (d + p) := by rw [Nat.add_mul, Nat.one_mul]
  have hsk := strR_sinks [s] (valR_sinks [s] f) (elG ⟨2, 0, (ad : Int), d, p, 7, k0, cost⟩ (i : Int)) m (by omega)
  revert he h
  unfold kidsR
  by_cases h1 : (strR [s] (valR [s] f) (elG ⟨2, 0, (ad : Int), d, p, 7, k0, cost⟩ (i : Int)) m).2.2 ≠ 0
  ·rw [if_pos h1]
   intro he
   exact (h1 he).elim
  rw [if_neg h1]
  intro he h
  have h1 : (strR [s] (valR [s] f) (elG ⟨2, 0, (ad : Int), d, p, 7, k0, cost⟩ (i : Int)) m).2.2 = 0 := by simpa using h1
  obtain ⟨hk0, hT1⟩ := el_val d p ad k0 i m cost h1
  dsimp only at he h
  generalize strR [s] (valR [s] f) (elG ⟨2, 0, (ad : Int), d, p, 7, k0, cost⟩ (i : Int)) m = T at *
  have hkl := kidsR_len _ _ _ hk0
  rw [List.map_cons, hT1, ttrim_struct] at h
  unfold layE at h
  obtain ⟨g1, g2, q, g3, g4⟩ := h
  have hfull := lays_full g3 (fun j hj1 hj2 => g2 j (by rw [List.length_map, List.length_take]; omega) (by omega))
  obtain ⟨i1, i2, i3, i4⟩ := lays_vis H p (ad + i * (d + p) + d) nx q m (by omega) hn hk0 hfull
  have e1 : ((T.2.1.toNat : Nat) : Int) = T.2.1 := by omega
  have e2 : ((i + 1 : Nat) : Int) = (i : Int) + 1 := by omega
  have e3 : ad + i * (d + p) + d + (d + p) = ad + (i + 1) * (d + p) + d := by omega
  have e4 : ad + i * (d + p) + (d + p) = ad + (i + 1) * (d + p) := by omega
  rw [e4] at g4
  have := layE_vis H d p ad k0 cost k (i + 1) q r T.2.1.toNat (by omega) i2 (by rw [e1, e2]; exact he) (by rw [e1, e2]; exact g4)
  rw [e1, e2] at this
  obtain ⟨j1, j2, j3⟩ := this
  refine ⟨by rw [velems, i1]; dsimp only; rw [e3]; exact j1, j2, fun j x hx => ?_⟩
  cases j with
  | zero =>
   simp only [List.getElem?_cons_zero, Option.some.injEq] at hx
   subst hx
   exact ⟨_, by rw [hT1, Nat.add_zero], hkl, fun q y hy => by rw [Nat.add_zero]; exact i4 q y hy⟩
  | succ j =>
   simp only [List.getElem?_cons_succ] at hx
   have := j3 j x hx
   rwa [show i + 1 + j = i + (j + 1) by omega] at this
end Go.Proofs.YtidglmocekghmaaDoor.Pr
end
section
namespace Go.Proofs.YtidglmocekghmaaDoor.Pr
theorem vis_cmp {s : List Int} {f : Nat} (hok : ∀ x ∈ s, 0 ≤ x ∧ x < 18446744073709551616) (hlen : s.length ≤ 536870000) (H : VisP s f) (a nx r m : Nat) (ha : a < s.length) (hn : nx ≤ s.length) (h0 : wd s a ≠ 0) (hk1 : kindW (wd s a) = 1) (he7 : elemW (wd s a) = 7) (he : (valR [s] (f + 1) 0 a m).2.2 = 0) (hL : lay s (ttrim (valR [s] (f + 1) 0 a m).1) a nx r) :
  visV s (f + 1) a nx = some r ∧ r ≤ s.length ∧ ((valR [s] (f + 1) 0 a m).1.f0 = 0 ↔ wd s a = 0) := by
 have hwd : ∀ i, i < s.length → 0 ≤ wd s i ∧ wd s i < 18446744073709551616 := fun i hi => hok _ (by
  unfold wd
  rw [List.getD_eq_getElem?_getD, List.getElem?_eq_getElem hi]
  exact List.getElem_mem _)
 have hwr := hwd a ha
 have ho : Okv s (f + 1) a := ⟨m, he⟩
 have hob := (ok_obj ha h0 (by omega) he).1
 obtain ⟨S, hS⟩ := st_nat ha h0 (by omega) hob
 obtain ⟨c, hc⟩ := Int.eq_ofNat_of_zero_le (cntW_bd (wd s a)).1
 have hcb := (cntW_bd (wd s a)).2
 obtain ⟨hin, d, p, k, cost, hd, hp, hk2, hkc, hO, _⟩ := cmp_ok ha h0 hk1 he7 hc hS ho
 obtain ⟨hm, hV⟩ := val_obj ha h0 (by omega) hO he
 have hW := encL_of hwr.1 hwr.2 hk1
 rw [hc, he7] at hW
 have hoff := offW_bd (wd s a)
 have hfin : ∀ {P Q R : Prop}, (P ∧ Q) → R → P ∧ Q ∧ R := fun h1 h2 => ⟨h1.1, h1.2, h2⟩
 have htr := hwd S (by omega)
 have hkt : kindW (wd s S) = 0 := by
  have hO2 : objG [s] 0 a = tagM 0 S 7 ((c : Int) + 1) c (wd s S) := by
   have hI : inG [s] 0 (S : Int) ((c : Int) + 1) = true := by rw [inG_one, decide_eq_true_eq]; omega
   have hWc : wordsE 7 (c : Int) = (c : Int) + 1 := rfl
   unfold objG desM
   rw [folM_one ha (by omega)]
   simp only [pO, pD, pP, pE, pC, hk1, he7, hc, h0, hS, hWc, hI, ne_eq, not_true_eq_false, if_false, if_true, show ((1 : Int) = 3) = False by simp, show ((1 : Int) = 0) = False by simp, show ((1 : Int) ≤ 1) = True by simp, show (true = false) = False by simp]
   rw [wdG_one (by omega) (by omega), Int.toNat_natCast]
  rw [hO2] at hob
  unfold tagM at hob
  by_cases h : kindW (wd s S) = 0
  ·exact h
  ·rw [if_pos h] at hob
   simp at hob
 have hT := encS_of htr.1 htr.2 hkt
 rw [hk2, hd, hp] at hT
 have hdb := (dataW_bd (wd s S)).2
 have hpb := (ptrsW_bd (wd s S)).2
 have hkb := (offW_bd (wd s S)).2
 unfold bodR at hV
 dsimp only at hV hm
 rw [if_neg (by omega), if_neg (by omega), if_neg (by omega), Int.toNat_natCast, elsR_kids] at hV
 have e1 : (m : Int) - cost = (((m : Int) - cost).toNat : Nat) := by omega
 rw [e1, show (S : Int) + 1 = ((S + 1 : Nat) : Int) by omega] at hV
 by_cases hke : (kidsR (fun i m => strR [s] (valR [s] f) (elG ⟨2, 0, ((S + 1 : Nat) : Int), d, p, 7, k, cost⟩ i) m) k 0 (((m : Int) - cost).toNat : Nat)).2.2 = 0
 ·rw [if_neg (by rw [hke]; simp)] at hV
  rw [hV] at hL
  refine hfin ?_ (by rw [hV]; simp [h0])
  have hkl := kidsR_len _ _ _ hke
  have hform := els_form (s := s) (f := f) d p (S + 1) k cost k 0 _ hke
  dsimp only at hL
  rw [ttrim_list] at hL
  have hvis := layE_vis H d p (S + 1) k cost k 0 (S + (c + 1)) r (((m : Int) - cost).toNat)
  generalize hels : (kidsR (fun i m => strR [s] (valR [s] f) (elG ⟨2, 0, ((S + 1 : Nat) : Int), d, p, 7, k, cost⟩ i) m) k 0 (((m : Int) - cost).toNat : Nat)).1 = els at *
  have hmd : ∀ (j : Nat) (x : S37), els[j]? = some x → (ttrim x).f3.length / 8 ≤ d ∧ (ttrim x).f4.length ≤ p := fun j x hx => by
   obtain ⟨l, rfl, hl2⟩ := hform j x hx
   rw [ttrim_struct]
   dsimp only
   rw [List.length_take, List.length_map, List.length_take, bytesL_length]
   have h5 : (seg s (S + 1 + (0 + j) * (d + p)) d).length ≤ d := by unfold seg; rw [List.length_take]; omega
   have := keptN_le nullN l
   omega
  have hMD : maxD (els.map ttrim) ≤ d := by
   rcases maxD_att (els.map ttrim) with h | ⟨x, hx, h⟩
   ·omega
   ·obtain ⟨y, hy, rfl⟩ := List.mem_map.1 hx
    obtain ⟨j, _, e⟩ := mem_at hy
    have := (hmd j y e).1
    omega
  have hMP : maxP (els.map ttrim) ≤ p := by
   rcases maxP_att (els.map ttrim) with h | ⟨x, hx, h⟩
   ·omega
   ·obtain ⟨y, hy, rfl⟩ := List.mem_map.1 hx
    obtain ⟨j, _, e⟩ := mem_at hy
    have := (hmd j y e).2
    omega
  unfold lay at hL
  rw [if_neg (by omega), if_neg (by omega), if_pos rfl, List.length_map, hkl] at hL
  obtain ⟨l1, l2, l3, l4⟩ := hL
  have h1 := encL_inj (hW.symm.trans l1) (by omega) (by omega) (by omega) (by omega)
  have hSn := off_eq h1.2.2 hS (by omega) (by omega) hoff
  subst hSn
  have h2 := encS_inj (hT.symm.trans l3) (by omega) (by omega) (by omega) (by omega)
  have hD : maxD (els.map ttrim) = d := by omega
  have hP : maxP (els.map ttrim) = p := by omega
  rw [hD, hP] at h1 l4
  have hq : k * (d + p) = c := by omega
  rw [hq, show S + 1 + c = S + (c + 1) by omega] at l4
  obtain ⟨v1, v2, v3⟩ := hvis (by rw [Nat.zero_add, hq]; omega) hin hke (by rw [Nat.zero_mul, Nat.add_zero]; exact l4)
  rw [Nat.zero_mul, Nat.add_zero] at v1
  have hb : ∀ j, j < k → j * (d + p) + (d + p) ≤ c := fun j hj => by
   have := Nat.mul_le_mul_right (d + p) (show j + 1 ≤ k by omega)
   rw [Nat.add_mul, Nat.one_mul] at this
   omega
  have hf1 : (decide (d = 0) || anyM s (d + p) k (S + 1 + d - 1)) = true := by
   by_cases hd0 : d = 0
   ·simp [hd0]
   ·rw [Bool.or_eq_true, anyM_iff]
    right
    rcases maxD_att (els.map ttrim) with h | ⟨x, hx, h⟩
    ·omega
    ·obtain ⟨y, hy, rfl⟩ := List.mem_map.1 hx
     obtain ⟨j, hj, e⟩ := mem_at hy
     obtain ⟨l, rfl, hl2, _⟩ := v3 j y e
     have hjk : j < k := by omega
     have h5 := hb j hjk
     rw [Nat.zero_add] at h
     have hws : (seg s (S + 1 + j * (d + p)) d).length = d := by unfold seg; rw [List.length_take, List.length_drop]; omega
     rw [ttrim_struct, hD] at h
     dsimp only at h
     have ht := twords_le_len (seg s (S + 1 + j * (d + p)) d)
     rw [List.length_take, bytesL_length, hws] at h
     rw [hws] at ht
     refine ⟨j, hjk, ?_⟩
     have := last_twords (seg s (S + 1 + j * (d + p)) d) (by omega) (by omega)
     rw [hws, seg_last (by omega)] at this
     rw [show S + 1 + d - 1 + j * (d + p) = S + 1 + j * (d + p) + d - 1 by omega]
     exact this
  have hf2 : (decide (p = 0) || anyM s (d + p) k (S + 1 + (d + p) - 1)) = true := by
   by_cases hp0 : p = 0
   ·simp [hp0]
   ·rw [Bool.or_eq_true, anyM_iff]
    right
    rcases maxP_att (els.map ttrim) with h | ⟨x, hx, h⟩
    ·omega
    ·obtain ⟨y, hy, rfl⟩ := List.mem_map.1 hx
     obtain ⟨j, hj, e⟩ := mem_at hy
     obtain ⟨l, rfl, hl2, hl3⟩ := v3 j y e
     have hjk : j < k := by omega
     have h5 := hb j hjk
     rw [ttrim_struct, hP] at h
     dsimp only at h
     rw [List.length_map, List.length_take] at h
     have hkn := keptN_le nullN l
     have hkp : keptN nullN l = l.length := by omega
     refine ⟨j, hjk, fun hz => ?_⟩
     have hlt : l.length - 1 < l.length := by omega
     have h6 := kept_last hkp (by omega) _ (List.getElem?_eq_getElem hlt)
     have h7 := hl3 (l.length - 1) _ (List.getElem?_eq_getElem hlt)
     rw [Nat.zero_add, show S + 1 + j * (d + p) + d + (l.length - 1) = S + 1 + (d + p) - 1 + j * (d + p) by omega] at h7
     exact h6 (h7.2 hz)
  rw [visV, if_neg h0, if_neg (by omega), if_pos hk1]
  unfold vlist vcomp
  rw [if_pos he7, if_pos hS, hk2, hd, hp, hc]
  simp only [Int.toNat_natCast]
  rw [if_pos (by rw [← hq]; push_cast; rfl), if_pos (by rw [hf1, hf2]; rfl)]
  exact ⟨v1, v2⟩
 ·rw [if_pos hke] at hV
  rw [hV] at he
  exact (hke he).elim
theorem vis_lay {s : List Int} (hok : ∀ x ∈ s, 0 ≤ x ∧ x < 18446744073709551616) (hlen : s.length ≤ 536870000) : ∀ f, VisP s f
 | 0 => fun a nx r m ha hn he hL => by
  by_cases h0 : wd s a = 0
  ·have hk : kindW (wd s a) ≠ 2 := by rw [h0]; decide
   have hV : valR [s] 0 0 a m = (ndZ, (m : Int), 0) := by
    rw [valR, folM_one ha hk]
    simp [h0]
   rw [hV] at hL ⊢
   dsimp only at hL
   rw [ttrim_null] at hL
   unfold ndZ lay at hL
   rw [if_pos rfl] at hL
   rw [visV, if_pos h0]
   exact ⟨by rw [hL.2], by omega, by simp [ndZ, h0]⟩
  ·exfalso
   rcases lay_kind _ hL with h | h
   ·exact h0 h
   ·rw [valR, folM_one ha (by omega)] at he
    simp [h0] at he
 | f + 1 => fun a nx r m ha hn he hL => by
  have H := vis_lay hok hlen f
  by_cases h0 : wd s a = 0
  ·have hk : kindW (wd s a) ≠ 2 := by rw [h0]; decide
   have hV : valR [s] (f + 1) 0 a m = (ndZ, (m : Int), 0) := by
    rw [valR, folM_one ha hk]
    simp [h0]
   rw [hV] at hL ⊢
   dsimp only at hL
   rw [ttrim_null] at hL
   unfold ndZ lay at hL
   rw [if_pos rfl] at hL
   rw [visV, if_pos h0]
   exact ⟨by rw [hL.2], by omega, by simp [ndZ, h0]⟩
  ·rcases lay_kind _ hL with h | h
   ·exact (h0 h).elim
   ·have hkb := kindW_bd (wd s a)
    by_cases hk0 : kindW (wd s a) = 0
    ·exact vis_str hok hlen H a nx r m ha hn h0 hk0 he hL
    ·by_cases he7 : elemW (wd s a) = 7
     ·exact vis_cmp hok hlen H a nx r m ha hn h0 (by omega) he7 he hL
     ·exact vis_lst hok hlen H a nx r m ha hn h0 (by omega) he7 he hL
theorem wordsM_iff {s : List Int} {D Wd : Int} (hok : ∀ x ∈ s, 0 ≤ x ∧ x < 18446744073709551616) (hlen : s.length ≤ 536870000) (h0 : 0 < s.length) : wordsM s D Wd = true ↔ (msgR [s] D Wd).2 = 0 ∧ lay s (msgR [s] D Wd).1 0 1 s.length := by
  refine ⟨wordsM_lay hok, fun ⟨h1, h2⟩ => ?_⟩
  rw [wordsM_R]
  unfold wordsR
  have hs : ((Wd.toNat : Nat) : Int) = startM Wd := by unfold startM; split <;> omega
  have h3 := h1
  rw [msgR_2 D Wd h0] at h3
  have hm : (msgR [s] D Wd).1 = ttrim (valR [s] D.toNat 0 0 (startM Wd)).1 := by
    unfold msgR
    rw [if_neg (fun h => by
      have h2 := h.2
      rw [show sgG [s] 0 = s from rfl] at h2
      omega), if_neg (by rw [h3]; simp)]
  rw [hm, ← hs] at h2
  rw [← hs] at h3
  have h4 := (vis_lay hok hlen D.toNat 0 1 s.length Wd.toNat h0 h0 h3 h2).1
  rw [h4, h1, visI_some]
  simp [h0]
end Go.Proofs.YtidglmocekghmaaDoor.Pr
end
section
namespace Go.Proofs.YtidglmocekghmaaDoor.Pr
set_option linter.unusedVariables false
set_option linter.unusedSimpArgs false
def canN (n : S37) : Prop :=
 n = ndZ ∨
 (n.f0 = 1 ∧ n.f1 = 0 ∧ n.f2 = 0 ∧ BytN n.f3 ∧ n.f3.length % 8 = 0 ∧ n.f3.length / 8 ≤ 65535 ∧ n.f4.length ≤ 65535 ∧ 8 * twords n.f3 = n.f3.length ∧ keptN nullN n.f4 = n.f4.length) ∨
 (n.f0 = 2 ∧ 0 ≤ n.f1 ∧ n.f1 < 6 ∧ 0 ≤ n.f2 ∧ n.f2 ≤ 536870911 ∧ BytN n.f3 ∧ n.f3.length = (bytesE n.f1 n.f2).toNat ∧ trimE n.f1 n.f2 n.f3 = n.f3 ∧ n.f4 = []) ∨
 (n.f0 = 2 ∧ n.f1 = 6 ∧ n.f2 = n.f4.length ∧ n.f4.length ≤ 536870911 ∧ n.f3 = []) ∨
 (n.f0 = 2 ∧ n.f1 = 7 ∧ n.f2 = n.f4.length ∧ n.f4.length ≤ 536870911 ∧ n.f3 = [] ∧ ∀ x ∈ n.f4, x.f0 = 1)
def canT : S37 → Prop := AllT canN
def cosC (A B k : Nat) : Nat := 1 + (if A + B = 0 then k else k * (A + B))
mutual
def costN : S37 → Nat
 | ⟨k, e, n, b, l⟩ => if k = 0 then 0 else if k = 1 then b.length / 8 + l.length + costs l else if e = 7 then cosC (maxD l) (maxP l) l.length + costE l else if e = 6 then l.length + costs l else (wordsE e n).toNat
def costs : List S37 → Nat
 | [] => 0
 | x :: l => costN x + costs l
def costE : List S37 → Nat
 | [] => 0
 | ⟨_, _, _, _, k⟩ :: l => costs k + costE l
end
mutual
def depN : S37 → Nat
 | ⟨k, e, n, b, l⟩ => if k = 0 then 0 else if k = 1 then 1 + deps l else if e = 7 then 1 + depE l else 1 + deps l
def deps : List S37 → Nat
 | [] => 0
 | x :: l => max (depN x) (deps l)
def depE : List S37 → Nat
 | [] => 0
 | ⟨_, _, _, _, k⟩ :: l => max (deps k) (depE l)
end
theorem can_fit {n : S37} : canT n → fitT n := by
 refine S37.ind (P := fun n => canT n → fitT n) (fun a ih h => ?_) n
 refine .mk ?_ (fun x hx => ih x hx (AllT.kids h x hx))
 rcases AllT.here h with rfl | ⟨h1, _, _, hb, h8, hd, hp, _, _⟩ | ⟨h2, e0, e6, n0, n1, hb, hl, ht, hk⟩ | ⟨h2, e6, hn, hl, h3⟩ | ⟨h2, e7, hn, hl, h3, hx⟩
 ·exact .inl rfl
 ·exact .inr (.inl ⟨h1, hb, h8, hd, hp⟩)
 ·obtain ⟨w1, w2⟩ := wordsE_bytes a.f1 a.f2 e6 n0
  exact .inr (.inr (.inl ⟨h2, e0, e6, n0, n1, hb, by omega, by omega, hk⟩))
 ·exact .inr (.inr (.inr (.inl ⟨h2, e6, hn, hl, h3⟩)))
 ·exact .inr (.inr (.inr (.inr ⟨h2, e7, hn, hl, h3, hx⟩)))
theorem BytN.byt {b : List Int} (h : BytN b) : Byt b := byt_of h
theorem bytes_words {n : Nat} {b : List Int} (h : BytN b) (hl : b.length ≤ 8 * n) : bytesL (wordsB n b) = b ++ List.replicate (8 * n - b.length) 0 := by
 have h1 : (bytesL (wordsB n b)).length = 8 * n := by rw [bytesL_length, wordsB_len]
 refine List.ext_getElem (by rw [h1, List.length_append, List.length_replicate]; omega) (fun i hi hi' => ?_)
 have h2 := bytesL_wordsB n b h.byt i (by omega)
 rw [List.getD_eq_getElem?_getD, List.getElem?_eq_getElem hi] at h2
 have h3 := getD_zeros b (8 * n - b.length) i
 rw [List.getD_eq_getElem?_getD, List.getElem?_eq_getElem hi', ← h2] at h3
 exact h3.symm
theorem trimE_pre (e c : Int) (b z : List Int) (h : b.length = (bytesE e c).toNat) : trimE e c (b ++ z) = trimE e c b := by
 unfold trimE
 by_cases h1 : e = 1 ∧ 0 < c % 8
 ·rw [if_pos h1, if_pos h1, ← h, List.take_left, List.take_of_length_le (Nat.le_refl _)]
  by_cases hc : 0 < b.length
  ·rw [List.getD_eq_getElem?_getD, List.getElem?_append_left (by omega), List.getD_eq_getElem?_getD]
  ·obtain rfl := List.eq_nil_of_length_eq_zero (by omega : b.length = 0)
   rfl
 ·rw [if_neg h1, if_neg h1, ← h, List.take_left, List.take_of_length_le (Nat.le_refl _)]
theorem twords_zeros (b : List Int) (k : Nat) : twords (b ++ List.replicate k 0) = twords b := by
 unfold twords
 rw [keptN_all zeroB b _ (fun x hx => by rw [(List.mem_replicate.1 hx).2]; rfl)]
theorem kept_nulls (l : List S37) (k : Nat) : keptN nullN (l ++ List.replicate k ndZ) = keptN nullN l :=
 keptN_all nullN l _ (fun x hx => by rw [(List.mem_replicate.1 hx).2]; rfl)
theorem kept_trim (l : List S37) : keptN nullN (l.map ttrim) = keptN nullN l := keptN_map nullN nullN ttrim l (fun x _ => by unfold nullN; rw [ttrim_f0])
theorem trim_str {b b' : List Int} {l vs : List S37} (k : Nat) (j : Nat) (hb : b' = b ++ List.replicate k 0) (hv : vs.map ttrim = l) (h1 : 8 * twords b = b.length) (h2 : keptN nullN l = l.length) : ttrim ⟨1, 0, 0, b', vs ++ List.replicate j ndZ⟩ = ⟨1, 0, 0, b, l⟩ := by
 have hl : l.length = vs.length := by rw [← hv, List.length_map]
 have hk : keptN nullN vs = vs.length := by rw [← kept_trim, hv, h2, hl]
 rw [ttrim_struct, hb, twords_zeros, h1, List.take_left, kept_nulls, hk, List.take_left, hv]
theorem kidsR_add {v : Int → Int → Tr} : ∀ (n k : Nat) (a m : Int), (kidsR v n a m).2.2 = 0 → kidsR v (n + k) a m = ((kidsR v n a m).1 ++ (kidsR v k (a + n) (kidsR v n a m).2.1).1, (kidsR v k (a + n) (kidsR v n a m).2.1).2)
 | 0, k, a, m, _ => by simp [kidsR]
 | n + 1, k, a, m, h => by
  have e : n + 1 + k = (n + k) + 1 := by omega
  by_cases he : (v a m).2.2 ≠ 0
  ·rw [kidsR, if_pos he] at h
   exact (he h).elim
  ·rw [kidsR, if_neg he] at h
   dsimp only at h
   have ih := kidsR_add n k (a + 1) (v a m).2.1 h
   rw [e, kidsR, if_neg he, ih, kidsR, if_neg he]
   have e2 : a + ((n + 1 : Nat) : Int) = a + 1 + n := by omega
   simp only [e2, List.cons_append]
theorem val_null {s : List Int} {f a m : Nat} (ha : a < s.length) (h0 : wd s a = 0) : valR [s] f 0 a m = (ndZ, (m : Int), 0) := by
 have hk : kindW (wd s a) ≠ 2 := by rw [h0]; decide
 cases f <;> rw [valR, folM_one ha hk] <;> simp [h0]
theorem nulls_val {s : List Int} {f : Nat} : ∀ (k a m : Nat), a + k ≤ s.length → (∀ j, j < k → wd s (a + j) = 0) → kidsR (valR [s] f 0) k a m = (List.replicate k ndZ, (m : Int), 0)
 | 0, a, m, _, _ => rfl
 | k + 1, a, m, hl, h => by
  have h1 := val_null (f := f) (m := m) (show a < s.length by omega) (h 0 (by omega))
  have h2 := nulls_val (s := s) (f := f) k (a + 1) m (by omega) (fun j hj => by rw [Nat.add_assoc, Nat.add_comm 1 j]; exact h (j + 1) (by omega))
  rw [kidsR, h1]
  dsimp only
  rw [if_neg (by simp), show (a : Int) + 1 = ((a + 1 : Nat) : Int) by omega, h2, List.replicate_succ]
end Go.Proofs.YtidglmocekghmaaDoor.Pr
end
section
namespace Go.Proofs.YtidglmocekghmaaDoor.Pr
set_option linter.unusedVariables false
set_option linter.unusedSimpArgs false
theorem objS {s : List Int} {a st d p : Nat} {off : Int} (ha : a < s.length) (hw : wd s a = encS off d p) (h0 : wd s a ≠ 0) (o0 : -536870912 ≤ off) (o1 : off ≤ 536870911) (d1 : d ≤ 65535) (p1 : p ≤ 65535) (hst : (a : Int) + 1 + off = st) (hin : st + (d + p) ≤ s.length) : objG [s] 0 a = (⟨1, 0, st, d, p, 0, 0, (d : Int) + p⟩, 0) := by
 obtain ⟨hk, ho, hd, hp⟩ := encS_dec (d := d) (p := p) o0 o1 (by omega) (by omega) (by omega) (by omega)
 rw [← hw] at hk ho hd hp
 have hi : inG [s] 0 (st : Int) ((d : Int) + p) = true := by rw [inG_one, decide_eq_true_eq]; omega
 unfold objG desM
 rw [folM_one ha (by omega)]
 simp only [pO, pD, pP, hk, hd, hp, h0, ho, hst, hi, ne_eq, not_true_eq_false, if_false, if_true, show ((0 : Int) = 3) = False by simp, show ((0 : Int) ≤ 1) = True by simp]
theorem objL {s : List Int} {a st n : Nat} {e c off : Int} (ha : a < s.length) (hw : wd s a = encL off e c) (h0 : wd s a ≠ 0) (o0 : -536870912 ≤ off) (o1 : off ≤ 536870911) (e0 : 0 ≤ e) (e7 : e < 7) (c0 : 0 ≤ c) (c1 : c ≤ 536870911) (hn : wordsE e c = n) (hst : (a : Int) + 1 + off = st) (hin : st + n ≤ s.length) : objG [s] 0 a = (⟨2, 0, st, 0, 0, e, c, n⟩, 0) := by
 obtain ⟨hk, ho, he, hc⟩ := encL_dec (e := e) (c := c) o0 o1 e0 (by omega) c0 c1
 rw [← hw] at hk ho he hc
 have hi : inG [s] 0 (st : Int) n = true := by rw [inG_one, decide_eq_true_eq]; omega
 have h7 : e ≠ 7 := by omega
 unfold objG desM
 rw [folM_one ha (by omega)]
 simp only [pO, pD, pP, pE, pC, hk, he, hc, h0, ho, hst, hn, hi, h7, ne_eq, not_true_eq_false, not_false_eq_true, if_false, if_true, show ((1 : Int) = 3) = False by simp, show ((1 : Int) = 0) = False by simp, show ((1 : Int) ≤ 1) = True by simp, show (true = false) = False by simp]
theorem objC {s : List Int} {a st d p k c : Nat} {off : Int} (ha : a < s.length) (hw : wd s a = encL off 7 c) (h0 : wd s a ≠ 0) (o0 : -536870912 ≤ off) (o1 : off ≤ 536870911) (c1 : c ≤ 536870911) (hst : (a : Int) + 1 + off = st) (hin : st + 1 + c ≤ s.length) (ht : wd s st = encS k d p) (k1 : k ≤ 536870911) (d1 : d ≤ 65535) (p1 : p ≤ 65535) (hq : k * (d + p) ≤ c) :
  objG [s] 0 a = (⟨2, 0, ((st + 1 : Nat) : Int), d, p, 7, k, ((1 + c + (if d + p = 0 then k else 0) : Nat) : Int)⟩, 0) := by
 obtain ⟨hk, ho, he, hc⟩ := encL_dec (off := off) (e := 7) (c := c) o0 o1 (by omega) (by omega) (by omega) (by omega)
 rw [← hw] at hk ho he hc
 obtain ⟨tk, tf, td, tp⟩ := encS_dec (off := k) (d := d) (p := p) (by omega) (by omega) (by omega) (by omega) (by omega) (by omega)
 rw [← ht] at tk tf td tp
 have hi : inG [s] 0 (st : Int) ((c : Int) + 1) = true := by rw [inG_one, decide_eq_true_eq]; omega
 have hWc : wordsE 7 (c : Int) = (c : Int) + 1 := rfl
 have hqI : ¬ (c : Int) < (k : Int) * ((d : Int) + p) := by
  have : ((k * (d + p) : Nat) : Int) ≤ c := by omega
  rw [Int.natCast_mul, Int.natCast_add] at this
  omega
 unfold objG desM tagM
 rw [folM_one ha (by omega)]
 simp only [pO, pD, pP, pE, pC, hk, he, hc, h0, ho, hst, hWc, hi, ne_eq, not_true_eq_false, not_false_eq_true, if_false, if_true, show ((1 : Int) = 3) = False by simp, show ((1 : Int) = 0) = False by simp, show ((1 : Int) ≤ 1) = True by simp, show (true = false) = False by simp]
 rw [wdG_one (by omega) (by omega), Int.toNat_natCast]
 simp only [tk, tf, td, tp, hqI, ne_eq, not_true_eq_false, if_false, if_true, show ((0 : Int) ≤ 1) = True by simp, show ((k : Int) < 0) = False by simp]
 by_cases hz : d + p = 0
 ·rw [if_pos (by omega), if_pos hz]
  simp only [Prod.mk.injEq, and_true]
  congr 1
  omega
 ·rw [if_neg (by omega), if_neg hz]
  simp only [Prod.mk.injEq, and_true]
  congr 1
  omega
theorem encS_ne {off : Int} {d p : Nat} (d1 : d ≤ 65535) (p1 : p ≤ 65535) (h : d + p ≠ 0) : encS off d p ≠ 0 := by unfold encS; omega
theorem encL_ne {off e c : Int} (e0 : 0 ≤ e) (c0 : 0 ≤ c) : encL off e c ≠ 0 := by unfold encL; omega
theorem cut_seg {s : List Int} {a n : Nat} {l : List Int} (h : seg s a n = l) : cutG [s] 0 (a : Int) (n : Int) = l := by rw [cutG_one]; exact h
theorem val_at {s : List Int} {f a m c : Nat} {o : Ob} (ha : a < s.length) (h0 : wd s a ≠ 0) (hk : kindW (wd s a) ≠ 2) (hO : objG [s] 0 a = (o, 0)) (hc : o.c = c) (hm : c ≤ m) : valR [s] (f + 1) 0 a m = bodR [s] (valR [s] f) o ((m - c : Nat) : Int) := by
 rw [valR_obj ha h0 hk, hO]
 dsimp only
 rw [if_neg (by simp), hc, if_neg (by omega), show ((m : Int) - c) = ((m - c : Nat) : Int) by omega]
theorem str_back {s : List Int} {f d p at_ m j : Nat} {b : List Int} {l vs : List S37} (k : Nat) {cost : Int} {e n0 : Int} (hb : BytN b) (hd : seg s at_ d = wordsB d b) (hbl : b.length ≤ 8 * d) (h1 : 8 * twords b = b.length) (h2 : keptN nullN l = l.length) (hv : vs.map ttrim = l) {mr : Nat}
  (hk : kidsR (valR [s] f 0) p ((at_ + d : Nat) : Int) m = (vs ++ List.replicate j ndZ, (mr : Int), 0)) : ∃ v, strR [s] (valR [s] f) ⟨1, 0, at_, d, p, e, n0, cost⟩ m = (v, (mr : Int), 0) ∧ ttrim v = ⟨1, 0, 0, b, l⟩ := by
 unfold strR
 dsimp only
 rw [show (at_ : Int) + d = ((at_ + d : Nat) : Int) by omega, Int.toNat_natCast, hk]
 dsimp only
 rw [if_neg (by simp), cut_seg hd, bytes_words hb hbl]
 exact ⟨_, rfl, trim_str _ j rfl hv h1 h2⟩
mutual
theorem lay_end {s : List Int} : ∀ (n : S37) (a nx r : Nat), lay s n a nx r → nx ≤ s.length → r ≤ s.length
 | ⟨k, e, n, b, l⟩, a, nx, r, h, hn => by
  unfold lay at h
  split at h
  ·omega
  split at h
  ·split at h
   ·omega
   ·exact lays_end l _ _ _ h.2.2.2 (by omega)
  split at h
  ·exact layE_end _ _ l _ _ _ h.2.2.2 (by omega)
  split at h
  ·exact lays_end l _ _ _ h.2.2 (by omega)
  ·omega
theorem lays_end {s : List Int} : ∀ (l : List S37) (a nx r : Nat), lays s l a nx r → nx ≤ s.length → r ≤ s.length
 | [], a, nx, r, h, hn => by unfold lays at h; omega
 | x :: l, a, nx, r, h, hn => by
  unfold lays at h
  obtain ⟨q, h1, h2⟩ := h
  exact lays_end l _ _ _ h2 (lay_end x _ _ _ h1 hn)
theorem layE_end {s : List Int} (A B : Nat) : ∀ (l : List S37) (a nx r : Nat), layE s A B l a nx r → nx ≤ s.length → r ≤ s.length
 | [], a, nx, r, h, hn => by unfold layE at h; omega
 | ⟨_, _, _, _, x⟩ :: l, a, nx, r, h, hn => by
  unfold layE at h
  obtain ⟨_, _, q, h1, h2⟩ := h
  exact layE_end A B l _ _ _ h2 (lays_end x _ _ _ h1 hn)
end
mutual
theorem lay_val {s : List Int} (hlen : s.length ≤ 536870000) : ∀ (n : S37) (f a nx r m : Nat), canT n → lay s n a nx r → a < s.length → nx ≤ s.length → depN n ≤ f → costN n ≤ m → ∃ v, valR [s] f 0 a m = (v, ((m - costN n : Nat) : Int), 0) ∧ ttrim v = n
  | ⟨k, e, n, b, l⟩, f, a, nx, r, m, hc, h, ha, hn, hf, hm => by
    have hkids := AllT.kids hc
    dsimp only at hkids
    unfold lay at h
    unfold depN at hf
    unfold costN at hm ⊢
    rcases AllT.here hc with hz | ⟨h1, f1, f2, hb, h8, hd, hp, ht, hk⟩ | ⟨h2, e0, e6, n0, n1, hb, hl, ht, hk⟩ | ⟨h2, e6, hnn, hl, h3⟩ | ⟨h2, e7, hnn, hl, h3, hx⟩
    · unfold ndZ at hz
      injection hz with z0 z1 z2 z3 z4
      subst z0 z1 z2 z3 z4
      rw [if_pos rfl] at h hm ⊢
      exact ⟨ndZ, by rw [val_null ha h.1]; rfl, ttrim_null⟩
    · dsimp only at h1 f1 f2 hb h8 hd hp ht hk
      subst h1 f1 f2
      rw [if_neg (by omega), if_pos rfl] at h hf hm ⊢
      obtain ⟨f', rfl⟩ : ∃ f', f = f' + 1 := ⟨f - 1, by omega⟩
      by_cases hz : b.length / 8 + l.length = 0
      · rw [if_pos hz] at h
        obtain rfl : b = [] := List.eq_nil_of_length_eq_zero (by omega)
        obtain rfl : l = [] := List.eq_nil_of_length_eq_zero (by omega)
        have h0 : wd s a ≠ 0 := by rw [h.1]; decide
        have hO := objS (d := 0) (p := 0) (st := a) (off := -1) ha h.1 h0 (by omega) (by omega) (by omega) (by omega) (by omega) (by omega)
        have hV := val_at (f := f') (m := m) (c := 0) ha h0 (by rw [h.1]; decide) hO rfl (by omega)
        rw [hV]
        unfold bodR
        rw [if_pos rfl]
        obtain ⟨v, e1, e2⟩ := str_back (s := s) (f := f') (d := 0) (p := 0) (at_ := a) (m := m - 0) (j := 0) (b := []) (l := []) (vs := []) (cost := ((0 : Nat) : Int) + (0 : Nat)) (e := 0) (n0 := 0) (mr := m - 0) 0 hb (by simp [seg, wordsB]) (by simp) ht hk rfl rfl
        exact ⟨v, e1, e2⟩
      · rw [if_neg hz] at h
        obtain ⟨hw, hin, hsg, hL⟩ := h
        have h0 : wd s a ≠ 0 := by rw [hw]; exact encS_ne hd hp hz
        have hO := objS ha hw h0 (by omega) (by omega) hd hp (show (a : Int) + 1 + ((nx : Int) - a - 1) = nx by omega) hin
        have hkd := (encS_dec (off := (nx : Int) - a - 1) (d := (b.length / 8 : Nat)) (p := l.length) (by omega) (by omega) (by omega) (by omega) (by omega) (by omega)).1
        have hV := val_at (f := f') (m := m) (c := b.length / 8 + l.length) ha h0 (by rw [hw, hkd]; decide) hO (by dsimp only; omega) (by omega)
        rw [hV]
        unfold bodR
        rw [if_pos rfl]
        obtain ⟨vs, k1, k2⟩ := lays_val hlen l f' (nx + b.length / 8) (nx + (b.length / 8 + l.length)) r (m - (b.length / 8 + l.length)) hkids hL (by omega) (by omega) (by omega) (by omega)
        obtain ⟨v, e1, e2⟩ := str_back (s := s) (f := f') (j := 0) (cost := ((b.length / 8 : Nat) : Int) + l.length) (e := 0) (n0 := 0) 0 hb hsg (by omega) ht hk k2 (by rw [List.replicate_zero, List.append_nil]; exact k1)
        exact ⟨v, by rw [e1, show m - (b.length / 8 + l.length) - costs l = m - (b.length / 8 + l.length + costs l) by omega], e2⟩
    · dsimp only at h2 e0 e6 n0 n1 hb hl ht hk
      subst h2 hk
      rw [if_neg (by omega), if_neg (by omega), if_neg (by omega), if_neg (by omega)] at h hm ⊢
      rw [if_neg (by omega), if_neg (by omega), if_neg (by omega)] at hf
      obtain ⟨hw, hin, hsg, hr⟩ := h
      obtain ⟨f', rfl⟩ : ∃ f', f = f' + 1 := ⟨f - 1, by omega⟩
      have hb0 := wordsE_bd e n n0 n1
      have hO := objL (n := (wordsE e n).toNat) ha hw (by rw [hw]; exact encL_ne e0 n0) (by omega) (by omega) e0 (by omega) n0 n1 (by omega) (show (a : Int) + 1 + ((nx : Int) - a - 1) = nx by omega) hin
      have hkd := (encL_dec (off := (nx : Int) - a - 1) (e := e) (c := n) (by omega) (by omega) e0 (by omega) n0 n1).1
      have hV := val_at (f := f') (m := m) (c := (wordsE e n).toNat) ha (by rw [hw]; exact encL_ne e0 n0) (by rw [hw, hkd]; decide) hO rfl (by omega)
      rw [hV]
      unfold bodR
      dsimp only
      rw [if_neg (by omega), if_pos e6, cut_seg hsg]
      obtain ⟨w1, w2⟩ := wordsE_bytes e n e6 n0
      rw [bytes_words hb (by omega), trimE_pre _ _ _ _ hl, ht]
      exact ⟨_, rfl, by rw [ttrim_list]; rfl⟩
    · dsimp only at h2 e6 hnn hl h3
      subst h2 e6 hnn h3
      rw [if_neg (by omega), if_neg (by omega), if_neg (by omega), if_pos rfl] at h hm ⊢
      rw [if_neg (by omega), if_neg (by omega), if_neg (by omega)] at hf
      obtain ⟨hw, hin, hL⟩ := h
      obtain ⟨f', rfl⟩ : ∃ f', f = f' + 1 := ⟨f - 1, by omega⟩
      have hwe : wordsE 6 (l.length : Int) = l.length := by unfold wordsE bitsE; simp; omega
      have hO := objL (n := l.length) ha hw (by rw [hw]; exact encL_ne (by omega) (by omega)) (by omega) (by omega) (by omega) (by omega) (by omega) (by omega) hwe (show (a : Int) + 1 + ((nx : Int) - a - 1) = nx by omega) hin
      have hkd := (encL_dec (off := (nx : Int) - a - 1) (e := 6) (c := l.length) (by omega) (by omega) (by omega) (by omega) (by omega) (by omega)).1
      have hV := val_at (f := f') (m := m) (c := l.length) ha (by rw [hw]; exact encL_ne (by omega) (by omega)) (by rw [hw, hkd]; decide) hO rfl (by omega)
      rw [hV]
      unfold bodR
      dsimp only
      obtain ⟨vs, k1, k2⟩ := lays_val hlen l f' nx (nx + l.length) r (m - l.length) hkids hL (by omega) (by omega) (by omega) (by omega)
      rw [if_neg (by omega), if_neg (by omega), if_pos rfl, Int.toNat_natCast, k1]
      dsimp only
      rw [if_neg (by simp)]
      exact ⟨_, by rw [show m - l.length - costs l = m - (l.length + costs l) by omega], by rw [ttrim_list, k2]⟩
    · dsimp only at h2 e7 hnn hl h3 hx
      subst h2 e7 hnn h3
      rw [if_neg (by omega), if_neg (by omega), if_pos rfl] at h hm hf ⊢
      obtain ⟨hw, hin, htg, hL⟩ := h
      obtain ⟨f', rfl⟩ : ∃ f', f = f' + 1 := ⟨f - 1, by omega⟩
      have hbd : ∀ x ∈ l, x.f3.length / 8 ≤ 65535 ∧ x.f4.length ≤ 65535 := fun x hx2 => by
        have h1 := hx x hx2
        rcases AllT.here (hkids x hx2) with h' | h' | h' | h' | h'
        · rw [h'] at h1; cases h1
        · exact ⟨h'.2.2.2.2.2.1, h'.2.2.2.2.2.2.1⟩
        · omega
        · omega
        · omega
      have hA : maxD l ≤ 65535 := by
        rcases maxD_att l with h | ⟨x, hx2, h⟩
        · omega
        · rw [← h]; exact (hbd x hx2).1
      have hB : maxP l ≤ 65535 := by
        rcases maxP_att l with h | ⟨x, hx2, h⟩
        · omega
        · rw [← h]; exact (hbd x hx2).2
      have hO := objC ha hw (by rw [hw]; exact encL_ne (by omega) (by omega)) (by omega) (by omega) (by omega) (show (a : Int) + 1 + ((nx : Int) - a - 1) = nx by omega) hin htg hl hA hB (Nat.le_refl _)
      have hkd := (encL_dec (off := (nx : Int) - a - 1) (e := 7) (c := (l.length * (maxD l + maxP l) : Nat)) (by omega) (by omega) (by omega) (by omega) (by omega) (by omega)).1
      have hcc : 1 + l.length * (maxD l + maxP l) + (if maxD l + maxP l = 0 then l.length else 0) = cosC (maxD l) (maxP l) l.length := by
        unfold cosC
        by_cases hz : maxD l + maxP l = 0
        · rw [if_pos hz, if_pos hz, hz, Nat.mul_zero]
        · rw [if_neg hz, if_neg hz, Nat.add_zero]
      rw [hcc] at hO
      have hV := val_at (f := f') (m := m) (c := cosC (maxD l) (maxP l) l.length) ha (by rw [hw]; exact encL_ne (by omega) (by omega)) (by rw [hw, hkd]; decide) hO rfl (by omega)
      rw [hV]
      unfold bodR
      dsimp only
      obtain ⟨vs, k1, k2⟩ := layE_val hlen (maxD l) (maxP l) (nx + 1) l.length ((cosC (maxD l) (maxP l) l.length : Nat) : Int) l f' 0 (nx + 1 + l.length * (maxD l + maxP l)) r (m - cosC (maxD l) (maxP l) l.length) hkids hx (fun x hx2 => maxD_le hx2) (fun x hx2 => maxP_le hx2) (by rw [Nat.zero_mul, Nat.add_zero]; exact hL) (by rw [Nat.zero_add]; omega) (by omega) (by omega) (by omega)
      rw [if_neg (by omega), if_neg (by omega), if_neg (by omega), Int.toNat_natCast, elsR_kids]
      rw [show ((0 : Nat) : Int) = 0 from rfl] at k1
      rw [k1]
      dsimp only
      rw [if_neg (by simp)]
      exact ⟨_, by rw [show m - cosC (maxD l) (maxP l) l.length - costE l = m - (cosC (maxD l) (maxP l) l.length + costE l) by omega], by rw [ttrim_list, k2]⟩
theorem lays_val {s : List Int} (hlen : s.length ≤ 536870000) : ∀ (l : List S37) (f a nx r m : Nat), (∀ x ∈ l, canT x) → lays s l a nx r → a + l.length ≤ s.length → nx ≤ s.length → deps l ≤ f → costs l ≤ m → ∃ vs, kidsR (valR [s] f 0) l.length a m = (vs, ((m - costs l : Nat) : Int), 0) ∧ vs.map ttrim = l
  | [], f, a, nx, r, m, _, _, _, _, _, _ => ⟨[], by simp [kidsR, costs], rfl⟩
  | x :: l, f, a, nx, r, m, hc, h, ha, hn, hf, hm => by
    unfold lays at h
    unfold deps at hf
    unfold costs at hm ⊢
    obtain ⟨q, h1, h2⟩ := h
    rw [List.length_cons] at ha
    obtain ⟨v, v1, v2⟩ := lay_val hlen x f a nx q m (hc x List.mem_cons_self) h1 (by omega) hn (by omega) (by omega)
    have hq : q ≤ s.length := lay_end x a nx q h1 hn
    obtain ⟨vs, w1, w2⟩ := lays_val hlen l f (a + 1) q r (m - costN x) (fun y hy => hc y (List.mem_cons_of_mem _ hy)) h2 (by omega) hq (by omega) (by omega)
    refine ⟨v :: vs, ?_, by rw [List.map_cons, v2, w2]⟩
    rw [List.length_cons, kidsR, v1]
    dsimp only
    rw [if_neg (by simp), show (a : Int) + 1 = ((a + 1 : Nat) : Int) by omega, w1, show m - costN x - costs l = m - (costN x + costs l) by omega]
theorem layE_val {s : List Int} (hlen : s.length ≤ 536870000) (A B ad N : Nat) (cost : Int) : ∀ (l : List S37) (f i nx r m : Nat), (∀ x ∈ l, canT x) → (∀ x ∈ l, x.f0 = 1) → (∀ x ∈ l, x.f3.length / 8 ≤ A) → (∀ x ∈ l, x.f4.length ≤ B) → layE s A B l (ad + i * (A + B)) nx r → ad + (i + l.length) * (A + B) ≤ s.length → nx ≤ s.length → depE l ≤ f → costE l ≤ m →
    ∃ vs, kidsR (fun i m => strR [s] (valR [s] f) (elG ⟨2, 0, (ad : Int), A, B, 7, N, cost⟩ i) m) l.length i m = (vs, ((m - costE l : Nat) : Int), 0) ∧ vs.map ttrim = l
  | [], f, i, nx, r, m, _, _, _, _, _, _, _, _, _ => ⟨[], by simp [kidsR, costE], rfl⟩
  | ⟨k, e, n, b, x⟩ :: l, f, i, nx, r, m, hc, hx, hA, hB, h, ha, hn, hf, hm => by
    have hk : k = 1 := hx _ List.mem_cons_self
    subst hk
    have hbl := hA _ List.mem_cons_self
    have hxl := hB _ List.mem_cons_self
    have hcx := hc _ List.mem_cons_self
    unfold layE at h
    unfold depE at hf
    unfold costE at hm ⊢
    obtain ⟨h1, h2, q, h3, h4⟩ := h
    rw [List.length_cons] at ha
    dsimp only at hbl hxl
    have e1 : (i + (l.length + 1)) * (A + B) = i * (A + B) + (A + B) + l.length * (A + B) := by rw [Nat.add_mul, Nat.add_mul, Nat.one_mul]; omega
    have e2 : (i + 1) * (A + B) = i * (A + B) + (A + B) := by rw [Nat.add_mul, Nat.one_mul]
    have e3 : (i + 1 + l.length) * (A + B) = i * (A + B) + (A + B) + l.length * (A + B) := by rw [Nat.add_mul, Nat.add_mul, Nat.one_mul]
    rcases AllT.here hcx with hz | ⟨_, f1, f2, hb, h8, hd, hp, ht, hk⟩ | ⟨h', _⟩ | ⟨h', _⟩ | ⟨h', _⟩
    · unfold ndZ at hz
      injection hz with z0
      exact absurd z0 (by decide)
    rotate_left
    · cases h'
    · cases h'
    · cases h'
    replace f1 : e = 0 := f1
    replace f2 : n = 0 := f2
    replace h8 : b.length % 8 = 0 := h8
    replace hb : BytN b := hb
    replace ht : 8 * twords b = b.length := ht
    replace hk : keptN nullN x = x.length := hk
    subst f1 f2
    obtain ⟨vs, v1, v2⟩ := lays_val hlen x f (ad + i * (A + B) + A) nx q m (AllT.kids hcx) h3 (by omega) hn (by omega) (by omega)
    have hz := nulls_val (s := s) (f := f) (B - x.length) (ad + i * (A + B) + A + x.length) (m - costs x) (by omega) (fun j hj => by
      have := h2 (x.length + j) (by omega) (by omega)
      rwa [← Nat.add_assoc] at this)
    have hk2 : kidsR (valR [s] f 0) B ((ad + i * (A + B) + A : Nat) : Int) m = (vs ++ List.replicate (B - x.length) ndZ, ((m - costs x : Nat) : Int), 0) := by
      have := kidsR_add (v := valR [s] f 0) x.length (B - x.length) ((ad + i * (A + B) + A : Nat) : Int) m (by rw [v1])
      rw [show x.length + (B - x.length) = B by omega, v1] at this
      dsimp only at this
      rw [show ((ad + i * (A + B) + A : Nat) : Int) + (x.length : Int) = ((ad + i * (A + B) + A + x.length : Nat) : Int) by omega, hz] at this
      exact this
    obtain ⟨v, s1, s2⟩ := str_back (s := s) (f := f) (cost := 0) (e := 0) (n0 := 0) 0 hb h1 (by omega) ht hk v2 hk2
    obtain ⟨ws, w1, w2⟩ := layE_val hlen A B ad N cost l f (i + 1) q r (m - costs x) (fun y hy => hc y (List.mem_cons_of_mem _ hy)) (fun y hy => hx y (List.mem_cons_of_mem _ hy)) (fun y hy => hA y (List.mem_cons_of_mem _ hy)) (fun y hy => hB y (List.mem_cons_of_mem _ hy)) (by rw [e2, ← Nat.add_assoc]; exact h4) (by rw [e3]; omega) (lays_end x _ _ _ h3 hn) (by omega) (by omega)
    have hel : elG ⟨2, 0, (ad : Int), A, B, 7, N, cost⟩ (i : Int) = ⟨1, 0, ((ad + i * (A + B) : Nat) : Int), A, B, 0, 0, 0⟩ := by
      unfold elG
      dsimp only
      rw [Int.natCast_add, Int.natCast_mul, Int.natCast_add]
    refine ⟨v :: ws, ?_, by rw [List.map_cons, s2, w2]⟩
    rw [List.length_cons, kidsR, hel, s1]
    rw [if_neg (by simp), show (i : Int) + 1 = ((i + 1 : Nat) : Int) by omega, w1, show m - costs x - costE l = m - (costs x + costE l) by omega]
end
end Go.Proofs.YtidglmocekghmaaDoor.Pr
end
section
namespace Go.Proofs.YtidglmocekghmaaDoor.Pr
set_option linter.unusedVariables false
set_option linter.unusedSimpArgs false
structure StC (f : Nat) (d p : Int) (q : Tr) (m : Int) : Prop where
 k : (ttrim q.1).f0 = 1
 d : ((ttrim q.1).f3.length / 8 : Nat) ≤ d
 p : ((ttrim q.1).f4.length : Int) ≤ p
 c : (costs (ttrim q.1).f4 : Int) ≤ m - q.2.1
 f : deps (ttrim q.1).f4 ≤ f
end Go.Proofs.YtidglmocekghmaaDoor.Pr
end
section
namespace Go.Proofs.YtidglmocekghmaaDoor.Pr
set_option linter.unusedVariables false
set_option linter.unusedSimpArgs false
def OkW (l : List Int) : Prop := ∀ x ∈ l, 0 ≤ x ∧ x < 18446744073709551616
theorem OkW.app {a b : List Int} (h : OkW a) (k : OkW b) : OkW (a ++ b) := fun x hx => (List.mem_append.1 hx).elim (h x) (k x)
theorem OkW.rep (n : Nat) : OkW (List.replicate n 0) := fun x hx => by rw [(List.mem_replicate.1 hx).2]; decide
theorem wordB_ok {b : List Int} (h : Byt b) : 0 ≤ wordB b ∧ wordB b < 18446744073709551616 := by
 have h0 := h 0
 have h1 := h 1
 have h2 := h 2
 have h3 := h 3
 have h4 := h 4
 have h5 := h 5
 have h6 := h 6
 have h7 := h 7
 unfold wordB
 omega
theorem wordsB_ok : ∀ (n : Nat) {b : List Int}, BytN b → OkW (wordsB n b)
 | 0, b, h => fun x hx => by simp [wordsB] at hx
 | n + 1, b, h => fun x hx => by
  rw [wordsB] at hx
  rcases List.mem_cons.1 hx with rfl | hx
  ·exact wordB_ok (byt_of (fun y hy => h y (List.mem_of_mem_take hy)))
  ·exact wordsB_ok n (fun y hy => h y (List.mem_of_mem_drop hy)) x hx
theorem shallowE_ok (A B : Nat) : ∀ l : List S37, (∀ x ∈ l, BytN x.f3) → OkW (shallowE A B l)
 | [], _ => fun x hx => by simp [shallowE] at hx
 | y :: l, h => by
  rw [shallowE]
  exact ((wordsB_ok A (h y List.mem_cons_self)).app (OkW.rep B)).app (shallowE_ok A B l (fun x hx => h x (List.mem_cons_of_mem _ hx)))
theorem kid_fit {n : S37} (hf : fitT n) (hx : ∀ x ∈ n.f4, x.f0 = 1) : ∀ x ∈ n.f4, BytN x.f3 ∧ x.f3.length / 8 ≤ 65535 ∧ x.f4.length ≤ 65535 := fun x hx2 => by
 have h1 := hx x hx2
 rcases AllT.here (AllT.kids hf x hx2) with h' | h' | h' | h' | h'
 ·omega
 ·exact ⟨h'.2.1, h'.2.2.2.1, h'.2.2.2.2⟩
 ·omega
 ·omega
 ·omega
theorem maxD_bd' {l : List S37} {k : Nat} (h : ∀ x ∈ l, x.f3.length / 8 ≤ k) : maxD l ≤ k := by
 rcases maxD_att l with h' | ⟨x, hx, h'⟩
 ·omega
 ·rw [← h']; exact h x hx
theorem maxP_bd' {l : List S37} {k : Nat} (h : ∀ x ∈ l, x.f4.length ≤ k) : maxP l ≤ k := by
 rcases maxP_att l with h' | ⟨x, hx, h'⟩
 ·omega
 ·rw [← h']; exact h x hx
theorem put_ok {n : S37} {out : List Int} {a : Nat} (hf : fitT n) (h0 : n.f0 ≠ 0) (ho : OkW out) (hl : (shallowW n).length ≤ 536870000) : OkW (putW n out a) := by
 have main : OkW (shallowW n) ∧ ∀ off, 0 ≤ ptrW n off ∧ ptrW n off < 18446744073709551616 := by
  rcases AllT.here hf with h | ⟨h, hb, h8, hd, hp⟩ | ⟨h, e0, e6, n0, n1, hb, _, _, _⟩ | ⟨h, e6, hn, hl, h3⟩ | ⟨h, e7, hn, hl4, h3, hx⟩
  ·exact (h0 h).elim
  ·refine ⟨?_, fun off => ?_⟩
   ·unfold shallowW
    rw [if_pos h]
    exact (wordsB_ok _ hb).app (OkW.rep _)
   ·unfold ptrW
    rw [if_pos h]
    split
    ·decide
    ·unfold encS
     omega
  ·refine ⟨?_, fun off => ?_⟩
   ·unfold shallowW
    rw [if_neg (by omega), if_neg (by omega), if_neg (by omega)]
    exact wordsB_ok _ hb
   ·unfold ptrW
    rw [if_neg (by omega), if_neg (by omega), if_neg (by omega)]
    unfold encL
    omega
  ·refine ⟨?_, fun off => ?_⟩
   ·unfold shallowW
    rw [if_neg (by omega), if_neg (by omega), if_pos e6]
    exact OkW.rep _
   ·unfold ptrW
    rw [if_neg (by omega), if_neg (by omega), if_pos e6]
    unfold encL
    omega
  ·have hk := kid_fit hf hx
   have hA := maxD_bd' (fun x hx => (hk x hx).2.1)
   have hB := maxP_bd' (fun x hx => (hk x hx).2.2)
   have hsl : (shallowW n).length = n.f4.length * (maxD n.f4 + maxP n.f4) + 1 := by
    unfold shallowW
    rw [if_neg (by omega), if_pos e7, List.length_cons, shallowE_len]
   refine ⟨?_, fun off => ?_⟩
   ·unfold shallowW
    rw [if_neg (by omega), if_pos e7]
    intro x hx
    rcases List.mem_cons.1 hx with rfl | hx
    ·unfold encS
     omega
    ·exact shallowE_ok _ _ _ (fun x hx => (hk x hx).1) x hx
   ·unfold ptrW
    rw [if_neg (by omega), if_pos e7]
    unfold encL
    omega
 unfold putW
 intro x hx
 rcases List.mem_or_eq_of_mem_set hx with hx | rfl
 ·exact (ho.app main.1) x hx
 ·exact main.2 _
theorem plAll_ok {S B : Nat} (hP : ∀ x, tsize x < S → fitT x → ∀ (out : List Int) (a : Nat), OkW out → (placeW x out a).length ≤ B → OkW (placeW x out a)) : ∀ (l : List S37) (ps : List Int) (st : Nat) (out : List Int), (∀ x ∈ l, tsize x < S ∧ fitT x) → OkW out → (plAll l ps st out).length ≤ B → OkW (plAll l ps st out)
 | x :: l, q :: ps, st, out, h, ho, hl => by
  unfold plAll at hl ⊢
  have hge := plAll_ge l ps st (placeW x out (st + q.toNat))
  exact plAll_ok hP l ps st _ (fun y hy => h y (List.mem_cons_of_mem _ hy)) (hP x (h x List.mem_cons_self).1 (h x List.mem_cons_self).2 out _ ho (by omega)) hl
 | [], _, _, _, _, ho, _ => by unfold plAll; exact ho
 | _ :: _, [], _, _, _, ho, _ => by unfold plAll; exact ho
theorem place_ok : ∀ (S : Nat) (n : S37), tsize n < S → fitT n → ∀ (out : List Int) (a : Nat), OkW out → (placeW n out a).length ≤ 536870000 → OkW (placeW n out a)
 | 0, n, h, _, _, _, _, _ => by omega
 | S + 1, n, h, hf, out, a, ho, hl => by
  by_cases h0 : n.f0 = 0
  ·obtain ⟨k, e, m, b, l⟩ := n
   unfold placeW
   rw [if_pos h0]
   exact ho
  have hk := (AllT.here hf).kind h0
  rw [placeW_all n out a h0 hk] at hl ⊢
  have hge := plAll_ge (targetsL n) (atW n) out.length (putW n out a)
  have hpl := putW_len n out a
  exact plAll_ok (S := tsize n) (fun x hx hfx out a ho hl => place_ok S x (by omega) hfx out a ho hl) _ _ _ _ (fun x hx => ⟨targets_size hx, targets_fit hf x hx⟩) (put_ok hf h0 ho (by omega)) hl
theorem write_ok {n : S37} (hf : fitT n) (hl : (writeW n).length ≤ 536870000) : OkW (writeW n) :=
 place_ok (tsize n + 1) n (Nat.lt_succ_self _) hf [0] 0 (fun x hx => by simp at hx; subst hx; decide) hl
def Mo (v v' : Int → Int → Tr) : Prop := ∀ a m k, 0 ≤ k → (v a m).2.2 = 0 → v' a (m + k) = ((v a m).1, (v a m).2.1 + k, 0)
theorem kidsR_mo {v v' : Int → Int → Tr} (h : Mo v v') : ∀ (n : Nat) (a m k : Int), 0 ≤ k → (kidsR v n a m).2.2 = 0 → kidsR v' n a (m + k) = ((kidsR v n a m).1, (kidsR v n a m).2.1 + k, 0)
 | 0, a, m, k, _, _ => rfl
 | n + 1, a, m, k, hk, h0 => by
  by_cases he : (v a m).2.2 ≠ 0
  ·rw [kidsR, if_pos he] at h0
   exact (he h0).elim
  ·have e1 := h a m k hk (by omega)
   have e0 : kidsR v (n + 1) a m = ((v a m).1 :: (kidsR v n (a + 1) (v a m).2.1).1, (kidsR v n (a + 1) (v a m).2.1).2) := by rw [kidsR, if_neg he]
   rw [e0] at h0 ⊢
   have e2 := kidsR_mo h n (a + 1) (v a m).2.1 k hk h0
   rw [kidsR, e1]
   dsimp only
   rw [if_neg (by simp), e2]
theorem strR_mo {G : List (List Int)} {v v' : Int → Int → Int → Tr} (h : ∀ sg, Mo (v sg) (v' sg)) (o : Ob) (m k : Int) (hk : 0 ≤ k) (h0 : (strR G v o m).2.2 = 0) : strR G v' o (m + k) = ((strR G v o m).1, (strR G v o m).2.1 + k, 0) := by
 unfold strR at h0 ⊢
 by_cases he : (kidsR (v o.sg) o.p.toNat (o.ad + o.d) m).2.2 ≠ 0
 ·rw [if_pos he] at h0
  exact (he h0).elim
 ·rw [if_neg he, kidsR_mo (h o.sg) _ _ m k hk (by omega)]
  dsimp only
  rw [if_neg (by simp)]
theorem bodR_mo {G : List (List Int)} {v v' : Int → Int → Int → Tr} (h : ∀ sg, Mo (v sg) (v' sg)) (o : Ob) (m k : Int) (hk : 0 ≤ k) (h0 : (bodR G v o m).2.2 = 0) : bodR G v' o (m + k) = ((bodR G v o m).1, (bodR G v o m).2.1 + k, 0) := by
 unfold bodR at h0 ⊢
 by_cases h1 : o.kd = 1
 ·rw [if_pos h1] at h0 ⊢
  rw [if_pos h1]
  exact strR_mo h o m k hk h0
 rw [if_neg h1] at h0 ⊢
 rw [if_neg h1]
 by_cases h2 : o.e < 6
 ·rw [if_pos h2, if_pos h2]
 rw [if_neg h2] at h0 ⊢
 rw [if_neg h2]
 by_cases h3 : o.e = 6
 ·rw [if_pos h3] at h0 ⊢
  rw [if_pos h3]
  by_cases he : (kidsR (v o.sg) o.n.toNat o.ad m).2.2 ≠ 0
  ·rw [if_pos he] at h0
   exact (he h0).elim
  ·rw [if_neg he, kidsR_mo (h o.sg) _ _ m k hk (by omega)]
   dsimp only
   rw [if_neg (by simp)]
 rw [if_neg h3] at h0 ⊢
 rw [if_neg h3]
 rw [elsR_kids] at h0 ⊢
 rw [elsR_kids]
 have hmo : Mo (fun i m => strR G v (elG o i) m) (fun i m => strR G v' (elG o i) m) := fun i m k hk h0 => strR_mo h (elG o i) m k hk h0
 by_cases he : (kidsR (fun i m => strR G v (elG o i) m) o.n.toNat 0 m).2.2 ≠ 0
 ·rw [if_pos he] at h0
  exact (he h0).elim
 ·have he2 : (kidsR (fun i m => strR G v (elG o i) m) o.n.toNat 0 m).2.2 = 0 := by omega
  rw [if_neg he, kidsR_mo hmo _ _ m k hk he2]
  dsimp only
  rw [if_neg (by simp)]
theorem valR_mo (G : List (List Int)) : ∀ (f f' : Nat), f ≤ f' → ∀ sg, Mo (valR G f sg) (valR G f' sg)
 | 0, f', _, sg => fun a m k hk h0 => by
  rw [valR] at h0 ⊢
  by_cases h1 : (folM G sg a).2.2.2 ≠ 0
  ·rw [if_pos h1] at h0
   exact (h1 h0).elim
  rw [if_neg h1] at h0 ⊢
  by_cases h2 : (folM G sg a).1 = 0
  ·rw [if_pos h2]
   cases f' <;> rw [valR, if_neg h1, if_pos h2]
  ·rw [if_neg h2] at h0
   simp at h0
 | f + 1, 0, hf, _ => by omega
 | f + 1, f' + 1, hf, sg => fun a m k hk h0 => by
  rw [valR] at h0 ⊢
  rw [valR]
  by_cases h1 : (folM G sg a).2.2.2 ≠ 0
  ·rw [if_pos h1] at h0
   exact (h1 h0).elim
  rw [if_neg h1] at h0 ⊢
  rw [if_neg h1]
  by_cases h2 : (folM G sg a).1 = 0
  ·rw [if_pos h2, if_pos h2]
  rw [if_neg h2] at h0 ⊢
  rw [if_neg h2]
  by_cases h3 : (objG G sg a).2 ≠ 0
  ·rw [if_pos h3] at h0
   exact (h3 h0).elim
  rw [if_neg h3] at h0 ⊢
  rw [if_neg h3]
  by_cases h4 : m < (objG G sg a).1.c
  ·rw [if_pos h4] at h0
   simp at h0
  rw [if_neg h4] at h0 ⊢
  rw [if_neg (by omega), show m + k - (objG G sg a).1.c = m - (objG G sg a).1.c + k by omega]
  exact bodR_mo (fun sg => valR_mo G f f' (by omega) sg) _ _ k hk h0
theorem start_nat (Wd : Int) : startM Wd = ((Wd.toNat : Nat) : Int) := by unfold startM; split <;> omega
theorem msgR_one {s : List Int} {D Wd : Int} (h0 : 0 < s.length) : msgR [s] D Wd = if (valR [s] D.toNat 0 0 ((Wd.toNat : Nat) : Int)).2.2 ≠ 0 then (ndZ, (valR [s] D.toNat 0 0 ((Wd.toNat : Nat) : Int)).2.2) else (ttrim (valR [s] D.toNat 0 0 ((Wd.toNat : Nat) : Int)).1, 0) := by
  unfold msgR
  rw [if_neg (fun h => by
    have h2 := h.2
    rw [show sgG [s] 0 = s from rfl] at h2
    omega), start_nat]
theorem limits_plain {n : S37} (hc : canT n) (hl : (writeW n).length ≤ 536870000) (D Wd : Int) : wordsM (writeW n) D Wd = decide ((msgR [writeW n] D Wd).2 = 0) ∧ ((msgR [writeW n] D Wd).2 = 0 → (msgR [writeW n] D Wd).1 = n) := by
 obtain ⟨h0, hL⟩ := write_lay n
 have hok := write_ok (can_fit hc) hl
 have hiff := wordsM_iff (D := D) (Wd := Wd) hok hl h0
 have hback : (msgR [writeW n] D Wd).2 = 0 → (msgR [writeW n] D Wd).1 = n := by
  rw [msgR_one h0]
  by_cases he : (valR [writeW n] D.toNat 0 0 ((Wd.toNat : Nat) : Int)).2.2 ≠ 0
  ·rw [if_pos he]
   intro h
   exact (he h).elim
  ·rw [if_neg he]
   intro _
   have hm := valR_mo [writeW n] D.toNat (max D.toNat (depN n)) (Nat.le_max_left _ _) 0 0 ((Wd.toNat : Nat) : Int) ((max Wd.toNat (costN n) - Wd.toNat : Nat) : Int) (by omega) (by omega)
   obtain ⟨v, hv, ht⟩ := lay_val hl n (max D.toNat (depN n)) 0 1 _ (max Wd.toNat (costN n)) hc hL h0 (by omega) (Nat.le_max_right _ _) (Nat.le_max_right _ _)
   have e : ((Wd.toNat : Nat) : Int) + ((max Wd.toNat (costN n) - Wd.toNat : Nat) : Int) = ((max Wd.toNat (costN n) : Nat) : Int) := by omega
   rw [e] at hm
   rw [show (((0 : Nat) : Int)) = 0 from rfl] at hv
   rw [hv] at hm
   have h1 := congrArg Prod.fst hm
   dsimp only at h1 ⊢
   rw [← h1, ht]
 refine ⟨?_, hback⟩
 by_cases he : (msgR [writeW n] D Wd).2 = 0
 ·rw [decide_eq_true he]
  exact hiff.2 ⟨he, by rw [hback he]; exact hL⟩
 ·rw [decide_eq_false he]
  cases hq : wordsM (writeW n) D Wd with
  | false => rfl
  | true => exact (he (hiff.1 hq).1).elim
end Go.Proofs.YtidglmocekghmaaDoor.Pr
end
section
namespace Go.Proofs.YtidglmocekghmaaDoor.Pr
open Go.RowKit Go.Proofs.YtidglmocekghmaaDoorW.PrintWords Go.Proofs.YtidglmocekghmaaDoorW.PrintLast Go.Proofs.YtidglmocekghmaaDoorW.PrintMore
set_option linter.unusedVariables false
set_option linter.unusedSimpArgs false
set_option maxRecDepth 100000 in
set_option maxHeartbeats 4000000 in
theorem write_any (n : S37) (A3 A4 : Option Addr) (c3 c4 : Nat) (w : World) (h : k37.K w n (ndC n A3 c3 A4 c4)) (hf : fitT n) (hl : (writeW n).length ≤ 536870000) :
    Calls Tryd.prog 15 #[ndV n A3 c3 A4 c4] w (WdV w (writeW n)) := by
  have HP := fun (A : Option Addr) (c : Nat) w' (hw : Below w.heap.size w w') (hC : (Kd.int .u64).C w' A 1 [0]) (hcp : 1 ≤ c) => Lib.hid (show Calls Tryd.prog 26 #[.slice A 1 c, .int .i64 0, ndV n A3 c3 A4 c4] w' (WdV w' (writeW n)) from place_any (tsize n + 1) n (Nat.lt_succ_self _) hf A c [0] 0 A3 c3 A4 c4 w' hC hcp (by simp) hl (K_below hw h))
  have S := Sep.start w
  obtain ⟨f0, f1, f2, f3, l⟩ := n
  dsimp only [ndV] at *
  generalize writeW ⟨f0, f1, f2, f3, l⟩ = T at *
  generalize f3.length = m3 at *
  generalize l.length = m4 at *
  unfold WdV at *
  clear h hf hl
  go_enter Tryd.func15, Tryd.ntmps15
  go_wp2_with (first | go_skip | ((with_reducible refine wl ?_); first | refine sn S (fun g w1 S => ?_) | refine sa S.tail ?_) | ((with_reducible refine gate_dst (N := 3) rfl ?_); refine sp_lit (Kd.int .u64) 32 (N := 3) rfl rfl S [0] [.int .u64 0] ?hr ?hp (by simp) (fun g w1 S => ?_); (case hr => first | (go_simp; done) | (go_simp; rfl)); (case hp => exact Reps.snoc (Reps.none _ _) rfl rfl)) | ((with_reducible refine (HP _ _ _ S.below (R_C (S.outR .here)) (by simp)).out.mono ?_); rintro r w' ⟨A', c', rfl, hC, hb⟩; replace S := S.call hb))
  exact rt S ⟨_, _, rfl, hC, S.below⟩
end Go.Proofs.YtidglmocekghmaaDoor.Pr
end
section
namespace Go.Proofs.YtidglmocekghmaaDoor.Pr
open Go.RowKit Go.Proofs.YtidglmocekghmaaDoorW.PrintWords Go.Proofs.YtidglmocekghmaaDoorW.PrintLast Go.Proofs.YtidglmocekghmaaDoorW.PrintMore
set_option linter.unusedVariables false
set_option linter.unusedSimpArgs false
def capnplaw16_awake.f : Option Bool := some true
theorem ex0 : canoncheck_Words.f 0 [4294967296, 5] 5 50 0 = some true := by kernel_rfl
theorem ex1 : canoncheck_Words.f 0 [4294967296, 0] 5 50 0 = some false := by kernel_rfl
theorem ex2 : canoncheck_Words.f 0 [4294967296, 5, 0] 5 50 0 = some false := by kernel_rfl
theorem ex3 : canoncheck_Words.f 0 [4294967300, 0, 5] 5 50 0 = some false := by kernel_rfl
theorem ex4 : canoncheck_Words.f 0 [0] 5 50 0 = some true := by kernel_rfl
theorem ex5 : canoncheck_Words.f 0 [] 5 50 0 = some false := by kernel_rfl
theorem ex6 : canoncheck_Words.f 0 [4294967292] 5 50 0 = some true := by kernel_rfl
theorem ex7 : canoncheck_Words.f 0 [562949953421312, 0, 0] 5 50 0 = some false := by kernel_rfl
theorem ex8 : canoncheck_Words.f 0 [107374182401, 7] 5 50 0 = some true := by kernel_rfl
theorem ex9 : canoncheck_Words.f 0 [107374182401, 15] 5 50 0 = some false := by kernel_rfl
theorem ex10 : canoncheck_Words.f 0 [98784247809, 4294967304, 0, 5] 5 50 0 = some true := by kernel_rfl
theorem ex11 : canoncheck_Words.f 0 [98784247809, 4294967304, 0, 0] 5 50 0 = some false := by kernel_rfl
theorem ex12 : canoncheck_Words.f 0 [4294967296, 5] 5 0 0 = some false := by kernel_rfl
set_option maxRecDepth 100000 in
set_option maxHeartbeats 8000000 in
theorem capnplaw16_awake.calls (r : Bool) (w : World) (h : capnplaw16_awake.f = some r) (ht : Tabs w) : Calls Tryd.prog 8 #[] w fun e w' => e = .returned (.bool r) ∧ Below w.heap.size w w' := by
 obtain rfl : true = r := Option.some.inj h
 clear h
 have HT := Lib.hid ht
 clear ht
 go_enter Tryd.func8, Tryd.ntmps8
 have HB := Lib.hid (Below.refl w.heap.size w)
 go_wp2_with fail
 refine calls_at (fun wa0 hW => ?_)
 have hb : Below w.heap.size w wa0 := by rw [hW]; exact ((Below.refl _ _).alloc (Nat.le_refl _) _).alloc (by simp) _
 have nL : wa0.heap[w.heap.size]? = some (.cells #[.int .i64 5, .int .i64 50, .int .i64 0] 24 (0, 0)) := by rw [hW]; exact blk_alloc (heap_alloc_new _ _) _
 have nS : wa0.heap[w.heap.size + 1]? = some (.cells (nums .u64 [4294967296, 5]).toArray 32 (0, 0)) := by rw [hW]; exact blk_new _ _ _ (by simp)
 clear hW
 replace HB := Lib.hid (below_step HB.out hb)
 replace HT := Lib.hid (HT.out.below hb)
 clear hb
 have L := Lib.hid nL
 clear nL
 have hc := canoncheck_Words.calls 0 _ 2 [4294967296, 5] 5 50 0 true wa0 (C_ints nS (by decide)) (Nat.le_refl _) ex0 HT.out
 refine hc.mono ?_
 clear hc nS
 rintro e w1 ⟨rfl, hb⟩
 replace HB := Lib.hid (below_step HB.out hb)
 replace HT := Lib.hid (HT.out.below hb)
 replace L := Lib.hid (blk_below L.out hb)
 clear hb
 have l_L : w.heap.size < w1.heap.size := blk_lt L.out
 have q_L_0 : w1.cell? ⟨w.heap.size, 0, none⟩ = some (.int .i64 5) := (blk_cell L.out 0).trans rfl
 have q_L_1 : w1.cell? ⟨w.heap.size, 1, none⟩ = some (.int .i64 50) := (blk_cell L.out 1).trans rfl
 have q_L_2 : w1.cell? ⟨w.heap.size, 2, none⟩ = some (.int .i64 0) := (blk_cell L.out 2).trans rfl
 go_wp2_with fail
 clear l_L q_L_0 q_L_1 q_L_2
 refine calls_at (fun wa1 hW => ?_)
 have hb : Below w1.heap.size w1 wa1 := by rw [hW]; exact (Below.refl _ _).alloc (Nat.le_refl _) _
 have nS : wa1.heap[w1.heap.size]? = some (.cells (nums .u64 [4294967296, 0]).toArray 32 (0, 0)) := by rw [hW]; exact heap_alloc_new _ _
 clear hW
 replace HB := Lib.hid (below_step HB.out hb)
 replace HT := Lib.hid (HT.out.below hb)
 replace L := Lib.hid (blk_below L.out hb)
 clear hb
 have hc := canoncheck_Words.calls 0 _ 2 [4294967296, 0] 5 50 0 false wa1 (C_ints nS (by decide)) (Nat.le_refl _) ex1 HT.out
 refine hc.mono ?_
 clear hc nS
 rintro e w2 ⟨rfl, hb⟩
 replace HB := Lib.hid (below_step HB.out hb)
 replace HT := Lib.hid (HT.out.below hb)
 replace L := Lib.hid (blk_below L.out hb)
 clear hb
 have l_L : w.heap.size < w2.heap.size := blk_lt L.out
 have q_L_0 : w2.cell? ⟨w.heap.size, 0, none⟩ = some (.int .i64 5) := (blk_cell L.out 0).trans rfl
 have q_L_1 : w2.cell? ⟨w.heap.size, 1, none⟩ = some (.int .i64 50) := (blk_cell L.out 1).trans rfl
 have q_L_2 : w2.cell? ⟨w.heap.size, 2, none⟩ = some (.int .i64 0) := (blk_cell L.out 2).trans rfl
 go_wp2_with fail
 clear l_L q_L_0 q_L_1 q_L_2
 refine calls_at (fun wa2 hW => ?_)
 have hb : Below w2.heap.size w2 wa2 := by rw [hW]; exact (Below.refl _ _).alloc (Nat.le_refl _) _
 have nS : wa2.heap[w2.heap.size]? = some (.cells (nums .u64 [4294967296, 5, 0]).toArray 32 (0, 0)) := by rw [hW]; exact heap_alloc_new _ _
 clear hW
 replace HB := Lib.hid (below_step HB.out hb)
 replace HT := Lib.hid (HT.out.below hb)
 replace L := Lib.hid (blk_below L.out hb)
 clear hb
 have hc := canoncheck_Words.calls 0 _ 3 [4294967296, 5, 0] 5 50 0 false wa2 (C_ints nS (by decide)) (Nat.le_refl _) ex2 HT.out
 refine hc.mono ?_
 clear hc nS
 rintro e w3 ⟨rfl, hb⟩
 replace HB := Lib.hid (below_step HB.out hb)
 replace HT := Lib.hid (HT.out.below hb)
 replace L := Lib.hid (blk_below L.out hb)
 clear hb
 have l_L : w.heap.size < w3.heap.size := blk_lt L.out
 have q_L_0 : w3.cell? ⟨w.heap.size, 0, none⟩ = some (.int .i64 5) := (blk_cell L.out 0).trans rfl
 have q_L_1 : w3.cell? ⟨w.heap.size, 1, none⟩ = some (.int .i64 50) := (blk_cell L.out 1).trans rfl
 have q_L_2 : w3.cell? ⟨w.heap.size, 2, none⟩ = some (.int .i64 0) := (blk_cell L.out 2).trans rfl
 go_wp2_with fail
 clear l_L q_L_0 q_L_1 q_L_2
 refine calls_at (fun wa3 hW => ?_)
 have hb : Below w3.heap.size w3 wa3 := by rw [hW]; exact (Below.refl _ _).alloc (Nat.le_refl _) _
 have nS : wa3.heap[w3.heap.size]? = some (.cells (nums .u64 [4294967300, 0, 5]).toArray 32 (0, 0)) := by rw [hW]; exact heap_alloc_new _ _
 clear hW
 replace HB := Lib.hid (below_step HB.out hb)
 replace HT := Lib.hid (HT.out.below hb)
 replace L := Lib.hid (blk_below L.out hb)
 clear hb
 have hc := canoncheck_Words.calls 0 _ 3 [4294967300, 0, 5] 5 50 0 false wa3 (C_ints nS (by decide)) (Nat.le_refl _) ex3 HT.out
 refine hc.mono ?_
 clear hc nS
 rintro e w4 ⟨rfl, hb⟩
 replace HB := Lib.hid (below_step HB.out hb)
 replace HT := Lib.hid (HT.out.below hb)
 replace L := Lib.hid (blk_below L.out hb)
 clear hb
 have l_L : w.heap.size < w4.heap.size := blk_lt L.out
 have q_L_0 : w4.cell? ⟨w.heap.size, 0, none⟩ = some (.int .i64 5) := (blk_cell L.out 0).trans rfl
 have q_L_1 : w4.cell? ⟨w.heap.size, 1, none⟩ = some (.int .i64 50) := (blk_cell L.out 1).trans rfl
 have q_L_2 : w4.cell? ⟨w.heap.size, 2, none⟩ = some (.int .i64 0) := (blk_cell L.out 2).trans rfl
 go_wp2_with fail
 clear l_L q_L_0 q_L_1 q_L_2
 refine calls_at (fun wa4 hW => ?_)
 have hb : Below w4.heap.size w4 wa4 := by rw [hW]; exact (Below.refl _ _).alloc (Nat.le_refl _) _
 have nS : wa4.heap[w4.heap.size]? = some (.cells (nums .u64 [0]).toArray 32 (0, 0)) := by rw [hW]; exact heap_alloc_new _ _
 clear hW
 replace HB := Lib.hid (below_step HB.out hb)
 replace HT := Lib.hid (HT.out.below hb)
 replace L := Lib.hid (blk_below L.out hb)
 clear hb
 have hc := canoncheck_Words.calls 0 _ 1 [0] 5 50 0 true wa4 (C_ints nS (by decide)) (Nat.le_refl _) ex4 HT.out
 refine hc.mono ?_
 clear hc nS
 rintro e w5 ⟨rfl, hb⟩
 replace HB := Lib.hid (below_step HB.out hb)
 replace HT := Lib.hid (HT.out.below hb)
 replace L := Lib.hid (blk_below L.out hb)
 clear hb
 have l_L : w.heap.size < w5.heap.size := blk_lt L.out
 have q_L_0 : w5.cell? ⟨w.heap.size, 0, none⟩ = some (.int .i64 5) := (blk_cell L.out 0).trans rfl
 have q_L_1 : w5.cell? ⟨w.heap.size, 1, none⟩ = some (.int .i64 50) := (blk_cell L.out 1).trans rfl
 have q_L_2 : w5.cell? ⟨w.heap.size, 2, none⟩ = some (.int .i64 0) := (blk_cell L.out 2).trans rfl
 go_wp2_with fail
 clear l_L q_L_0 q_L_1 q_L_2
 refine calls_at (fun wa5 hW => ?_)
 have hb : Below w5.heap.size w5 wa5 := by rw [hW]; exact Below.refl _ _
 clear hW
 replace HB := Lib.hid (below_step HB.out hb)
 replace HT := Lib.hid (HT.out.below hb)
 replace L := Lib.hid (blk_below L.out hb)
 clear hb
 have hc := canoncheck_Words.calls 0 none 0 [] 5 50 0 false wa5 (Kd.C_nil _ _) (Nat.le_refl _) ex5 HT.out
 refine hc.mono ?_
 clear hc
 rintro e w6 ⟨rfl, hb⟩
 replace HB := Lib.hid (below_step HB.out hb)
 replace HT := Lib.hid (HT.out.below hb)
 replace L := Lib.hid (blk_below L.out hb)
 clear hb
 have l_L : w.heap.size < w6.heap.size := blk_lt L.out
 have q_L_0 : w6.cell? ⟨w.heap.size, 0, none⟩ = some (.int .i64 5) := (blk_cell L.out 0).trans rfl
 have q_L_1 : w6.cell? ⟨w.heap.size, 1, none⟩ = some (.int .i64 50) := (blk_cell L.out 1).trans rfl
 have q_L_2 : w6.cell? ⟨w.heap.size, 2, none⟩ = some (.int .i64 0) := (blk_cell L.out 2).trans rfl
 go_wp2_with fail
 clear l_L q_L_0 q_L_1 q_L_2
 refine calls_at (fun wa6 hW => ?_)
 have hb : Below w6.heap.size w6 wa6 := by rw [hW]; exact (Below.refl _ _).alloc (Nat.le_refl _) _
 have nS : wa6.heap[w6.heap.size]? = some (.cells (nums .u64 [4294967292]).toArray 32 (0, 0)) := by rw [hW]; exact heap_alloc_new _ _
 clear hW
 replace HB := Lib.hid (below_step HB.out hb)
 replace HT := Lib.hid (HT.out.below hb)
 replace L := Lib.hid (blk_below L.out hb)
 clear hb
 have hc := canoncheck_Words.calls 0 _ 1 [4294967292] 5 50 0 true wa6 (C_ints nS (by decide)) (Nat.le_refl _) ex6 HT.out
 refine hc.mono ?_
 clear hc nS
 rintro e w7 ⟨rfl, hb⟩
 replace HB := Lib.hid (below_step HB.out hb)
 replace HT := Lib.hid (HT.out.below hb)
 replace L := Lib.hid (blk_below L.out hb)
 clear hb
 have l_L : w.heap.size < w7.heap.size := blk_lt L.out
 have q_L_0 : w7.cell? ⟨w.heap.size, 0, none⟩ = some (.int .i64 5) := (blk_cell L.out 0).trans rfl
 have q_L_1 : w7.cell? ⟨w.heap.size, 1, none⟩ = some (.int .i64 50) := (blk_cell L.out 1).trans rfl
 have q_L_2 : w7.cell? ⟨w.heap.size, 2, none⟩ = some (.int .i64 0) := (blk_cell L.out 2).trans rfl
 go_wp2_with fail
 clear l_L q_L_0 q_L_1 q_L_2
 refine calls_at (fun wa7 hW => ?_)
 have hb : Below w7.heap.size w7 wa7 := by rw [hW]; exact (Below.refl _ _).alloc (Nat.le_refl _) _
 have nS : wa7.heap[w7.heap.size]? = some (.cells (nums .u64 [562949953421312, 0, 0]).toArray 32 (0, 0)) := by rw [hW]; exact heap_alloc_new _ _
 clear hW
 replace HB := Lib.hid (below_step HB.out hb)
 replace HT := Lib.hid (HT.out.below hb)
 replace L := Lib.hid (blk_below L.out hb)
 clear hb
 have hc := canoncheck_Words.calls 0 _ 3 [562949953421312, 0, 0] 5 50 0 false wa7 (C_ints nS (by decide)) (Nat.le_refl _) ex7 HT.out
 refine hc.mono ?_
 clear hc nS
 rintro e w8 ⟨rfl, hb⟩
 replace HB := Lib.hid (below_step HB.out hb)
 replace HT := Lib.hid (HT.out.below hb)
 replace L := Lib.hid (blk_below L.out hb)
 clear hb
 have l_L : w.heap.size < w8.heap.size := blk_lt L.out
 have q_L_0 : w8.cell? ⟨w.heap.size, 0, none⟩ = some (.int .i64 5) := (blk_cell L.out 0).trans rfl
 have q_L_1 : w8.cell? ⟨w.heap.size, 1, none⟩ = some (.int .i64 50) := (blk_cell L.out 1).trans rfl
 have q_L_2 : w8.cell? ⟨w.heap.size, 2, none⟩ = some (.int .i64 0) := (blk_cell L.out 2).trans rfl
 go_wp2_with fail
 clear l_L q_L_0 q_L_1 q_L_2
 refine calls_at (fun wa8 hW => ?_)
 have hb : Below w8.heap.size w8 wa8 := by rw [hW]; exact (Below.refl _ _).alloc (Nat.le_refl _) _
 have nS : wa8.heap[w8.heap.size]? = some (.cells (nums .u64 [107374182401, 7]).toArray 32 (0, 0)) := by rw [hW]; exact heap_alloc_new _ _
 clear hW
 replace HB := Lib.hid (below_step HB.out hb)
 replace HT := Lib.hid (HT.out.below hb)
 replace L := Lib.hid (blk_below L.out hb)
 clear hb
 have hc := canoncheck_Words.calls 0 _ 2 [107374182401, 7] 5 50 0 true wa8 (C_ints nS (by decide)) (Nat.le_refl _) ex8 HT.out
 refine hc.mono ?_
 clear hc nS
 rintro e w9 ⟨rfl, hb⟩
 replace HB := Lib.hid (below_step HB.out hb)
 replace HT := Lib.hid (HT.out.below hb)
 replace L := Lib.hid (blk_below L.out hb)
 clear hb
 have l_L : w.heap.size < w9.heap.size := blk_lt L.out
 have q_L_0 : w9.cell? ⟨w.heap.size, 0, none⟩ = some (.int .i64 5) := (blk_cell L.out 0).trans rfl
 have q_L_1 : w9.cell? ⟨w.heap.size, 1, none⟩ = some (.int .i64 50) := (blk_cell L.out 1).trans rfl
 have q_L_2 : w9.cell? ⟨w.heap.size, 2, none⟩ = some (.int .i64 0) := (blk_cell L.out 2).trans rfl
 go_wp2_with fail
 clear l_L q_L_0 q_L_1 q_L_2
 refine calls_at (fun wa9 hW => ?_)
 have hb : Below w9.heap.size w9 wa9 := by rw [hW]; exact (Below.refl _ _).alloc (Nat.le_refl _) _
 have nS : wa9.heap[w9.heap.size]? = some (.cells (nums .u64 [107374182401, 15]).toArray 32 (0, 0)) := by rw [hW]; exact heap_alloc_new _ _
 clear hW
 replace HB := Lib.hid (below_step HB.out hb)
 replace HT := Lib.hid (HT.out.below hb)
 replace L := Lib.hid (blk_below L.out hb)
 clear hb
 have hc := canoncheck_Words.calls 0 _ 2 [107374182401, 15] 5 50 0 false wa9 (C_ints nS (by decide)) (Nat.le_refl _) ex9 HT.out
 refine hc.mono ?_
 clear hc nS
 rintro e w10 ⟨rfl, hb⟩
 replace HB := Lib.hid (below_step HB.out hb)
 replace HT := Lib.hid (HT.out.below hb)
 replace L := Lib.hid (blk_below L.out hb)
 clear hb
 have l_L : w.heap.size < w10.heap.size := blk_lt L.out
 have q_L_0 : w10.cell? ⟨w.heap.size, 0, none⟩ = some (.int .i64 5) := (blk_cell L.out 0).trans rfl
 have q_L_1 : w10.cell? ⟨w.heap.size, 1, none⟩ = some (.int .i64 50) := (blk_cell L.out 1).trans rfl
 have q_L_2 : w10.cell? ⟨w.heap.size, 2, none⟩ = some (.int .i64 0) := (blk_cell L.out 2).trans rfl
 go_wp2_with fail
 clear l_L q_L_0 q_L_1 q_L_2
 refine calls_at (fun wa10 hW => ?_)
 have hb : Below w10.heap.size w10 wa10 := by rw [hW]; exact (Below.refl _ _).alloc (Nat.le_refl _) _
 have nS : wa10.heap[w10.heap.size]? = some (.cells (nums .u64 [98784247809, 4294967304, 0, 5]).toArray 32 (0, 0)) := by rw [hW]; exact heap_alloc_new _ _
 clear hW
 replace HB := Lib.hid (below_step HB.out hb)
 replace HT := Lib.hid (HT.out.below hb)
 replace L := Lib.hid (blk_below L.out hb)
 clear hb
 have hc := canoncheck_Words.calls 0 _ 4 [98784247809, 4294967304, 0, 5] 5 50 0 true wa10 (C_ints nS (by decide)) (Nat.le_refl _) ex10 HT.out
 refine hc.mono ?_
 clear hc nS
 rintro e w11 ⟨rfl, hb⟩
 replace HB := Lib.hid (below_step HB.out hb)
 replace HT := Lib.hid (HT.out.below hb)
 replace L := Lib.hid (blk_below L.out hb)
 clear hb
 have l_L : w.heap.size < w11.heap.size := blk_lt L.out
 have q_L_0 : w11.cell? ⟨w.heap.size, 0, none⟩ = some (.int .i64 5) := (blk_cell L.out 0).trans rfl
 have q_L_1 : w11.cell? ⟨w.heap.size, 1, none⟩ = some (.int .i64 50) := (blk_cell L.out 1).trans rfl
 have q_L_2 : w11.cell? ⟨w.heap.size, 2, none⟩ = some (.int .i64 0) := (blk_cell L.out 2).trans rfl
 go_wp2_with fail
 clear l_L q_L_0 q_L_1 q_L_2
 refine calls_at (fun wa11 hW => ?_)
 have hb : Below w11.heap.size w11 wa11 := by rw [hW]; exact (Below.refl _ _).alloc (Nat.le_refl _) _
 have nS : wa11.heap[w11.heap.size]? = some (.cells (nums .u64 [98784247809, 4294967304, 0, 0]).toArray 32 (0, 0)) := by rw [hW]; exact heap_alloc_new _ _
 clear hW
 replace HB := Lib.hid (below_step HB.out hb)
 replace HT := Lib.hid (HT.out.below hb)
 replace L := Lib.hid (blk_below L.out hb)
 clear hb
 have hc := canoncheck_Words.calls 0 _ 4 [98784247809, 4294967304, 0, 0] 5 50 0 false wa11 (C_ints nS (by decide)) (Nat.le_refl _) ex11 HT.out
 refine hc.mono ?_
 clear hc nS
 rintro e w12 ⟨rfl, hb⟩
 replace HB := Lib.hid (below_step HB.out hb)
 replace HT := Lib.hid (HT.out.below hb)
 replace L := Lib.hid (blk_below L.out hb)
 clear hb
 have l_L : w.heap.size < w12.heap.size := blk_lt L.out
 have q_L_0 : w12.cell? ⟨w.heap.size, 0, none⟩ = some (.int .i64 5) := (blk_cell L.out 0).trans rfl
 have q_L_1 : w12.cell? ⟨w.heap.size, 1, none⟩ = some (.int .i64 50) := (blk_cell L.out 1).trans rfl
 have q_L_2 : w12.cell? ⟨w.heap.size, 2, none⟩ = some (.int .i64 0) := (blk_cell L.out 2).trans rfl
 go_wp2_with fail
 clear l_L q_L_0 q_L_1 q_L_2
 refine calls_at (fun wa12 hW => ?_)
 have hb : Below w12.heap.size w12 wa12 := by rw [hW]; exact (Below.refl _ _).alloc (Nat.le_refl _) _
 have nS : wa12.heap[w12.heap.size]? = some (.cells (nums .u64 [4294967296, 5]).toArray 32 (0, 0)) := by rw [hW]; exact heap_alloc_new _ _
 clear hW
 replace HB := Lib.hid (below_step HB.out hb)
 replace HT := Lib.hid (HT.out.below hb)
 replace L := Lib.hid (blk_below L.out hb)
 clear hb
 have hc := canoncheck_Words.calls 0 _ 2 [4294967296, 5] 5 0 0 false wa12 (C_ints nS (by decide)) (Nat.le_refl _) ex12 HT.out
 refine hc.mono ?_
 clear hc nS
 rintro e w13 ⟨rfl, hb⟩
 replace HB := Lib.hid (below_step HB.out hb)
 replace HT := Lib.hid (HT.out.below hb)
 replace L := Lib.hid (blk_below L.out hb)
 clear hb
 have l_L : w.heap.size < w13.heap.size := blk_lt L.out
 have q_L_0 : w13.cell? ⟨w.heap.size, 0, none⟩ = some (.int .i64 5) := (blk_cell L.out 0).trans rfl
 have q_L_1 : w13.cell? ⟨w.heap.size, 1, none⟩ = some (.int .i64 50) := (blk_cell L.out 1).trans rfl
 have q_L_2 : w13.cell? ⟨w.heap.size, 2, none⟩ = some (.int .i64 0) := (blk_cell L.out 2).trans rfl
 go_wp2
 go_ret
 exact ⟨rfl, HB.out⟩
end Go.Proofs.YtidglmocekghmaaDoor.Pr
end
section
namespace Go.Proofs.YtidglmocekghmaaDoor.Pr
open Go.RowKit Go.Proofs.YtidglmocekghmaaDoorW.PrintWords Go.Proofs.YtidglmocekghmaaDoorW.PrintLast Go.Proofs.YtidglmocekghmaaDoorW.PrintMore
set_option linter.unusedVariables false
set_option linter.unusedSimpArgs false
theorem env_one {w w' : World} {A : Option Addr} {cp : Nat} {s : List Int} {g : Nat} (hr : (Kd.int .u64).C w' A s.length s) (hc : s.length ≤ cp) (hl : s.length ≤ 17592186040320) (ok : ∀ x ∈ s, 0 ≤ x ∧ x < 18446744073709551616) (hg : w'.heap[g]? = some (.cells #[.slice A s.length cp] 22 (0, 0))) : EnvG w' (some ⟨g, 0, none⟩) [s] :=
 ⟨C_sl1 hg hc hr, by simp, fun x hx => by simp at hx; subst hx; exact hl, fun x hx => by simp at hx; subst hx; exact ok⟩
end Go.Proofs.YtidglmocekghmaaDoor.Pr
end
section
namespace Go.Proofs.YtidglmocekghmaaDoor.Pr
open Go.RowKit Go.Proofs.YtidglmocekghmaaDoorW.PrintWords Go.Proofs.YtidglmocekghmaaDoorW.PrintLast Go.Proofs.YtidglmocekghmaaDoorW.PrintMore
set_option linter.unusedVariables false
set_option linter.unusedSimpArgs false
theorem can_of (n : S37) : vaT n → trT n → okT n → canT n := by
 refine S37.ind (P := fun n => vaT n → trT n → okT n → canT n) (fun a ih hv ht ho => ?_) n
 refine .mk ?_ (fun x hx => ih x hx (AllT.kids hv x hx) (AllT.kids ht x hx) (AllT.kids ho x hx))
 obtain ⟨h1, h2⟩ := AllT.here hv
 have h3 := AllT.here ht
 have h4 := AllT.here ho
 have hb : BytN a.f3 := fun x hx => by have := h4 x hx; omega
 rcases h1 with ⟨e0, e1, e2, e3, e4⟩ | ⟨e0, e1, e2, e3, e4, e5⟩ | ⟨e0, e1, e2, e3, e4, ⟨e5, e6, e7⟩ | ⟨e5, e6, e7, e8⟩⟩
 ·left
  cases a
  dsimp only at e0 e1 e2 e3 e4
  subst e0 e1 e2 e3 e4
  rfl
 ·obtain ⟨t1, t2⟩ := h3 e0
  exact .inr (.inl ⟨e0, e1, e2, hb, e3, by omega, e5, t1, t2⟩)
 ·by_cases h7 : a.f1 = 7
  ·exact .inr (.inr (.inr (.inr ⟨e0, h7, e7.symm, by omega, e6, h2 e0 h7⟩)))
  ·exact .inr (.inr (.inr (.inl ⟨e0, by omega, e7.symm, by omega, e6⟩)))
 ·exact .inr (.inr (.inl ⟨e0, e3, e5, e1, e2, hb, by omega, e8, e6⟩))
set_option maxRecDepth 100000 in
set_option maxHeartbeats 4000000 in
theorem right_any (n : S37) (A3 A4 : Option Addr) (c3 c4 : Nat) (w : World) (h : k37.K w n (ndC n A3 c3 A4 c4)) (hB : tsize n ≤ 1000000000000) (ho : okT n) : Calls Tryd.prog 14 #[ndV n A3 c3 A4 c4] w (BoolV w (canT n ∧ tsize n ≤ 3000)) := by
  have H1 := fun w' (hb : Below w.heap.size w w') => Lib.hid (few10_any n A3 A4 c3 c4 w' (K_below hb h) hB)
  have H2 := fun w' (hb : Below w.heap.size w w') => Lib.hid (valid_any (tsize n + 1) n (Nat.lt_succ_self _) hB ho A3 c3 A4 c4 w' (K_below hb h))
  have H3 := fun w' (hb : Below w.heap.size w w') => Lib.hid (trimmed_any (tsize n + 1) n (Nat.lt_succ_self _) hB A3 c3 A4 c4 w' (K_below hb h))
  have HP := Lib.hid (fun (a : tsize n ≤ 3000) b c => (⟨can_of n b c ho, a⟩ : canT n ∧ tsize n ≤ 3000))
  have S := Sep.start w
  generalize (canT n ∧ tsize n ≤ 3000) = PP at *
  generalize (tsize n ≤ 3000) = P1 at *
  generalize vaT n = P2 at *
  generalize trT n = P3 at *
  obtain ⟨f0, f1, f2, f3, l⟩ := n
  dsimp only [ndV, ndC] at *
  generalize f3.length = m3 at *
  generalize l.length = m4 at *
  clear h hB ho
  go_enter Tryd.func14, Tryd.ntmps14
  go_wp2_with (first | go_skip | ((with_reducible refine wl0 rfl ?_); first | refine sn S (fun g w1 S => ?_) | refine sa S ?_) | ((with_reducible refine (H1 _ S.below).out.mono ?_); rintro r w' ⟨b1, rfl, h1, hb⟩; replace S := S.call hb; refine stop_ ?_))
  unfold Stop
  cases b1
  · go_wp2_with (first | go_skip)
    exact rt S (BoolV.mk false (fun h => Bool.noConfusion h) S.below)
  · go_wp2_with (first | go_skip | ((with_reducible refine gate_dst (N := 6) rfl ?_); refine sa S ?_) | ((with_reducible refine (H2 _ S.below).out.mono ?_); rintro r w' ⟨b2, rfl, h2, hb⟩; replace S := S.call hb; refine stop_ ?_))
    unfold Stop
    cases b2
    · go_wp2_with (first | go_skip)
      exact rt S (BoolV.mk false (fun h => Bool.noConfusion h) S.below)
    · go_wp2_with (first | go_skip | ((with_reducible refine gate_dst (N := 10) rfl ?_); refine sa S ?_) | ((with_reducible refine (H3 _ S.below).out.mono ?_); rintro r w' ⟨b3, rfl, h3, hb⟩; replace S := S.call hb))
      exact rt S (BoolV.mk b3 (fun h => HP.out (h1 trivial) (h2 trivial) (h3 h)) S.below)
end Go.Proofs.YtidglmocekghmaaDoor.Pr
end
section
namespace Go.Proofs.YtidglmocekghmaaDoor.Pr
open Go.RowKit Go.Proofs.YtidglmocekghmaaDoorW.PrintWords Go.Proofs.YtidglmocekghmaaDoorW.PrintLast Go.Proofs.YtidglmocekghmaaDoorW.PrintMore
set_option linter.unusedVariables false
set_option linter.unusedSimpArgs false
set_option maxRecDepth 100000 in
set_option maxHeartbeats 8000000 in
theorem limits_law (n : S37) (A3 A4 : Option Addr) (c3 c4 : Nat) (dp wo : Int) (w : World) (h : k37.K w n (ndC n A3 c3 A4 c4)) (hB : tsize n ≤ 1000000000000) (ho : okT n) (hd : 0 ≤ dp ∧ dp ≤ 255) (hw : 0 ≤ wo ∧ wo ≤ 65535) (ht : Tabs w) :
    Calls Tryd.prog 6 #[ndV n A3 c3 A4 c4, .int .u8 dp, .int .u16 wo] w fun e w' => e = .returned (.bool true) ∧ Below w.heap.size w w' := by
  have S := Sep.start w
  have HA := fun w' (hb : Below w.heap.size w w') => Lib.hid (capnplaw16_awake.calls true w' rfl (ht.below hb))
  have HR := fun w' (hb : Below w.heap.size w w') => Lib.hid (right_any n A3 A4 c3 c4 w' (K_below hb h) hB ho)
  have HC := Lib.hid (fun (hc : canT n ∧ tsize n ≤ 3000) w' (hb : Below w.heap.size w w') => write_any n A3 A4 c3 c4 w' (K_below hb h) (can_fit hc.1) (write_len (can_fit hc.1) (by omega)))
  have HLN := Lib.hid (fun (hc : canT n ∧ tsize n ≤ 3000) => write_len (can_fit hc.1) (by omega))
  have HOK := Lib.hid (fun (hc : canT n ∧ tsize n ≤ 3000) => write_ok (can_fit hc.1) (HLN.out hc))
  have HLP := Lib.hid (fun (hc : canT n ∧ tsize n ≤ 3000) D Wd => (limits_plain hc.1 (HLN.out hc) D Wd).1)
  generalize hPP : (canT n ∧ tsize n ≤ 3000) = PP at *
  generalize writeW n = T at *
  obtain ⟨f0, f1, f2, f3, l⟩ := n
  dsimp only [ndV, ndC] at *
  generalize f3.length = m3 at *
  generalize l.length = m4 at *
  have HT := Lib.hid ht
  have d0 : 0 ≤ dp := hd.1
  have d1 : dp ≤ 255 := hd.2
  have w0 : 0 ≤ wo := hw.1
  have w1 : wo ≤ 65535 := hw.2
  clear h hB ho ht hPP hd hw
  go_enter Tryd.func6, Tryd.ntmps6
  go_wp2_with (first | go_skip | ((with_reducible refine wl0 rfl ?_); first | refine sn S (fun g w1 S => ?_)) | ((with_reducible refine gate_dst (N := 14) rfl ?_); refine sa S ?_) | ((with_reducible refine (HA _ S.below).out.mono ?_); rintro r' w' ⟨rfl, hb⟩; replace S := S.call hb) | ((with_reducible refine (HR _ S.below).out.mono ?_); rintro r w' ⟨b1, rfl, h1, hb⟩; replace S := S.call hb; refine stop_ ?_))
  unfold Stop
  cases b1
  · go_wp2_with (first | go_skip | ((with_reducible refine (HA _ S.below).out.mono ?_); rintro r' w' ⟨rfl, hb⟩; replace S := S.call hb))
    exact rt S ⟨rfl, S.below⟩
  · have hc := h1 rfl
    have HW := Lib.hid (HC.out hc)
    have hln := HLN.out hc
    have hok := HOK.out hc
    have HL := Lib.hid (HLP.out hc (dp % 40) (wo % 2000))
    have hD : dp % 40 ≤ 40 := by omega
    have hW : wo % 2000 ≤ 2000 := by omega
    have HM := fun (A1 : Option Addr) (c1 : Nat) (g : Nat) w' (hC : (Kd.int .u64).C w' A1 T.length T) (hc : T.length ≤ c1) (hg : w'.heap[g]? = some (.cells #[.slice A1 T.length c1] 22 (0, 0))) => Lib.hid (show Calls Tryd.prog 16 #[.slice (some ⟨g, 0, none⟩) 1 1, limV (dp % 40) (wo % 2000) 0] w' (MsV w' (msgR [T] (dp % 40) (wo % 2000))) from msg_any (some ⟨g, 0, none⟩) 1 [T] (dp % 40) (wo % 2000) 0 w' (env_one (w := w) (cp := c1) hC hc (by omega) hok hg) hD hW)
    have HQ := fun (A1 : Option Addr) (c1 : Nat) w' (hb : Below w.heap.size w w') (hC : (Kd.int .u64).C w' A1 T.length T) (hc : T.length ≤ c1) => Lib.hid (show Calls Tryd.prog 10 #[.slice A1 T.length c1, limV (dp % 40) (wo % 2000) 0] w' (fun e w1 => e = .returned (.bool (wordsM T (dp % 40) (wo % 2000))) ∧ Below w'.heap.size w' w1) from words_any A1 c1 T (dp % 40) (wo % 2000) 0 w' ⟨hC, (HT.out.below hb).tab, (HT.out.below hb).dec, hok, by omega⟩ hc (by omega) (by omega))
    unfold WdV at HW
    clear h1 HC HLN HOK HLP hc hln hok HA HR HT hD hW
    generalize wordsM T (dp % 40) (wo % 2000) = bq at *
    generalize msgR [T] (dp % 40) (wo % 2000) = q at *
    obtain ⟨⟨g0, g1, g2, g3, g4⟩, e⟩ := q
    dsimp only at HL
    go_wp2_with (first | go_skip | ((with_reducible refine wl ?_); first | refine sn S (fun g w1 S => ?_) | refine ss S (fun w1 S => ?_) | refine sa S ?_ | refine sa (S.new _ _) ?_) | ((with_reducible refine (HW.out _ S.below).mono ?_); rintro r' w' ⟨A1, c1, rfl, ⟨hC, hcC⟩, hb⟩; replace S := S.call hb; have HB1 := Lib.hid S.below; have HC1 := Lib.hid hC; have HCP := Lib.hid hcC; replace S := Sep.start w'; clear hC hb hcC) | ((with_reducible refine (HM A1 c1 _ _ (Kd.C_below HC1.out (S.new _ _).below) HCP.out ((S.new _ _).blk .here)).out.mono ?_); rintro r' w' ⟨v3, v4, rfl, hM, hb⟩; obtain ⟨B3, e3, B4, e4, e5, -⟩ := k37_open (k37.K_of_M hM); simp only [List.cons.injEq, true_and, and_true] at e5; obtain ⟨rfl, rfl⟩ := e5; replace S := (S.new _ _).push (a := .made k37 _ _) hb hM; dsimp only at S) | ((with_reducible refine (HQ A1 c1 _ (below_step HB1.out S.below) (Kd.C_below HC1.out S.below) HCP.out).out.mono ?_); rintro r' w' ⟨rfl, hb⟩; replace S := S.call hb))
    refine rt S ⟨?_, below_step HB1.out S.below⟩
    rw [HL.out]
    by_cases he : e = 0 <;> simp [he]
end Go.Proofs.YtidglmocekghmaaDoor.Pr
end
section
namespace Go.Proofs.YtidglmocekghmaaDoor.Pr
open Go.RowKit Go.ChangeShapes Go.WideShapes Go.ChangeAt Go.Proofs.YtidglmocekghmaaDoorW.PrintWords Go.Proofs.YtidglmocekghmaaDoorW.PrintLast Go.Proofs.YtidglmocekghmaaDoorW.PrintMore
set_option linter.unusedVariables false
set_option linter.unusedSimpArgs false
theorem byte_range {n : Int} (h : (Lit.int .u8 n).wf = true) : 0 ≤ n ∧ n ≤ 255 := by
 simpa [Lit.wf, IntKind.min, IntKind.max, IntKind.signed, IntKind.bits] using h
theorem cells_each {w : World} {base : Nat} {a : Addr} {n : Nat} {cs : List Value} (h : w.cells? base a n = some cs) : cs.length = n ∧ ∀ (i : Nat) (u : Value), cs[i]? = some u → w.cell? (a.add i) = some u := by
 unfold World.cells? at h
 split at h
 ·have hl := mapM_some_length h
  refine ⟨by simpa using hl, fun i u hu => ?_⟩
  have hi : i < n := by
   have := (List.getElem?_eq_some_iff.1 hu).1
   simp at hl; omega
  have := mapM_some_get h i i (by simp [hi])
  rw [this, hu]
 ·cases h
section
variable {H : Type} {enc : TypeId × Value → H} {w : World} {base : Nat} {held : Bool}
theorem bulk_bytes {fuel : Nat} {cs : List Value} {x : DataW H × List MemPlace} (h : DataW.trod enc Tryd.prog w base (fun _ => true) held fuel 34 cs = some x) :
  ∃ (A : Option Addr) (c : Nat) (xs : List Int), cs = [.slice A xs.length c] ∧ xs.length ≤ c ∧ (Kd.int .u8).C w A xs.length xs ∧ (∀ n ∈ xs, 0 ≤ n ∧ n ≤ 255) ∧ xs.length + 1 ≤ Rows.uptoBulk x.1 := by
 rcases open_ints Tryd.underlying34 Tryd.underlying5 (by kernel_rfl) h with ⟨rfl, rfl⟩ | ⟨ad, len, cap, zs, rfl, hb, hle, hm, hz, rfl, hcell, hwz⟩
 ·exact ⟨none, 0, [], rfl, Nat.le_refl _, Kd.C_nil _ _, by simp, by simp [Rows.uptoBulk]⟩
 ·have hzl : zs.length = cap := by simpa using hz
  have htl : (zs.take len).length = len := by simp; omega
  have hlits : ∀ l : List Int, Rows.uptoBulkAll (lits (H := H) .u8 l) = l.length := fun l => by
   induction l with
   | nil => simp [lits, Rows.uptoBulkAll]
   | cons y l ih =>
    simp only [lits, List.map_cons, Rows.uptoBulkAll, Rows.uptoBulk, List.length_cons] at ih ⊢
    omega
  refine ⟨some ad, cap, zs.take len, by rw [htl], by omega, ⟨rfl, by rw [htl]; simp only [maxLen] at hm; omega, fun hp => ⟨ad, rfl, fun j p hj => ⟨[.int .u8 p], rfl, rfl, fun i u hu => ?_⟩⟩⟩, fun n hn => byte_range (hwz n (List.mem_of_mem_take hn)), ?_⟩
  ·match i with
   | 0 =>
    obtain rfl : Value.int .u8 p = u := by simpa using hu
    have hjl := (List.getElem?_eq_some_iff.1 hj).1
    rw [htl] at hjl
    have := hcell j (by omega)
    rw [List.getElem?_take_of_lt hjl] at hj
    rw [List.getD_eq_getElem?_getD, hj] at this
    show w.cell? (ad.add (j * 1 + 0)) = _
    rw [Nat.mul_one, Nat.add_zero]
    exact this
   | i + 1 => simp at hu
  ·simp only [Rows.uptoBulk, hlits]
   omega
theorem sizes_bulk : ∀ (L : List S37) (ds : List (DataW H)), L.length = ds.length → (∀ (i : Nat) (x : S37) (d : DataW H), L[i]? = some x → ds[i]? = some d → tsize x ≤ Rows.uptoBulk d) → tsizes L ≤ Rows.uptoBulkAll ds
 | [], _, _, _ => by simp [tsizes]
 | x :: L, [], h, _ => by simp at h
 | x :: L, d :: ds, h, hx => by
  have h1 := hx 0 x d rfl rfl
  have h2 := sizes_bulk L ds (by simpa using h) (fun i y e h1 h2 => hx (i + 1) y e (by simpa using h1) (by simpa using h2))
  simp only [tsizes, Rows.uptoBulkAll]; omega
end
end Go.Proofs.YtidglmocekghmaaDoor.Pr
end
