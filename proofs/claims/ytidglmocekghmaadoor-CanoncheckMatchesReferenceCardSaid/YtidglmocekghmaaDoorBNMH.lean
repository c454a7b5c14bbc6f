/- A part of the proof of YtidglmocekghmaaDoorMatchesCard (the texts that it stands on, gathered; declarations that nothing uses are left out). -/
import Derived.Test.YtidglmocekghmaaDoorBNMF
import Derived.Below
import Derived.Deep.Draws
import Derived.Deep.AppendLies
import Derived.Maps.AppendAt
import Derived.OwnWalk
import Derived.Laws.BytesArg
import Derived.Laws.MakeOwn
import Derived.Laws.OwnMore
import Derived.Deep.OwnRows
import Derived.Tactics
import Derived.Lib.ConvBytes
import Derived.Laws.Slices
import Derived.WalkKit
import Derived.KernelRfl
import Derived.RowKit3
import Derived.Deep.LoopGhost
import Derived.Deep.QuietTactic
import Derived.BigQuiet
import Derived.WideLaws
import Derived.Deep.DeepCutAuto
import Derived.Deep.CutBlock
import Derived.Deep.RegionHeld3
import Derived.Laws.Rows
import Derived.Lib.AppendStr
import Derived.ArgAppend
import Derived.Laws.IdiomCopy
import Derived.RowKit
import Derived.OrdersHeld
import Derived.Laws.BitsLemmas
import Derived.Laws.StructEq
import Derived.SizedLaws
import Derived.ChangeSlices
import Derived.Test.YtidglmocekghmaaDoorProg
import Derived.Lib.Hide
import Derived.WalkLawsBesides
import Derived.WalkSpells
import Derived.Outline
import Derived.IntWalk
import Derived.Laws.AppendOwn
import Derived.RangeFuncBox
import Derived.Lib.JoinLaws
import Derived.Defers
import Derived.Recover
import Derived.Laws.Pointers
import Derived.Test.YtidglmocekghmaaDoorCards
import Derived.ProofKit
import Derived.LaidMore
import Derived.LaidHandle
import Derived.Maps.Keyed
import Derived.WideKeyElems2
import Derived.Lib.LaidTab
import Derived.OpenShut
import Derived.Lib.SmallJoins
set_option linter.unusedVariables false
set_option linter.unusedSimpArgs false
section
namespace Go.Proofs.YtidglmocekghmaaDoor.Pr
open Go.RowKit Go.Proofs.YtidglmocekghmaaDoorW.PrintWords Go.Proofs.YtidglmocekghmaaDoorW.PrintLast Go.Proofs.YtidglmocekghmaaDoorW.PrintMore
set_option linter.unusedVariables false
set_option linter.unusedSimpArgs false
def tb (T : List Int) (i : Nat) : Int := if i < T.length then wd T i else 0
theorem restM_all {s : List Int} {e c : Int} {nx n : Nat} (h : ∀ i < (bytesL ((s.drop nx).take n)).length, tb (trimE e c (bytesL ((s.drop nx).take n))) i = wd (bytesL ((s.drop nx).take n)) i) : restM s e c nx n = true := by
  unfold restM
  dsimp only
  generalize bytesL ((s.drop nx).take n) = b at *
  generalize trimE e c b = T at *
  rw [decide_eq_true_eq]
  refine List.ext_getElem (by simp) (fun i h1 h2 => ?_)
  have := h i h2
  unfold tb wd at this
  rw [List.getD_eq_getElem?_getD, List.getD_eq_getElem?_getD, List.getElem?_eq_getElem h2] at this
  rw [List.getElem_take]
  by_cases hi : i < T.length
  · rw [List.getElem_append_left hi]
    rw [if_pos hi, List.getElem?_eq_getElem hi] at this
    simpa using this
  · rw [List.getElem_append_right (by omega)]
    rw [if_neg hi] at this
    simpa using this
theorem restM_not {s : List Int} {e c : Int} {nx n : Nat} {i : Nat} (hi : i < (bytesL ((s.drop nx).take n)).length) (h : tb (trimE e c (bytesL ((s.drop nx).take n))) i ≠ wd (bytesL ((s.drop nx).take n)) i) : restM s e c nx n = false := by
  unfold restM
  dsimp only
  generalize bytesL ((s.drop nx).take n) = b at *
  generalize trimE e c b = T at *
  rw [decide_eq_false_iff_not]
  intro he
  apply h
  rw [show wd b i = wd ((T ++ List.replicate b.length 0).take b.length) i by rw [he]]
  unfold tb wd
  rw [List.getD_eq_getElem?_getD, List.getD_eq_getElem?_getD, List.getElem?_take_of_lt hi]
  by_cases hj : i < T.length
  · rw [if_pos hj, List.getElem?_append_left hj]
  · rw [if_neg hj, List.getElem?_append_right (by omega), List.getElem?_replicate]
    split <;> rfl
set_option maxRecDepth 100000 in
set_option maxHeartbeats 4000000 in
theorem vis_11 (ad : Addr) (n cp nx a : Nat) (w : World) (x : Int) (c m : Nat) (hv : AtS w ad a x) (ha : a < n) (hn : n ≤ 17592186040320) (hx0 : 0 ≤ x) (hx1 : x < 18446744073709551616) (hnx : nx ≤ n) (hncp : n ≤ cp) (hx : x ≠ 0) (hk : kindW x = 1) (hc0 : cntW x = c) (hw : wordsE (elemW x) c = m) (hst : (a : Int) + 1 + offW x = nx) (hin : nx + m ≤ n) (he6 : elemW x < 6) (b T : List Int) (hbl : b.length ≤ 140737488355328) (r : Int) (h1 : (∀ i < b.length, tb T i = wd b i) → r = (nx : Int) + m) (h2 : ∀ i < b.length, tb T i ≠ wd b i → r = -1) (HBY : ∀ ad' c' w', Below w.heap.size w w' → (ad' = ad.add nx ∨ m = 0) → Hid (Calls Tryd.prog 38 #[.slice (some ad') m c'] w' fun r w1 => ∃ v, r = .returned v ∧ Kd.R (Kd.int .u8) 5 w1 w'.heap.size (fun _ => True) v b ∧ Below w'.heap.size w' w1)) (HTR : ∀ A' c' w', Kd.C (Kd.int .u8) w' A' b.length b → Hid (Calls Tryd.prog 39 #[.int .i64 (elemW x), .int .i64 c, .slice A' b.length c'] w' fun r w1 => ∃ v, r = .returned v ∧ Kd.R (Kd.int .u8) 5 w1 w'.heap.size (fun _ => True) v T ∧ Below w'.heap.size w' w1)) : Vi ad n cp nx a w r := by
  have S := Sep.start w
  have D1 := fun w => Lib.hid (rdec_lit x w hx0 hx1)
  clear hx0 hx1
  have tx : (x == 0) = false := beq_eq_false_iff_ne.2 hx
  clear hx
  have hpo := offW_bd x
  have ho : pO x = offW x := by unfold pO; rw [if_pos (by omega)]
  have hd : pD x = 0 := by unfold pD; rw [if_neg (by omega)]
  have hp : pP x = 0 := by unfold pP; rw [if_neg (by omega)]
  have he : pE x = elemW x := by unfold pE; rw [if_pos hk]
  have hc : pC x = c := by unfold pC; rw [if_pos hk, hc0]
  have heb := elemW_bd x
  have hcb := (cntW_bd x).2
  rw [hc0] at hcb
  rw [ho, hd, hp, he, hc, hk] at D1
  have HM := fun w => Lib.hid (words_any6 (elemW x) c w (by omega) (by omega))
  obtain ⟨hm0, hm1⟩ := wordsE_bd (elemW x) c (by omega) hcb
  rw [hw] at HM hm0 hm1
  clear hk hc0 ho hd hp he hc hw
  generalize elemW x = e at *
  generalize pB x = pb at *
  generalize pF x = pf at *
  generalize pS x = ps at *
  generalize pL x = pl at *
  generalize offW x = o at *
  have ts : ((a : Int) + 1 + o != nx) = false := bne_eq_false_iff_eq.2 hst
  have te6 : (e == 6) = false := beq_eq_false_iff_ne.2 (by omega)
  have te : decide (e < 6) = true := decide_eq_true he6
  have hnc : n ≤ cp := hncp
  clear he6
  go_enter Tryd.func22, Tryd.ntmps22
  go_wp2_with (first | go_skip | ((with_reducible refine wl ?_); first | (refine sn S (fun g w1 S => ?_); first | ((fail_if_success (have := g8)); revert g; intro g8 S)) | refine ss S (fun w1 S => ?_) | refine sl S ?_ | refine sa S ?_) | ((with_reducible refine (D1 _).out.mono ?_); rintro r w' ⟨rfl, hb⟩; replace S := S.call hb) | ((with_reducible refine (HM _).out.mono ?_); rintro r' w' ⟨rfl, rfl⟩) | ((with_reducible refine (HBY _ _ _ S.below (by first | exact .inl rfl | exact .inr (by omega))).out.mono ?_); rintro r' w' ⟨v, rfl, hR, hb⟩; obtain ⟨Ab, cb, rfl⟩ := Kd.R_slice hR; have hCb := R_C hR; replace S := S.push (a := .row (Kd.int .u8) 5 _ b) hb hR) | ((with_reducible refine (HTR _ _ _ hCb).out.mono ?_); rintro r' w' ⟨v, rfl, hR2, hb2⟩; obtain ⟨At, ct, rfl⟩ := Kd.R_slice hR2; replace S := S.push (a := .row (Kd.int .u8) 5 _ T) hb2 hR2))
  all_goals
    have S := Lib.hid S
    go_loopw [14] (fun k wr => ∃ j : Nat, j ≤ b.length ∧ k = .int .i64 j ∧ Hid (∀ i < j, tb T i = wd b i) ∧ Hid (Sep w wr [.row (Kd.int .u8) 5 (.slice At T.length ct) T, .row (Kd.int .u8) 5 (.slice Ab b.length cb) b, .box g8 #[.int .i64 1, .int .i64 o, .int .i64 0, .int .i64 0, .int .i64 e, .int .i64 c, .bool pb, .int .i64 pf, .int .u32 ps, .int .u32 pl] 67])) (fun k _ => b.length - (intOf k).toNat)
    case atStart => exact ⟨0, Nat.zero_le _, rfl, Lib.hid (fun i hi => by omega), S⟩
    case round =>
      clear S
      obtain ⟨j, hj, rfl, hall, S⟩ := hrel
      by_cases hjl : j < b.length
      · have hjI : (j : Int) < (b.length : Int) := by omega
        obtain ⟨ab, cb8, eab, _, hKb, hcb8⟩ := Kd.C_get (R_C (S.out.outR (.there .here))) (0 : Int) j (by omega) (by omega)
        obtain rfl : cb8 = [.int .u8 (wd b j)] := hKb
        have hvb := hcb8 0 _ rfl
        subst eab
        rw [show (Kd.int .u8).sz = 1 from rfl, Int.toNat_natCast, Nat.mul_one, Nat.add_zero] at hvb
        by_cases hjt : j < T.length
        · have hjtI : (j : Int) < (T.length : Int) := by omega
          obtain ⟨at_, ct8, eat, _, hKt, hct8⟩ := Kd.C_get (R_C (S.out.outR .here)) (0 : Int) j (by omega) (by omega)
          obtain rfl : ct8 = [.int .u8 (wd T j)] := hKt
          have hvt := hct8 0 _ rfl
          subst eat
          rw [show (Kd.int .u8).sz = 1 from rfl, Int.toNat_natCast, Nat.mul_one, Nat.add_zero] at hvt
          have htb : tb T j = wd T j := if_pos hjt
          by_cases heq : wd T j = wd b j
          · have hall2 : Hid (∀ i < j + 1, tb T i = wd b i) := Lib.hid (fun i hi => by
              by_cases hij : i = j
              · subst hij; rw [htb, heq]
              · exact hall.out i (by omega))
            rw [heq] at hvt
            clear htb heq hall
            generalize wd b j = y at *
            have hge : decide ((T.length : Int) ≤ (j : Int)) = false := decide_eq_false (by omega)
            have hgeN : decide (T.length ≤ j) = false := decide_eq_false (by omega)
            go_wp2
            go_quiet (fail)
            go_wp2
            go_roundw
            case rel => exact ⟨j + 1, by omega, by go_num, hall2, Lib.hid (S.out.drewN _)⟩
            case measure => simp [intOf]; omega
          · have hno : Hid (r = -1) := Lib.hid (h2 j hjl (by rw [htb]; exact heq))
            clear htb hall h1 h2
            have hneq : (wd b j != wd T j) = true := bne_iff_ne.2 (fun h => heq h.symm)
            clear heq
            generalize wd b j = y at *
            generalize wd T j = z at *
            go_wp2
            go_quiet (fail)
            go_wp2
            exact rt (S.out.drewN _) ⟨by rw [hno.out], (S.out.drewN _).below⟩
        · have hjtI : decide ((j : Int) < (T.length : Int)) = false := decide_eq_false (by omega)
          have hjtN : decide (j < T.length) = false := decide_eq_false hjt
          have hgeN : T.length ≤ j := by omega
          have hge : (T.length : Int) ≤ (j : Int) := by omega
          have htb : tb T j = 0 := if_neg hjt
          by_cases heq : wd b j = 0
          · have hall2 : Hid (∀ i < j + 1, tb T i = wd b i) := Lib.hid (fun i hi => by
              by_cases hij : i = j
              · subst hij; rw [htb, heq]
              · exact hall.out i (by omega))
            rw [heq] at hvb
            clear htb heq hall hjt
            go_wp2
            go_quiet (fail)
            go_wp2
            go_roundw
            case rel => exact ⟨j + 1, by omega, by go_num, hall2, Lib.hid (S.out.drewN _)⟩
            case measure => simp [intOf]; omega
          · have hno : Hid (r = -1) := Lib.hid (h2 j hjl (by rw [htb]; exact fun h => heq h.symm))
            have hneq : (wd b j != 0) = true := bne_iff_ne.2 heq
            clear htb heq hall h1 h2 hjt
            generalize wd b j = y at *
            go_wp2
            go_quiet (fail)
            go_wp2
            exact rt (S.out.drewN _) ⟨by rw [hno.out], (S.out.drewN _).below⟩
      · obtain rfl : j = b.length := by omega
        have hno : Hid (r = (nx : Int) + m) := Lib.hid (h1 hall.out)
        clear h1 h2 hall
        go_wp2
        exact rt S.out ⟨by rw [hno.out], S.out.below⟩
end Go.Proofs.YtidglmocekghmaaDoor.Pr
end
section
namespace Go.Proofs.YtidglmocekghmaaDoor.Pr
open Go.RowKit Go.Proofs.YtidglmocekghmaaDoorW.PrintWords Go.Proofs.YtidglmocekghmaaDoorW.PrintLast Go.Proofs.YtidglmocekghmaaDoorW.PrintMore
set_option linter.unusedVariables false
set_option linter.unusedSimpArgs false
set_option maxRecDepth 100000 in
set_option maxHeartbeats 4000000 in
theorem vis_12n_00 (ad : Addr) (n cp nx a : Nat) (w : World) (x : Int) (c m k : Nat) (hv : AtS w ad a x) (ha : a < n) (hn : n ≤ 17592186040320) (hx0 : 0 ≤ x) (hx1 : x < 18446744073709551616) (hnx : nx ≤ n) (hncp : n ≤ cp) (hx : x ≠ 0) (hk : kindW x = 1) (hc0 : cntW x = c) (hw : wordsE (elemW x) c = m) (hst : (a : Int) + 1 + offW x = nx) (hin : nx + m ≤ n) (he7 : elemW x = 7) (hmc : m = c + 1) (hkb : k ≤ 536870911) (cost : Int) (HOb : ObS ad n cp a w ⟨2, 0, (nx : Int) + 1, 0, 0, 7, k, cost⟩) (r : Int) (hne : (0 : Int) ≠ c) (HR : Hid (r = -1)) : Vi ad n cp nx a w r := by
  have S := Sep.start w
  have D1 := fun w => Lib.hid (rdec_lit x w hx0 hx1)
  clear hx0 hx1
  have tx : (x == 0) = false := beq_eq_false_iff_ne.2 hx
  clear hx
  have hpo := offW_bd x
  have ho : pO x = offW x := by unfold pO; rw [if_pos (by omega)]
  have hd : pD x = 0 := by unfold pD; rw [if_neg (by omega)]
  have hp : pP x = 0 := by unfold pP; rw [if_neg (by omega)]
  have he : pE x = elemW x := by unfold pE; rw [if_pos hk]
  have hc : pC x = c := by unfold pC; rw [if_pos hk, hc0]
  have heb := elemW_bd x
  have hcb := (cntW_bd x).2
  rw [hc0] at hcb
  rw [ho, hd, hp, he, hc, hk] at D1
  have HM := fun w => Lib.hid (words_any6 (elemW x) c w (by omega) (by omega))
  obtain ⟨hm0, hm1⟩ := wordsE_bd (elemW x) c (by omega) hcb
  rw [hw] at HM hm0 hm1
  clear hk hc0 ho hd hp he hc hw
  generalize elemW x = e at *
  generalize pB x = pb at *
  generalize pF x = pf at *
  generalize pS x = ps at *
  generalize pL x = pl at *
  generalize offW x = o at *
  have ts : ((a : Int) + 1 + o != nx) = false := bne_eq_false_iff_eq.2 hst
  have te6 : (e == 6) = false := beq_eq_false_iff_ne.2 (by omega)
  have te : decide (e < 6) = false := decide_eq_false (by omega)
  clear he7
  have tq : ((0 : Int) != c) = true := bne_iff_ne.2 hne
  clear hne
  go_enter Tryd.func22, Tryd.ntmps22
  go_wp2_with (first | go_skip | ((with_reducible refine wl ?_); first | (refine sn S (fun g w1 S => ?_); first | ((fail_if_success (have := g8)); revert g; intro g8 S) | ((fail_if_success (have := g15)); revert g; intro g15 S) | skip) | refine ss S (fun w1 S => ?_) | refine sl S ?_ | refine sa S ?_) | ((with_reducible refine (D1 _).out.mono ?_); rintro r w' ⟨rfl, hb⟩; replace S := S.call hb) | ((with_reducible refine (HM _).out.mono ?_); rintro r' w' ⟨rfl, rfl⟩) | ((with_reducible refine (HOb _ _ (S.new _ _).below ((S.new _ _).blk .here)).out.mono ?_); rintro r' w' ⟨rfl, hb⟩; replace S := ((S.new _ _).call hb).tail))
  exact rt S ⟨by rw [HR.out], S.below⟩
set_option maxRecDepth 100000 in
set_option maxHeartbeats 4000000 in
theorem vis_12n_10 (ad : Addr) (n cp nx a : Nat) (w : World) (x : Int) (c m d k : Nat) (hv : AtS w ad a x) (ha : a < n) (hn : n ≤ 17592186040320) (hx0 : 0 ≤ x) (hx1 : x < 18446744073709551616) (hnx : nx ≤ n) (hncp : n ≤ cp) (hx : x ≠ 0) (hk : kindW x = 1) (hc0 : cntW x = c) (hw : wordsE (elemW x) c = m) (hst : (a : Int) + 1 + offW x = nx) (hin : nx + m ≤ n) (he7 : elemW x = 7) (hmc : m = c + 1) (hd0 : 0 < d) (hd1 : d ≤ 65535) (hkb : k ≤ 536870911) (cost : Int) (HOb : ObS ad n cp a w ⟨2, 0, (nx : Int) + 1, (d : Int), 0, 7, k, cost⟩) (Q : Nat) (hQ : (k : Int) * (d : Int) = Q) (r : Int) (hQb : Q ≤ 536870911) (hne : (Q : Int) ≠ c) (HR : Hid (r = -1)) : Vi ad n cp nx a w r := by
  have S := Sep.start w
  have D1 := fun w => Lib.hid (rdec_lit x w hx0 hx1)
  clear hx0 hx1
  have tx : (x == 0) = false := beq_eq_false_iff_ne.2 hx
  clear hx
  have hpo := offW_bd x
  have ho : pO x = offW x := by unfold pO; rw [if_pos (by omega)]
  have hd : pD x = 0 := by unfold pD; rw [if_neg (by omega)]
  have hp : pP x = 0 := by unfold pP; rw [if_neg (by omega)]
  have he : pE x = elemW x := by unfold pE; rw [if_pos hk]
  have hc : pC x = c := by unfold pC; rw [if_pos hk, hc0]
  have heb := elemW_bd x
  have hcb := (cntW_bd x).2
  rw [hc0] at hcb
  rw [ho, hd, hp, he, hc, hk] at D1
  have HM := fun w => Lib.hid (words_any6 (elemW x) c w (by omega) (by omega))
  obtain ⟨hm0, hm1⟩ := wordsE_bd (elemW x) c (by omega) hcb
  rw [hw] at HM hm0 hm1
  clear hk hc0 ho hd hp he hc hw
  generalize elemW x = e at *
  generalize pB x = pb at *
  generalize pF x = pf at *
  generalize pS x = ps at *
  generalize pL x = pl at *
  generalize offW x = o at *
  have ts : ((a : Int) + 1 + o != nx) = false := bne_eq_false_iff_eq.2 hst
  have te6 : (e == 6) = false := beq_eq_false_iff_ne.2 (by omega)
  have te : decide (e < 6) = false := decide_eq_false (by omega)
  clear he7
  have tq : ((Q : Int) != c) = true := bne_iff_ne.2 hne
  clear hne
  go_enter Tryd.func22, Tryd.ntmps22
  go_wp2_with (first | go_skip | ((with_reducible refine wl ?_); first | (refine sn S (fun g w1 S => ?_); first | ((fail_if_success (have := g8)); revert g; intro g8 S) | ((fail_if_success (have := g15)); revert g; intro g15 S) | skip) | refine ss S (fun w1 S => ?_) | refine sl S ?_ | refine sa S ?_) | ((with_reducible refine (D1 _).out.mono ?_); rintro r w' ⟨rfl, hb⟩; replace S := S.call hb) | ((with_reducible refine (HM _).out.mono ?_); rintro r' w' ⟨rfl, rfl⟩) | ((with_reducible refine (HOb _ _ (S.new _ _).below ((S.new _ _).blk .here)).out.mono ?_); rintro r' w' ⟨rfl, hb⟩; replace S := ((S.new _ _).call hb).tail))
  exact rt S ⟨by rw [HR.out], S.below⟩
set_option maxRecDepth 100000 in
set_option maxHeartbeats 4000000 in
theorem vis_12n_01 (ad : Addr) (n cp nx a : Nat) (w : World) (x : Int) (c m p k : Nat) (hv : AtS w ad a x) (ha : a < n) (hn : n ≤ 17592186040320) (hx0 : 0 ≤ x) (hx1 : x < 18446744073709551616) (hnx : nx ≤ n) (hncp : n ≤ cp) (hx : x ≠ 0) (hk : kindW x = 1) (hc0 : cntW x = c) (hw : wordsE (elemW x) c = m) (hst : (a : Int) + 1 + offW x = nx) (hin : nx + m ≤ n) (he7 : elemW x = 7) (hmc : m = c + 1) (hp0 : 0 < p) (hp1 : p ≤ 65535) (hkb : k ≤ 536870911) (cost : Int) (HOb : ObS ad n cp a w ⟨2, 0, (nx : Int) + 1, 0, (p : Int), 7, k, cost⟩) (Q : Nat) (hQ : (k : Int) * (p : Int) = Q) (r : Int) (hQb : Q ≤ 536870911) (hne : (Q : Int) ≠ c) (HR : Hid (r = -1)) : Vi ad n cp nx a w r := by
  have S := Sep.start w
  have D1 := fun w => Lib.hid (rdec_lit x w hx0 hx1)
  clear hx0 hx1
  have tx : (x == 0) = false := beq_eq_false_iff_ne.2 hx
  clear hx
  have hpo := offW_bd x
  have ho : pO x = offW x := by unfold pO; rw [if_pos (by omega)]
  have hd : pD x = 0 := by unfold pD; rw [if_neg (by omega)]
  have hp : pP x = 0 := by unfold pP; rw [if_neg (by omega)]
  have he : pE x = elemW x := by unfold pE; rw [if_pos hk]
  have hc : pC x = c := by unfold pC; rw [if_pos hk, hc0]
  have heb := elemW_bd x
  have hcb := (cntW_bd x).2
  rw [hc0] at hcb
  rw [ho, hd, hp, he, hc, hk] at D1
  have HM := fun w => Lib.hid (words_any6 (elemW x) c w (by omega) (by omega))
  obtain ⟨hm0, hm1⟩ := wordsE_bd (elemW x) c (by omega) hcb
  rw [hw] at HM hm0 hm1
  clear hk hc0 ho hd hp he hc hw
  generalize elemW x = e at *
  generalize pB x = pb at *
  generalize pF x = pf at *
  generalize pS x = ps at *
  generalize pL x = pl at *
  generalize offW x = o at *
  have ts : ((a : Int) + 1 + o != nx) = false := bne_eq_false_iff_eq.2 hst
  have te6 : (e == 6) = false := beq_eq_false_iff_ne.2 (by omega)
  have te : decide (e < 6) = false := decide_eq_false (by omega)
  clear he7
  have tq : ((Q : Int) != c) = true := bne_iff_ne.2 hne
  clear hne
  go_enter Tryd.func22, Tryd.ntmps22
  go_wp2_with (first | go_skip | ((with_reducible refine wl ?_); first | (refine sn S (fun g w1 S => ?_); first | ((fail_if_success (have := g8)); revert g; intro g8 S) | ((fail_if_success (have := g15)); revert g; intro g15 S) | skip) | refine ss S (fun w1 S => ?_) | refine sl S ?_ | refine sa S ?_) | ((with_reducible refine (D1 _).out.mono ?_); rintro r w' ⟨rfl, hb⟩; replace S := S.call hb) | ((with_reducible refine (HM _).out.mono ?_); rintro r' w' ⟨rfl, rfl⟩) | ((with_reducible refine (HOb _ _ (S.new _ _).below ((S.new _ _).blk .here)).out.mono ?_); rintro r' w' ⟨rfl, hb⟩; replace S := ((S.new _ _).call hb).tail))
  exact rt S ⟨by rw [HR.out], S.below⟩
set_option maxRecDepth 100000 in
set_option maxHeartbeats 4000000 in
theorem vis_12n_11 (ad : Addr) (n cp nx a : Nat) (w : World) (x : Int) (c m d p k : Nat) (hv : AtS w ad a x) (ha : a < n) (hn : n ≤ 17592186040320) (hx0 : 0 ≤ x) (hx1 : x < 18446744073709551616) (hnx : nx ≤ n) (hncp : n ≤ cp) (hx : x ≠ 0) (hk : kindW x = 1) (hc0 : cntW x = c) (hw : wordsE (elemW x) c = m) (hst : (a : Int) + 1 + offW x = nx) (hin : nx + m ≤ n) (he7 : elemW x = 7) (hmc : m = c + 1) (hd0 : 0 < d) (hd1 : d ≤ 65535) (hp0 : 0 < p) (hp1 : p ≤ 65535) (hkb : k ≤ 536870911) (cost : Int) (HOb : ObS ad n cp a w ⟨2, 0, (nx : Int) + 1, (d : Int), (p : Int), 7, k, cost⟩) (Q : Nat) (hQ : (k : Int) * ((d : Int) + p) = Q) (r : Int) (hQb : Q ≤ 536870911) (hne : (Q : Int) ≠ c) (HR : Hid (r = -1)) : Vi ad n cp nx a w r := by
  have S := Sep.start w
  have D1 := fun w => Lib.hid (rdec_lit x w hx0 hx1)
  clear hx0 hx1
  have tx : (x == 0) = false := beq_eq_false_iff_ne.2 hx
  clear hx
  have hpo := offW_bd x
  have ho : pO x = offW x := by unfold pO; rw [if_pos (by omega)]
  have hd : pD x = 0 := by unfold pD; rw [if_neg (by omega)]
  have hp : pP x = 0 := by unfold pP; rw [if_neg (by omega)]
  have he : pE x = elemW x := by unfold pE; rw [if_pos hk]
  have hc : pC x = c := by unfold pC; rw [if_pos hk, hc0]
  have heb := elemW_bd x
  have hcb := (cntW_bd x).2
  rw [hc0] at hcb
  rw [ho, hd, hp, he, hc, hk] at D1
  have HM := fun w => Lib.hid (words_any6 (elemW x) c w (by omega) (by omega))
  obtain ⟨hm0, hm1⟩ := wordsE_bd (elemW x) c (by omega) hcb
  rw [hw] at HM hm0 hm1
  clear hk hc0 ho hd hp he hc hw
  generalize elemW x = e at *
  generalize pB x = pb at *
  generalize pF x = pf at *
  generalize pS x = ps at *
  generalize pL x = pl at *
  generalize offW x = o at *
  have ts : ((a : Int) + 1 + o != nx) = false := bne_eq_false_iff_eq.2 hst
  have te6 : (e == 6) = false := beq_eq_false_iff_ne.2 (by omega)
  have te : decide (e < 6) = false := decide_eq_false (by omega)
  clear he7
  have tq : ((Q : Int) != c) = true := bne_iff_ne.2 hne
  clear hne
  go_enter Tryd.func22, Tryd.ntmps22
  go_wp2_with (first | go_skip | ((with_reducible refine wl ?_); first | (refine sn S (fun g w1 S => ?_); first | ((fail_if_success (have := g8)); revert g; intro g8 S) | ((fail_if_success (have := g15)); revert g; intro g15 S) | skip) | refine ss S (fun w1 S => ?_) | refine sl S ?_ | refine sa S ?_) | ((with_reducible refine (D1 _).out.mono ?_); rintro r w' ⟨rfl, hb⟩; replace S := S.call hb) | ((with_reducible refine (HM _).out.mono ?_); rintro r' w' ⟨rfl, rfl⟩) | ((with_reducible refine (HOb _ _ (S.new _ _).below ((S.new _ _).blk .here)).out.mono ?_); rintro r' w' ⟨rfl, hb⟩; replace S := ((S.new _ _).call hb).tail))
  exact rt S ⟨by rw [HR.out], S.below⟩
end Go.Proofs.YtidglmocekghmaaDoor.Pr
end
