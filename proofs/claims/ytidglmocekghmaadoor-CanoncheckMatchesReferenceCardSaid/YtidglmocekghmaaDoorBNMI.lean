/- A part of the proof of YtidglmocekghmaaDoorMatchesCard (the texts that it stands on, gathered; declarations that nothing uses are left out). -/
import Derived.Test.YtidglmocekghmaaDoorBNMF
import Derived.Below
import Derived.Deep.Draws
import Derived.Deep.AppendLies
import Derived.Maps.AppendAt
import Derived.OwnWalk
import Derived.Laws.BytesArg
import Derived.Laws.MakeOwn
import Derived.Laws.OwnMore
import Derived.Deep.OwnRows
import Derived.Tactics
import Derived.Lib.ConvBytes
import Derived.Laws.Slices
import Derived.WalkKit
import Derived.KernelRfl
import Derived.RowKit3
import Derived.Deep.LoopGhost
import Derived.Deep.QuietTactic
import Derived.BigQuiet
import Derived.WideLaws
import Derived.Deep.DeepCutAuto
import Derived.Deep.CutBlock
import Derived.Deep.RegionHeld3
import Derived.Laws.Rows
import Derived.Lib.AppendStr
import Derived.ArgAppend
import Derived.Laws.IdiomCopy
import Derived.RowKit
import Derived.OrdersHeld
import Derived.Laws.BitsLemmas
import Derived.Laws.StructEq
import Derived.SizedLaws
import Derived.ChangeSlices
import Derived.Test.YtidglmocekghmaaDoorProg
import Derived.Lib.Hide
import Derived.WalkLawsBesides
import Derived.WalkSpells
import Derived.Outline
import Derived.IntWalk
import Derived.Laws.AppendOwn
import Derived.RangeFuncBox
import Derived.Lib.JoinLaws
import Derived.Defers
import Derived.Recover
import Derived.Laws.Pointers
import Derived.Test.YtidglmocekghmaaDoorCards
import Derived.ProofKit
import Derived.LaidMore
import Derived.LaidHandle
import Derived.Maps.Keyed
import Derived.WideKeyElems2
import Derived.Lib.LaidTab
import Derived.OpenShut
import Derived.Lib.SmallJoins
set_option linter.unusedVariables false
set_option linter.unusedSimpArgs false
section
namespace Go.Proofs.YtidglmocekghmaaDoor.Pr
open Go.RowKit Go.Proofs.YtidglmocekghmaaDoorW.PrintWords Go.Proofs.YtidglmocekghmaaDoorW.PrintLast Go.Proofs.YtidglmocekghmaaDoorW.PrintMore
set_option linter.unusedVariables false
set_option linter.unusedSimpArgs false
set_option maxRecDepth 100000 in
set_option maxHeartbeats 4000000 in
theorem vis_12_00 (ad : Addr) (n cp nx a : Nat) (w : World) (x : Int) (c m k : Nat) (hv : AtS w ad a x) (ha : a < n) (hn : n ≤ 17592186040320) (hx0 : 0 ≤ x) (hx1 : x < 18446744073709551616) (hnx : nx ≤ n) (hncp : n ≤ cp) (hx : x ≠ 0) (hk : kindW x = 1) (hc0 : cntW x = c) (hw : wordsE (elemW x) c = m) (hst : (a : Int) + 1 + offW x = nx) (hin : nx + m ≤ n) (he7 : elemW x = 7) (hmc : m = c + 1) (hkb : k ≤ 536870911) (cost : Int) (HOb : ObS ad n cp a w ⟨2, 0, (nx : Int) + 1, 0, 0, 7, k, cost⟩) (s : List Int) (HA : ∀ i, i < n → AtS w ad i (wd s i)) (V : Nat → Nat → Option Nat) (hQN : k * (0 + 0) = c) (hcb0 : c ≤ 536870911) (r : Int) (HR : Hid (r = visI (if (true && true) = true then velems V 0 (0 + 0) k (nx + 1 + 0) (nx + m) else none))) : Vi ad n cp nx a w r := by
  have S := Sep.start w
  have D1 := fun w => Lib.hid (rdec_lit x w hx0 hx1)
  clear hx0 hx1
  have tx : (x == 0) = false := beq_eq_false_iff_ne.2 hx
  clear hx
  have hpo := offW_bd x
  have ho : pO x = offW x := by unfold pO; rw [if_pos (by omega)]
  have hd : pD x = 0 := by unfold pD; rw [if_neg (by omega)]
  have hp : pP x = 0 := by unfold pP; rw [if_neg (by omega)]
  have he : pE x = elemW x := by unfold pE; rw [if_pos hk]
  have hc : pC x = c := by unfold pC; rw [if_pos hk, hc0]
  have heb := elemW_bd x
  have hcb := (cntW_bd x).2
  rw [hc0] at hcb
  rw [ho, hd, hp, he, hc, hk] at D1
  have HM := fun w => Lib.hid (words_any6 (elemW x) c w (by omega) (by omega))
  obtain ⟨hm0, hm1⟩ := wordsE_bd (elemW x) c (by omega) hcb
  rw [hw] at HM hm0 hm1
  clear hk hc0 ho hd hp he hc hw
  generalize elemW x = e at *
  generalize pB x = pb at *
  generalize pF x = pf at *
  generalize pS x = ps at *
  generalize pL x = pl at *
  generalize offW x = o at *
  have ts : ((a : Int) + 1 + o != nx) = false := bne_eq_false_iff_eq.2 hst
  have te6 : (e == 6) = false := beq_eq_false_iff_ne.2 (by omega)
  have te : decide (e < 6) = false := decide_eq_false (by omega)
  clear he7
  have HA := Lib.hid HA
  have tq : ((0 : Int) != c) = false := bne_eq_false_iff_eq.2 (by omega)
  go_enter Tryd.func22, Tryd.ntmps22
  go_wp2_with (first | go_skip | ((with_reducible refine wl ?_); first | (refine sn S (fun g w1 S => ?_); first | ((fail_if_success (have := g8)); revert g; intro g8 S) | ((fail_if_success (have := g15)); revert g; intro g15 S) | skip) | refine ss S (fun w1 S => ?_) | refine sl S ?_ | refine sa S ?_) | ((with_reducible refine (D1 _).out.mono ?_); rintro r w' ⟨rfl, hb⟩; replace S := S.call hb) | ((with_reducible refine (HM _).out.mono ?_); rintro r' w' ⟨rfl, rfl⟩) | ((with_reducible refine (HOb _ _ (S.new _ _).below ((S.new _ _).blk .here)).out.mono ?_); rintro r' w' ⟨rfl, hb⟩; replace S := ((S.new _ _).call hb).tail))
  simp only [List.getElem_toArray, List.getElem_cons_zero, List.getElem_cons_succ]
  have S := Lib.hid S
  go_loopw [17, 18, 19] (fun b1 b2 v wr => v = .int .i64 0 ∧ b1 = .bool true ∧ b2 = .bool true ∧ Hid (Sep w wr [.box g15 #[.int .i64 2, .int .i64 0, .int .i64 ((nx : Int) + 1), .int .i64 0, .int .i64 0, .int .i64 7, .int .i64 k, .int .i64 cost] 75, .box g8 #[.int .i64 1, .int .i64 o, .int .i64 0, .int .i64 0, .int .i64 e, .int .i64 c, .bool pb, .int .i64 pf, .int .u32 ps, .int .u32 pl] 67])) (fun _ _ _ _ => 0)
  case atStart => exact ⟨rfl, rfl, rfl, S⟩
  case round =>
    clear S
    obtain ⟨rfl, rfl, rfl, S⟩ := hrel
    by_cases h0k : (0 : Int) < (k : Int)
    · have HR : Hid (r = (nx : Int) + m) := Lib.hid (HR.out.trans (by rw [if_pos (by simp), velems_zero]; simp [visI]))
      have S := S.out
      go_wp2_with (first | go_skip | ((with_reducible refine wl ?_); first | refine sn S (fun g w1 S => ?_) | refine ss S (fun w1 S => ?_) | refine sl S ?_ | refine sa S ?_))
      have S := Lib.hid S
      try simp only [List.getElem_toArray, List.getElem_cons_zero, List.getElem_cons_succ]
      go_loopw [11, 21] (fun ev v wr => v = .int .i64 0 ∧ ev = .int .i64 r ∧ Hid (Sep w wr [.box g15 #[.int .i64 2, .int .i64 0, .int .i64 ((nx : Int) + 1), .int .i64 0, .int .i64 0, .int .i64 7, .int .i64 k, .int .i64 cost] 75, .box g8 #[.int .i64 1, .int .i64 o, .int .i64 0, .int .i64 0, .int .i64 e, .int .i64 c, .bool pb, .int .i64 pf, .int .u32 ps, .int .u32 pl] 67])) (fun _ _ _ => 0)
      case atStart => exact ⟨rfl, by rw [HR.out]; simp [hmc], S⟩
      case round =>
        clear S
        obtain ⟨rfl, rfl, S⟩ := hrel
        have S := S.out
        go_wp2_with (first | go_skip | ((with_reducible refine wl ?_); first | refine sn S (fun g w1 S => ?_) | refine ss S (fun w1 S => ?_) | refine sl S ?_ | refine sa S ?_))
        exact rt S ⟨rfl, S.below⟩
    · have HR : Hid (r = (nx : Int) + m) := Lib.hid (HR.out.trans (by rw [if_pos (by simp), velems_zero]; simp [visI]))
      have S := S.out
      go_wp2_with (first | go_skip | ((with_reducible refine wl0 rfl ?_); first | refine sn S (fun g w1 S => ?_) | refine ss S (fun w1 S => ?_) | refine sl S ?_ | refine sa S ?_))
      have S := Lib.hid S
      try simp only [List.getElem_toArray, List.getElem_cons_zero, List.getElem_cons_succ]
      go_loopw [11, 21] (fun ev v wr => v = .int .i64 0 ∧ ev = .int .i64 r ∧ Hid (Sep w wr [.box g15 #[.int .i64 2, .int .i64 0, .int .i64 ((nx : Int) + 1), .int .i64 0, .int .i64 0, .int .i64 7, .int .i64 k, .int .i64 cost] 75, .box g8 #[.int .i64 1, .int .i64 o, .int .i64 0, .int .i64 0, .int .i64 e, .int .i64 c, .bool pb, .int .i64 pf, .int .u32 ps, .int .u32 pl] 67])) (fun _ _ _ => 0)
      case atStart => exact ⟨rfl, by rw [HR.out]; simp [hmc], S⟩
      case round =>
        clear S
        obtain ⟨rfl, rfl, S⟩ := hrel
        have S := S.out
        go_wp2_with (first | go_skip | ((with_reducible refine wl0 rfl ?_); first | refine sn S (fun g w1 S => ?_) | refine ss S (fun w1 S => ?_) | refine sl S ?_ | refine sa S ?_))
        exact rt S ⟨rfl, S.below⟩
set_option maxRecDepth 100000 in
set_option maxHeartbeats 4000000 in
theorem vis_12_10 (ad : Addr) (n cp nx a : Nat) (w : World) (x : Int) (c m d k : Nat) (hv : AtS w ad a x) (ha : a < n) (hn : n ≤ 17592186040320) (hx0 : 0 ≤ x) (hx1 : x < 18446744073709551616) (hnx : nx ≤ n) (hncp : n ≤ cp) (hx : x ≠ 0) (hk : kindW x = 1) (hc0 : cntW x = c) (hw : wordsE (elemW x) c = m) (hst : (a : Int) + 1 + offW x = nx) (hin : nx + m ≤ n) (he7 : elemW x = 7) (hmc : m = c + 1) (hd0 : 0 < d) (hd1 : d ≤ 65535) (hkb : k ≤ 536870911) (cost : Int) (HOb : ObS ad n cp a w ⟨2, 0, (nx : Int) + 1, (d : Int), 0, 7, k, cost⟩) (s : List Int) (HA : ∀ i, i < n → AtS w ad i (wd s i)) (V : Nat → Nat → Option Nat) (hQN : k * (d + 0) = c) (hcb0 : c ≤ 536870911) (r : Int) (HR : Hid (r = visI (if ((anyM s (d + 0) k (nx + 1 + d - 1)) && true) = true then velems V 0 (d + 0) k (nx + 1 + d) (nx + m) else none))) : Vi ad n cp nx a w r := by
  have S := Sep.start w
  have D1 := fun w => Lib.hid (rdec_lit x w hx0 hx1)
  clear hx0 hx1
  have tx : (x == 0) = false := beq_eq_false_iff_ne.2 hx
  clear hx
  have hpo := offW_bd x
  have ho : pO x = offW x := by unfold pO; rw [if_pos (by omega)]
  have hd : pD x = 0 := by unfold pD; rw [if_neg (by omega)]
  have hp : pP x = 0 := by unfold pP; rw [if_neg (by omega)]
  have he : pE x = elemW x := by unfold pE; rw [if_pos hk]
  have hc : pC x = c := by unfold pC; rw [if_pos hk, hc0]
  have heb := elemW_bd x
  have hcb := (cntW_bd x).2
  rw [hc0] at hcb
  rw [ho, hd, hp, he, hc, hk] at D1
  have HM := fun w => Lib.hid (words_any6 (elemW x) c w (by omega) (by omega))
  obtain ⟨hm0, hm1⟩ := wordsE_bd (elemW x) c (by omega) hcb
  rw [hw] at HM hm0 hm1
  clear hk hc0 ho hd hp he hc hw
  generalize elemW x = e at *
  generalize pB x = pb at *
  generalize pF x = pf at *
  generalize pS x = ps at *
  generalize pL x = pl at *
  generalize offW x = o at *
  have ts : ((a : Int) + 1 + o != nx) = false := bne_eq_false_iff_eq.2 hst
  have te6 : (e == 6) = false := beq_eq_false_iff_ne.2 (by omega)
  have te : decide (e < 6) = false := decide_eq_false (by omega)
  clear he7
  have HA := Lib.hid HA
  have hQ : (k : Int) * (d : Int) = c := by rw [← hQN]; simp
  have HEL := fun (j : Nat) (hj : j < k) w' => Lib.hid (show Calls Tryd.prog 41 #[obV ⟨2, 0, (nx : Int) + 1, (d : Int), 0, 7, k, cost⟩, .int .i64 j] w' (fun e w1 => e = .returned (obV ⟨1, 0, (nx : Int) + 1 + (j * (d + 0) : Nat), (d : Int), 0, 0, 0, 0⟩) ∧ Below w'.heap.size w' w1) from (el_any ⟨2, 0, (nx : Int) + 1, (d : Int), 0, 7, k, cost⟩ j w' (by omega) (by omega) (by dsimp only; omega) (by dsimp only; omega) (by dsimp only; omega) (by dsimp only; omega) (by dsimp only; omega) (by dsimp only; omega)).mono (fun e w1 h => by rw [h.1]; unfold elG; exact ⟨by simp, h.2⟩))
  have td0 : ((d : Int) == 0) = false := beq_eq_false_iff_ne.2 (by omega)
  have tdp : decide ((d : Int) > 0) = true := decide_eq_true (by omega)
  go_enter Tryd.func22, Tryd.ntmps22
  go_wp2_with (first | go_skip | ((with_reducible refine wl ?_); first | (refine sn S (fun g w1 S => ?_); first | ((fail_if_success (have := g8)); revert g; intro g8 S) | ((fail_if_success (have := g15)); revert g; intro g15 S) | skip) | refine ss S (fun w1 S => ?_) | refine sl S ?_ | refine sa S ?_) | ((with_reducible refine (D1 _).out.mono ?_); rintro r w' ⟨rfl, hb⟩; replace S := S.call hb) | ((with_reducible refine (HM _).out.mono ?_); rintro r' w' ⟨rfl, rfl⟩) | ((with_reducible refine (HOb _ _ (S.new _ _).below ((S.new _ _).blk .here)).out.mono ?_); rintro r' w' ⟨rfl, hb⟩; replace S := ((S.new _ _).call hb).tail))
  simp only [List.getElem_toArray, List.getElem_cons_zero, List.getElem_cons_succ]
  have S := Lib.hid S
  go_loopw [17, 18, 19] (fun b1 b2 v wr => ∃ j : Nat, j ≤ k ∧ v = .int .i64 j ∧ b1 = .bool (anyM s (d + 0) j (nx + 1 + d - 1)) ∧ b2 = .bool true ∧ Hid (Sep w wr [.box g15 #[.int .i64 2, .int .i64 0, .int .i64 ((nx : Int) + 1), .int .i64 (d : Int), .int .i64 0, .int .i64 7, .int .i64 k, .int .i64 cost] 75, .box g8 #[.int .i64 1, .int .i64 o, .int .i64 0, .int .i64 0, .int .i64 e, .int .i64 c, .bool pb, .int .i64 pf, .int .u32 ps, .int .u32 pl] 67])) (fun _ _ v _ => k - (intOf v).toNat)
  case atStart => exact ⟨0, Nat.zero_le _, rfl, rfl, rfl, S⟩
  case round =>
    clear S
    obtain ⟨j, hj, rfl, rfl, rfl, S⟩ := hrel
    by_cases hjk : j < k
    · have hjI : (j : Int) < (k : Int) := by omega
      have HEj := HEL j hjk
      have hqb : j * (d + 0) + (d + 0) ≤ c := by have := Nat.mul_le_mul_right (d + 0) (show j + 1 ≤ k by omega); rw [Nat.add_mul, Nat.one_mul, hQN] at this; omega
      have hF1 := anyM_snoc s (d + 0) j (nx + 1 + d - 1)
      generalize j * (d + 0) = q at *
      rw [show nx + 1 + d - 1 + q = nx + 1 + q + d - 1 by omega] at hF1
      have hy := HA.out (nx + 1 + q + d - 1) (by omega)
      generalize wd s (nx + 1 + q + d - 1) = y at *
      generalize (anyM s (d + 0) j (nx + 1 + d - 1)) = f1 at *
      have S := S.out
      clear hQN HR
      by_cases hy0 : y = 0
      · subst hy0
        have hG1 : Hid ((anyM s (d + 0) (j + 1) (nx + 1 + d - 1)) = f1) := Lib.hid (hF1.trans (by simp))
        clear hF1
        go_wp2_with (first | go_skip | ((with_reducible refine wl ?_); first | refine sn S (fun g w1 S => ?_) | refine ss S (fun w1 S => ?_) | refine sl S ?_ | refine sa S ?_ | refine sx S hy ?_) | ((with_reducible refine (HEj _).out.mono ?_); rintro r' w' ⟨rfl, hb⟩; replace S := S.call hb))
        go_roundw
        case rel => exact ⟨j + 1, by omega, by go_num, by rw [hG1.out], rfl, Lib.hid S.tail⟩
        case measure => simp [intOf]; omega
      · have ty0 : (y != 0) = true := bne_iff_ne.2 hy0
        have hG1 : Hid ((anyM s (d + 0) (j + 1) (nx + 1 + d - 1)) = true) := Lib.hid (hF1.trans (by simp [hy0]))
        clear hF1 hy0
        go_wp2_with (first | go_skip | ((with_reducible refine wl ?_); first | refine sn S (fun g w1 S => ?_) | refine ss S (fun w1 S => ?_) | refine sl S ?_ | refine sa S ?_ | refine sx S hy ?_) | ((with_reducible refine (HEj _).out.mono ?_); rintro r' w' ⟨rfl, hb⟩; replace S := S.call hb))
        go_roundw
        case rel => exact ⟨j + 1, by omega, by go_num, by rw [hG1.out], rfl, Lib.hid S.tail⟩
        case measure => simp [intOf]; omega
    · obtain rfl : k = j := by omega
      have hkk : decide ((k : Int) < (k : Int)) = false := decide_eq_false (by omega)
      have hkn : decide (k < k) = false := decide_eq_false (by omega)
      generalize (anyM s (d + 0) k (nx + 1 + d - 1)) = f1 at *
      cases f1 with
      | false =>
        have HR : Hid (r = -1) := Lib.hid (HR.out.trans (by simp [visI]))
        have S := S.out
        go_wp2_with (first | go_skip | ((with_reducible refine wl0 rfl ?_); first | refine sn S (fun g w1 S => ?_) | refine ss S (fun w1 S => ?_) | refine sl S ?_ | refine sa S ?_))
        exact rt S ⟨by rw [HR.out], S.below⟩
      | true =>
        have HR : Hid (r = (nx : Int) + m) := Lib.hid (HR.out.trans (by rw [if_pos (by simp), velems_zero]; simp [visI]))
        have S := S.out
        go_wp2_with (first | go_skip | ((with_reducible refine wl0 rfl ?_); first | refine sn S (fun g w1 S => ?_) | refine ss S (fun w1 S => ?_) | refine sl S ?_ | refine sa S ?_))
        have S := Lib.hid S
        try simp only [List.getElem_toArray, List.getElem_cons_zero, List.getElem_cons_succ]
        go_loopw [11, 21] (fun ev v wr => v = .int .i64 0 ∧ ev = .int .i64 r ∧ Hid (Sep w wr [.box g15 #[.int .i64 2, .int .i64 0, .int .i64 ((nx : Int) + 1), .int .i64 (d : Int), .int .i64 0, .int .i64 7, .int .i64 k, .int .i64 cost] 75, .box g8 #[.int .i64 1, .int .i64 o, .int .i64 0, .int .i64 0, .int .i64 e, .int .i64 c, .bool pb, .int .i64 pf, .int .u32 ps, .int .u32 pl] 67])) (fun _ _ _ => 0)
        case atStart => exact ⟨rfl, by rw [HR.out]; simp [hmc], S⟩
        case round =>
          clear S
          obtain ⟨rfl, rfl, S⟩ := hrel
          have S := S.out
          by_cases h0k : (0 : Int) < (k : Int)
          · go_wp2_with (first | go_skip | ((with_reducible refine wl ?_); first | refine sn S (fun g w1 S => ?_) | refine ss S (fun w1 S => ?_) | refine sl S ?_ | refine sa S ?_))
            exact rt S ⟨rfl, S.below⟩
          · go_wp2_with (first | go_skip | ((with_reducible refine wl0 rfl ?_); first | refine sn S (fun g w1 S => ?_) | refine ss S (fun w1 S => ?_) | refine sl S ?_ | refine sa S ?_))
            exact rt S ⟨rfl, S.below⟩
end Go.Proofs.YtidglmocekghmaaDoor.Pr
end
section
namespace Go.Proofs.YtidglmocekghmaaDoor.Pr
open Go.RowKit Go.Proofs.YtidglmocekghmaaDoorW.PrintWords Go.Proofs.YtidglmocekghmaaDoorW.PrintLast Go.Proofs.YtidglmocekghmaaDoorW.PrintMore
set_option linter.unusedVariables false
set_option linter.unusedSimpArgs false
set_option maxRecDepth 100000 in
set_option maxHeartbeats 4000000 in
theorem vis_12_01 (ad : Addr) (n cp nx a : Nat) (w : World) (x : Int) (c m p k : Nat) (hv : AtS w ad a x) (ha : a < n) (hn : n ≤ 17592186040320) (hx0 : 0 ≤ x) (hx1 : x < 18446744073709551616) (hnx : nx ≤ n) (hncp : n ≤ cp) (hx : x ≠ 0) (hk : kindW x = 1) (hc0 : cntW x = c) (hw : wordsE (elemW x) c = m) (hst : (a : Int) + 1 + offW x = nx) (hin : nx + m ≤ n) (he7 : elemW x = 7) (hmc : m = c + 1) (hp0 : 0 < p) (hp1 : p ≤ 65535) (hkb : k ≤ 536870911) (cost : Int) (HOb : ObS ad n cp a w ⟨2, 0, (nx : Int) + 1, 0, (p : Int), 7, k, cost⟩) (s : List Int) (HA : ∀ i, i < n → AtS w ad i (wd s i)) (V : Nat → Nat → Option Nat) (hQN : k * (0 + p) = c) (hcb0 : c ≤ 536870911) (hV : ∀ j, j < k → ∀ e, e ≤ n → ∀ r, vptrs V p ((nx + 1 + 0) + j * (0 + p)) e = some r → r ≤ n) (HVS : ∀ j, j < k → ∀ e : Nat, e ≤ n → ∀ w', Below w.heap.size w w' → Hid (Calls Tryd.prog 37 #[.slice (some ad) n cp, .int .i64 e, .int .i64 ((nx : Int) + 1 + (j * (0 + p) : Nat)), .int .i64 p] w' fun r w1 => r = .returned (.int .i64 (visI (vptrs V p ((nx + 1 + 0) + j * (0 + p)) e))) ∧ Below w'.heap.size w' w1)) (r : Int) (HR : Hid (r = visI (if (true && (anyM s (0 + p) k (nx + 1 + (0 + p) - 1))) = true then velems V p (0 + p) k (nx + 1 + 0) (nx + m) else none))) : Vi ad n cp nx a w r := by
  have S := Sep.start w
  have D1 := fun w => Lib.hid (rdec_lit x w hx0 hx1)
  clear hx0 hx1
  have tx : (x == 0) = false := beq_eq_false_iff_ne.2 hx
  clear hx
  have hpo := offW_bd x
  have ho : pO x = offW x := by unfold pO; rw [if_pos (by omega)]
  have hd : pD x = 0 := by unfold pD; rw [if_neg (by omega)]
  have hp : pP x = 0 := by unfold pP; rw [if_neg (by omega)]
  have he : pE x = elemW x := by unfold pE; rw [if_pos hk]
  have hc : pC x = c := by unfold pC; rw [if_pos hk, hc0]
  have heb := elemW_bd x
  have hcb := (cntW_bd x).2
  rw [hc0] at hcb
  rw [ho, hd, hp, he, hc, hk] at D1
  have HM := fun w => Lib.hid (words_any6 (elemW x) c w (by omega) (by omega))
  obtain ⟨hm0, hm1⟩ := wordsE_bd (elemW x) c (by omega) hcb
  rw [hw] at HM hm0 hm1
  clear hk hc0 ho hd hp he hc hw
  generalize elemW x = e at *
  generalize pB x = pb at *
  generalize pF x = pf at *
  generalize pS x = ps at *
  generalize pL x = pl at *
  generalize offW x = o at *
  have ts : ((a : Int) + 1 + o != nx) = false := bne_eq_false_iff_eq.2 hst
  have te6 : (e == 6) = false := beq_eq_false_iff_ne.2 (by omega)
  have te : decide (e < 6) = false := decide_eq_false (by omega)
  clear he7
  have HA := Lib.hid HA
  have hV := Lib.hid hV
  have hQ : (k : Int) * (p : Int) = c := by rw [← hQN]; simp
  have HEL := fun (j : Nat) (hj : j < k) w' => Lib.hid (show Calls Tryd.prog 41 #[obV ⟨2, 0, (nx : Int) + 1, 0, (p : Int), 7, k, cost⟩, .int .i64 j] w' (fun e w1 => e = .returned (obV ⟨1, 0, (nx : Int) + 1 + (j * (0 + p) : Nat), 0, (p : Int), 0, 0, 0⟩) ∧ Below w'.heap.size w' w1) from (el_any ⟨2, 0, (nx : Int) + 1, 0, (p : Int), 7, k, cost⟩ j w' (by omega) (by omega) (by dsimp only; omega) (by dsimp only; omega) (by dsimp only; omega) (by dsimp only; omega) (by dsimp only; omega) (by dsimp only; omega)).mono (fun e w1 h => by rw [h.1]; unfold elG; exact ⟨by simp, h.2⟩))
  have tp0 : ((p : Int) == 0) = false := beq_eq_false_iff_ne.2 (by omega)
  have tpp : decide ((p : Int) > 0) = true := decide_eq_true (by omega)
  go_enter Tryd.func22, Tryd.ntmps22
  go_wp2_with (first | go_skip | ((with_reducible refine wl ?_); first | (refine sn S (fun g w1 S => ?_); first | ((fail_if_success (have := g8)); revert g; intro g8 S) | ((fail_if_success (have := g15)); revert g; intro g15 S) | skip) | refine ss S (fun w1 S => ?_) | refine sl S ?_ | refine sa S ?_) | ((with_reducible refine (D1 _).out.mono ?_); rintro r w' ⟨rfl, hb⟩; replace S := S.call hb) | ((with_reducible refine (HM _).out.mono ?_); rintro r' w' ⟨rfl, rfl⟩) | ((with_reducible refine (HOb _ _ (S.new _ _).below ((S.new _ _).blk .here)).out.mono ?_); rintro r' w' ⟨rfl, hb⟩; replace S := ((S.new _ _).call hb).tail))
  simp only [List.getElem_toArray, List.getElem_cons_zero, List.getElem_cons_succ]
  have S := Lib.hid S
  go_loopw [17, 18, 19] (fun b1 b2 v wr => ∃ j : Nat, j ≤ k ∧ v = .int .i64 j ∧ b1 = .bool true ∧ b2 = .bool (anyM s (0 + p) j (nx + 1 + (0 + p) - 1)) ∧ Hid (Sep w wr [.box g15 #[.int .i64 2, .int .i64 0, .int .i64 ((nx : Int) + 1), .int .i64 0, .int .i64 (p : Int), .int .i64 7, .int .i64 k, .int .i64 cost] 75, .box g8 #[.int .i64 1, .int .i64 o, .int .i64 0, .int .i64 0, .int .i64 e, .int .i64 c, .bool pb, .int .i64 pf, .int .u32 ps, .int .u32 pl] 67])) (fun _ _ v _ => k - (intOf v).toNat)
  case atStart => exact ⟨0, Nat.zero_le _, rfl, rfl, rfl, S⟩
  case round =>
    clear S
    obtain ⟨j, hj, rfl, rfl, rfl, S⟩ := hrel
    by_cases hjk : j < k
    · have hjI : (j : Int) < (k : Int) := by omega
      have HEj := HEL j hjk
      have hqb : j * (0 + p) + (0 + p) ≤ c := by have := Nat.mul_le_mul_right (0 + p) (show j + 1 ≤ k by omega); rw [Nat.add_mul, Nat.one_mul, hQN] at this; omega
      have hF2 := anyM_snoc s (0 + p) j (nx + 1 + (0 + p) - 1)
      generalize j * (0 + p) = q at *
      rw [show nx + 1 + (0 + p) - 1 + q = nx + 1 + q + p - 1 by omega] at hF2
      have hz2 := HA.out (nx + 1 + q + p - 1) (by omega)
      generalize wd s (nx + 1 + q + p - 1) = z at *
      generalize (anyM s (0 + p) j (nx + 1 + (0 + p) - 1)) = f2 at *
      have S := S.out
      clear hQN HR HVS hV
      by_cases hz0 : z = 0
      · subst hz0
        have hG2 : Hid ((anyM s (0 + p) (j + 1) (nx + 1 + (0 + p) - 1)) = f2) := Lib.hid (hF2.trans (by simp))
        clear hF2
        go_wp2_with (first | go_skip | ((with_reducible refine wl ?_); first | refine sn S (fun g w1 S => ?_) | refine ss S (fun w1 S => ?_) | refine sl S ?_ | refine sa S ?_ | refine sx S hz2 ?_) | ((with_reducible refine (HEj _).out.mono ?_); rintro r' w' ⟨rfl, hb⟩; replace S := S.call hb))
        go_roundw
        case rel => exact ⟨j + 1, by omega, by go_num, rfl, by rw [hG2.out], Lib.hid S.tail⟩
        case measure => simp [intOf]; omega
      · have tz0 : (z != 0) = true := bne_iff_ne.2 hz0
        have hG2 : Hid ((anyM s (0 + p) (j + 1) (nx + 1 + (0 + p) - 1)) = true) := Lib.hid (hF2.trans (by simp [hz0]))
        clear hF2 hz0
        go_wp2_with (first | go_skip | ((with_reducible refine wl ?_); first | refine sn S (fun g w1 S => ?_) | refine ss S (fun w1 S => ?_) | refine sl S ?_ | refine sa S ?_ | refine sx S hz2 ?_) | ((with_reducible refine (HEj _).out.mono ?_); rintro r' w' ⟨rfl, hb⟩; replace S := S.call hb))
        go_roundw
        case rel => exact ⟨j + 1, by omega, by go_num, rfl, by rw [hG2.out], Lib.hid S.tail⟩
        case measure => simp [intOf]; omega
    · obtain rfl : k = j := by omega
      have hkk : decide ((k : Int) < (k : Int)) = false := decide_eq_false (by omega)
      have hkn : decide (k < k) = false := decide_eq_false (by omega)
      generalize (anyM s (0 + p) k (nx + 1 + (0 + p) - 1)) = f2 at *
      cases f2 with
      | false =>
        have HR : Hid (r = -1) := Lib.hid (HR.out.trans (by simp [visI]))
        have S := S.out
        go_wp2_with (first | go_skip | ((with_reducible refine wl0 rfl ?_); first | refine sn S (fun g w1 S => ?_) | refine ss S (fun w1 S => ?_) | refine sl S ?_ | refine sa S ?_))
        exact rt S ⟨by rw [HR.out], S.below⟩
      | true =>
        have HR : Hid (r = visI (velems V p (0 + p) k (nx + 1 + 0) (nx + m))) := Lib.hid (HR.out.trans (by rw [if_pos (by simp)]))
        obtain ⟨R, hRR⟩ : ∃ R, velems V p (0 + p) k (nx + 1 + 0) (nx + m) = R := ⟨_, rfl⟩
        have HE : Hid (R = velems V p (0 + p) (k - 0) ((nx + 1 + 0) + 0 * (0 + p)) (nx + m)) := Lib.hid (by rw [Nat.sub_zero, Nat.zero_mul, Nat.add_zero, hRR])
        rw [hRR] at HR
        clear hRR
        have S := S.out
        go_wp2_with (first | go_skip | ((with_reducible refine wl0 rfl ?_); first | refine sn S (fun g w1 S => ?_) | refine ss S (fun w1 S => ?_) | refine sl S ?_ | refine sa S ?_))
        have S := Lib.hid S
        try simp only [List.getElem_toArray, List.getElem_cons_zero, List.getElem_cons_succ]
        go_loopw [11, 21] (fun ev v wr => ∃ j en : Nat, j ≤ k ∧ en ≤ n ∧ v = .int .i64 j ∧ ev = .int .i64 en ∧ Hid (R = velems V p (0 + p) (k - j) ((nx + 1 + 0) + j * (0 + p)) en) ∧ Hid (Sep w wr [.box g15 #[.int .i64 2, .int .i64 0, .int .i64 ((nx : Int) + 1), .int .i64 0, .int .i64 (p : Int), .int .i64 7, .int .i64 k, .int .i64 cost] 75, .box g8 #[.int .i64 1, .int .i64 o, .int .i64 0, .int .i64 0, .int .i64 e, .int .i64 c, .bool pb, .int .i64 pf, .int .u32 ps, .int .u32 pl] 67])) (fun _ v _ => k - (intOf v).toNat)
        case atStart => exact ⟨0, nx + m, Nat.zero_le _, hin, rfl, by simp [hmc], HE, S⟩
        case round =>
          clear S HE
          obtain ⟨j, e', hj, he', rfl, rfl, HE, S⟩ := hrel
          by_cases hjk : j < k
          · have hjI : (j : Int) < (k : Int) := by omega
            rw [velems_step hjk] at HE
            have HVj := HVS j hjk e' he'
            have hVj := hV.out j hjk e' he'
            have HEj := HEL j hjk
            have hqb : j * (0 + p) + (0 + p) ≤ c := by have := Nat.mul_le_mul_right (0 + p) (show j + 1 ≤ k by omega); rw [Nat.add_mul, Nat.one_mul, hQN] at this; omega
            generalize j * (0 + p) = q at *
            have S := S.out
            cases hq : vptrs V p ((nx + 1 + 0) + q) e' with
            | none =>
              rw [hq] at HVj HE
              have HE : Hid (R = none) := HE
              clear hVj hq
              go_wp2_with (first | go_skip | ((with_reducible refine wl ?_); first | refine sn S (fun g w1 S => ?_) | refine ss S (fun w1 S => ?_) | refine sl S ?_ | refine sa S ?_) | ((with_reducible refine (HEj _).out.mono ?_); rintro r' w' ⟨rfl, hb⟩; replace S := S.call hb) | ((with_reducible refine (HVj _ S.below).out.mono ?_); rintro r' w' ⟨rfl, hb⟩; replace S := S.call hb; dsimp only [visI]))
              exact rt S ⟨by rw [HR.out, HE.out], S.below⟩
            | some r' =>
              rw [hq] at HVj HE hVj
              have hr := hVj r' rfl
              have HE : Hid (R = velems V p (0 + p) (k - (j + 1)) ((nx + 1 + 0) + (j + 1) * (0 + p)) r') := HE
              clear hVj hq
              go_wp2_with (first | go_skip | ((with_reducible refine wl ?_); first | refine sn S (fun g w1 S => ?_) | refine ss S (fun w1 S => ?_) | refine sl S ?_ | refine sa S ?_) | ((with_reducible refine (HEj _).out.mono ?_); rintro r' w' ⟨rfl, hb⟩; replace S := S.call hb) | ((with_reducible refine (HVj _ S.below).out.mono ?_); rintro r' w' ⟨rfl, hb⟩; replace S := S.call hb; dsimp only [visI]))
              go_roundw
              case rel => exact ⟨j + 1, r', by omega, hr, by go_num, rfl, HE, Lib.hid S.tail⟩
              case measure => simp [intOf]; omega
          · obtain rfl : k = j := by omega
            rw [Nat.sub_self] at HE
            have HE : Hid (R = some e') := HE
            have S := S.out
            have hkk : decide ((k : Int) < (k : Int)) = false := decide_eq_false (by omega)
            have hkn : decide (k < k) = false := decide_eq_false (by omega)
            go_wp2_with (first | go_skip | ((with_reducible refine wl0 rfl ?_); first | refine sn S (fun g w1 S => ?_) | refine ss S (fun w1 S => ?_) | refine sl S ?_ | refine sa S ?_))
            exact rt S ⟨by rw [HR.out, HE.out], S.below⟩
end Go.Proofs.YtidglmocekghmaaDoor.Pr
end
