/- A part of the proof of YtidglmocekghmaaDoorMatchesCard (the texts that it stands on, gathered; declarations that nothing uses are left out). -/
import Derived.Test.YtidglmocekghmaaDoorBNMC
import Derived.Below
import Derived.Deep.Draws
import Derived.Deep.AppendLies
import Derived.Maps.AppendAt
import Derived.OwnWalk
import Derived.Laws.BytesArg
import Derived.Laws.MakeOwn
import Derived.Laws.OwnMore
import Derived.Deep.OwnRows
import Derived.Tactics
import Derived.Lib.ConvBytes
import Derived.Laws.Slices
import Derived.WalkKit
import Derived.KernelRfl
import Derived.RowKit3
import Derived.Deep.LoopGhost
import Derived.Deep.QuietTactic
import Derived.BigQuiet
import Derived.WideLaws
import Derived.Deep.DeepCutAuto
import Derived.Deep.CutBlock
import Derived.Deep.RegionHeld3
import Derived.Laws.Rows
import Derived.Lib.AppendStr
import Derived.ArgAppend
import Derived.Laws.IdiomCopy
import Derived.RowKit
import Derived.OrdersHeld
import Derived.Laws.BitsLemmas
import Derived.Laws.StructEq
import Derived.SizedLaws
import Derived.ChangeSlices
import Derived.Test.YtidglmocekghmaaDoorProg
import Derived.Lib.Hide
import Derived.WalkLawsBesides
import Derived.WalkSpells
import Derived.Outline
import Derived.IntWalk
import Derived.Laws.AppendOwn
import Derived.RangeFuncBox
import Derived.Lib.JoinLaws
import Derived.Defers
import Derived.Recover
import Derived.Laws.Pointers
import Derived.Test.YtidglmocekghmaaDoorCards
import Derived.ProofKit
import Derived.LaidMore
import Derived.LaidHandle
import Derived.Maps.Keyed
import Derived.WideKeyElems2
import Derived.Lib.LaidTab
import Derived.OpenShut
import Derived.Lib.SmallJoins
set_option linter.unusedVariables false
set_option linter.unusedSimpArgs false
section
namespace Go.Proofs.YtidglmocekghmaaDoor.Pr
open Go.RowKit Go.Proofs.YtidglmocekghmaaDoorW.PrintWords Go.Proofs.YtidglmocekghmaaDoorW.PrintLast Go.Proofs.YtidglmocekghmaaDoorW.PrintMore
set_option linter.unusedVariables false
set_option linter.unusedSimpArgs false
theorem val_any : ∀ f, ValC f
  | 0 => val_walk 0 (fun f' h => by omega)
  | f + 1 => val_walk (f + 1) (fun f' h => by
    obtain rfl : f = f' := by omega
    exact ⟨val_any f, str_walk f (val_any f)⟩)
end Go.Proofs.YtidglmocekghmaaDoor.Pr
end
section
namespace Go.Proofs.YtidglmocekghmaaDoor.Pr
open Go.RowKit Go.Proofs.YtidglmocekghmaaDoorW.PrintWords Go.Proofs.YtidglmocekghmaaDoorW.PrintLast Go.Proofs.YtidglmocekghmaaDoorW.PrintMore
attribute [local go_sem] max2_int min2_int max_two min_two max_three min_three max_four min_four
set_option linter.unusedVariables false
set_option linter.unusedSimpArgs false
def capnpref11_Words.l0 : Nat → List Int → Int → Int → Option (Int)
  | 0, _, _, _ => none
  | k + 1, x0, x3, x4 => if x4 < (x0.length : Int) then (if 0 ≤ x4 then (if (Go.Proofs.YtidglmocekghmaaDoorW.PrintWords.rd x0 x4) = 0 then (capnpref11_Words.l0 k x0 x3 (wrap64 (x4 + 1))) else (capnpref11_Words.l0 k x0 (wrap64 ((wrap64 (Int.tdiv x4 8)) + 1)) (wrap64 (x4 + 1)))) else (none)) else (some x3)
def capnpref11_Words.f (k : Nat) (l0 : List Int) : Option (Int) := capnpref11_Words.l0 k l0 0 0
set_option maxHeartbeats 8000000 in
set_option maxRecDepth 100000 in
theorem capnpref11_Words.calls (k : Nat) (A0 : Option Addr) (c0 : Nat) (l0 : List Int) (r : Int) (w : World) (hr0 : Kd.C (Kd.int .u8) w A0 l0.length l0) (hc0 : l0.length ≤ c0) (h : capnpref11_Words.f k l0 = some r) :
    Calls Tryd.prog 46 #[.slice A0 l0.length c0] w fun e w' => e = .returned (.int .i64 r) ∧ Drawn0 w w' := by
  have HR0 := Aside0.mk hr0
  have HC0 := Aside0.mk hc0
  clear hr0 hc0
  have H : (capnpref11_Words.l0 k l0 0 0) = some r := h
  clear h
  have H' := Aside0.mk H
  clear H
  go_enter Tryd.func46, Tryd.ntmps46
  go_wp2
  go_loopg [3, 4] k (fun kq v3 v4 w' => ∃ (x3_1 : Int) (x4_1 : Int), v3 = .int .i64 x3_1 ∧ v4 = .int .i64 x4_1 ∧ Aside0 (capnpref11_Words.l0 kq l0 x3_1 x4_1 = some r) ∧ Aside0 (kq ≤ k) ∧ Drawn0 w w')
  case atStart => exact ⟨(0), (0), (by first | rfl | (simp; done) | (simp [*]; done)), (by first | rfl | (simp; done) | (simp [*]; done)), H', ⟨Nat.le_refl _⟩, by repeat (first | exact Drawn0.refl _ | apply Drawn0.step)⟩
  case round =>
    clear H'
    obtain ⟨x3_1, x4_1, rfl, rfl, HA, HK1, ⟨m1, rfl⟩⟩ := hrel
    cases gk with
    | zero => exact absurd HA.out (by simp [capnpref11_Words.l0])
    | succ k1 =>
      have H := HA.out
      clear HA
      simp only [capnpref11_Words.l0] at H
      by_cases c2 : x4_1 < (l0.length : Int)
      · rw [if_pos c2] at H
        have c2b0 : decide (x4_1 < (l0.length : Int)) = true := decide_eq_true c2
        clear c2
        by_cases c3 : 0 ≤ x4_1
        · rw [if_pos c3] at H
          have c3b0 : decide (0 ≤ x4_1) = true := decide_eq_true c3
          clear c3
          by_cases c4 : (Go.Proofs.YtidglmocekghmaaDoorW.PrintWords.rd l0 x4_1) = 0
          · rw [if_pos c4] at H
            have c4b0 : ((Go.Proofs.YtidglmocekghmaaDoorW.PrintWords.rd l0 x4_1) == 0) = true := beq_iff_eq.mpr c4
            have c4b1 : ((Go.Proofs.YtidglmocekghmaaDoorW.PrintWords.rd l0 x4_1) != 0) = false := bne_eq_false_iff_eq.mpr c4
            clear c4
            have H' := Aside0.mk H
            clear H
            have p231 : 0 ≤ (x4_1 : Int) := of_decide_eq_true (by first | (with_reducible assumption) | assumption)
            have q231 : x4_1 < (l0.length : Int) := of_decide_eq_true (by first | (with_reducible assumption) | assumption)
            obtain ⟨ad231, e231, hx231_0⟩ := Kd.at_int HR0.out x4_1 p231 q231
            cases e231
            replace p231 := eq_true p231
            replace q231 := eq_true q231
            go_wp2
            go_roundg k1
            case measure => have := HK1.out; omega
            case rel => exact ⟨(x3_1), (wrap64 (x4_1 + 1)), (by first | rfl | (simp; done) | (simp [*]; done)), (by first | rfl | (simp; done) | (simp [*]; done)), H', ⟨by have := HK1.out; omega⟩, by repeat (first | exact Drawn0.refl _ | apply Drawn0.step)⟩
          · rw [if_neg c4] at H
            have c4b0 : ((Go.Proofs.YtidglmocekghmaaDoorW.PrintWords.rd l0 x4_1) == 0) = false := beq_eq_false_iff_ne.mpr c4
            have c4b1 : ((Go.Proofs.YtidglmocekghmaaDoorW.PrintWords.rd l0 x4_1) != 0) = true := bne_iff_ne.mpr c4
            have H' := Aside0.mk H
            clear H
            have p231 : 0 ≤ (x4_1 : Int) := of_decide_eq_true (by first | (with_reducible assumption) | assumption)
            have q231 : x4_1 < (l0.length : Int) := of_decide_eq_true (by first | (with_reducible assumption) | assumption)
            obtain ⟨ad231, e231, hx231_0⟩ := Kd.at_int HR0.out x4_1 p231 q231
            cases e231
            replace p231 := eq_true p231
            replace q231 := eq_true q231
            go_wp2
            go_roundg k1
            case measure => have := HK1.out; omega
            case rel => exact ⟨(wrap64 ((wrap64 (Int.tdiv x4_1 8)) + 1)), (wrap64 (x4_1 + 1)), (by first | rfl | (simp; done) | (simp [*]; done)), (by first | rfl | (simp; done) | (simp [*]; done)), H', ⟨by have := HK1.out; omega⟩, by repeat (first | exact Drawn0.refl _ | apply Drawn0.step)⟩
        · rw [if_neg c3] at H
          exact absurd H (by simp)
      · rw [if_neg c2] at H
        have c2b0 : decide (x4_1 < (l0.length : Int)) = false := decide_eq_false c2
        clear c2
        obtain rfl := Option.some.inj H
        go_wp2
        go_ret
        exact ⟨by first | rfl | (simp; done) | (simp [*]; done), by repeat (first | exact Drawn0.refl _ | apply Drawn0.step)⟩
def capnpref11_Pointers.l0 : Nat → List (S37) → Int → Int → Option (Int)
  | 0, _, _, _ => none
  | k + 1, x0, x3, x4 => if x4 < (x0.length : Int) then (if 0 ≤ x4 then (if ((rd_T37 x0 x4).f0) = 0 then (capnpref11_Pointers.l0 k x0 x3 (wrap64 (x4 + 1))) else (capnpref11_Pointers.l0 k x0 (wrap64 (x4 + 1)) (wrap64 (x4 + 1)))) else (none)) else (some x3)
def capnpref11_Pointers.f (k : Nat) (l0 : List (S37)) : Option (Int) := capnpref11_Pointers.l0 k l0 0 0
set_option maxHeartbeats 8000000 in
set_option maxRecDepth 100000 in
theorem capnpref11_Pointers.calls (k : Nat) (A0 : Option Addr) (c0 : Nat) (l0 : List (S37)) (r : Int) (w : World) (hr0 : Kd.C k37 w A0 l0.length l0) (hc0 : l0.length ≤ c0) (h : capnpref11_Pointers.f k l0 = some r) :
    Calls Tryd.prog 47 #[.slice A0 l0.length c0] w fun e w' => e = .returned (.int .i64 r) ∧ Drawn0 w w' := by
  have HR0 := Aside0.mk hr0
  have HC0 := Aside0.mk hc0
  clear hr0 hc0
  have H : (capnpref11_Pointers.l0 k l0 0 0) = some r := h
  clear h
  have H' := Aside0.mk H
  clear H
  go_enter Tryd.func47, Tryd.ntmps47
  go_wp2
  go_loopg [3, 4] k (fun kq v3 v4 w' => ∃ (x3_1 : Int) (x4_1 : Int), v3 = .int .i64 x3_1 ∧ v4 = .int .i64 x4_1 ∧ Aside0 (capnpref11_Pointers.l0 kq l0 x3_1 x4_1 = some r) ∧ Aside0 (kq ≤ k) ∧ Drawn0 w w')
  case atStart => exact ⟨(0), (0), (by first | rfl | (simp; done) | (simp [*]; done)), (by first | rfl | (simp; done) | (simp [*]; done)), H', ⟨Nat.le_refl _⟩, by repeat (first | exact Drawn0.refl _ | apply Drawn0.step)⟩
  case round =>
    clear H'
    obtain ⟨x3_1, x4_1, rfl, rfl, HA, HK1, ⟨m1, rfl⟩⟩ := hrel
    cases gk with
    | zero => exact absurd HA.out (by simp [capnpref11_Pointers.l0])
    | succ k1 =>
      have H := HA.out
      clear HA
      simp only [capnpref11_Pointers.l0] at H
      by_cases c2 : x4_1 < (l0.length : Int)
      · rw [if_pos c2] at H
        have c2b0 : decide (x4_1 < (l0.length : Int)) = true := decide_eq_true c2
        clear c2
        by_cases c3 : 0 ≤ x4_1
        · rw [if_pos c3] at H
          have c3b0 : decide (0 ≤ x4_1) = true := decide_eq_true c3
          clear c3
          by_cases c4 : ((rd_T37 l0 x4_1).f0) = 0
          · rw [if_pos c4] at H
            have c4b0 : (((rd_T37 l0 x4_1).f0) == 0) = true := beq_iff_eq.mpr c4
            have c4b1 : (((rd_T37 l0 x4_1).f0) != 0) = false := bne_eq_false_iff_eq.mpr c4
            clear c4
            have H' := Aside0.mk H
            clear H
            have p232 : 0 ≤ (x4_1 : Int) := of_decide_eq_true (by first | (with_reducible assumption) | assumption)
            have q232 : x4_1 < (l0.length : Int) := of_decide_eq_true (by first | (with_reducible assumption) | assumption)
            obtain ⟨ad232, A232_3, c232_3, A232_4, c232_4, e232, hx232_0, hx232_1, hx232_2, hx232_3, hx232_4, hl232_3, hi232_3, hl232_4, hi232_4⟩ := at_T37 HR0.out x4_1 p232 q232
            cases e232
            have HR232_3 := Aside0.mk hi232_3
            have HC232_3 := Aside0.mk hl232_3
            clear hi232_3 hl232_3
            have HR232_4 := Aside0.mk hi232_4
            have HC232_4 := Aside0.mk hl232_4
            clear hi232_4 hl232_4
            replace p232 := eq_true p232
            replace q232 := eq_true q232
            go_wp2
            go_roundg k1
            case measure => have := HK1.out; omega
            case rel => exact ⟨(x3_1), (wrap64 (x4_1 + 1)), (by first | rfl | (simp; done) | (simp [*]; done)), (by first | rfl | (simp; done) | (simp [*]; done)), H', ⟨by have := HK1.out; omega⟩, by repeat (first | exact Drawn0.refl _ | apply Drawn0.step)⟩
          · rw [if_neg c4] at H
            have c4b0 : (((rd_T37 l0 x4_1).f0) == 0) = false := beq_eq_false_iff_ne.mpr c4
            have c4b1 : (((rd_T37 l0 x4_1).f0) != 0) = true := bne_iff_ne.mpr c4
            have H' := Aside0.mk H
            clear H
            have p232 : 0 ≤ (x4_1 : Int) := of_decide_eq_true (by first | (with_reducible assumption) | assumption)
            have q232 : x4_1 < (l0.length : Int) := of_decide_eq_true (by first | (with_reducible assumption) | assumption)
            obtain ⟨ad232, A232_3, c232_3, A232_4, c232_4, e232, hx232_0, hx232_1, hx232_2, hx232_3, hx232_4, hl232_3, hi232_3, hl232_4, hi232_4⟩ := at_T37 HR0.out x4_1 p232 q232
            cases e232
            have HR232_3 := Aside0.mk hi232_3
            have HC232_3 := Aside0.mk hl232_3
            clear hi232_3 hl232_3
            have HR232_4 := Aside0.mk hi232_4
            have HC232_4 := Aside0.mk hl232_4
            clear hi232_4 hl232_4
            replace p232 := eq_true p232
            replace q232 := eq_true q232
            go_wp2
            go_roundg k1
            case measure => have := HK1.out; omega
            case rel => exact ⟨(wrap64 (x4_1 + 1)), (wrap64 (x4_1 + 1)), (by first | rfl | (simp; done) | (simp [*]; done)), (by first | rfl | (simp; done) | (simp [*]; done)), H', ⟨by have := HK1.out; omega⟩, by repeat (first | exact Drawn0.refl _ | apply Drawn0.step)⟩
        · rw [if_neg c3] at H
          exact absurd H (by simp)
      · rw [if_neg c2] at H
        have c2b0 : decide (x4_1 < (l0.length : Int)) = false := decide_eq_false c2
        clear c2
        obtain rfl := Option.some.inj H
        go_wp2
        go_ret
        exact ⟨by first | rfl | (simp; done) | (simp [*]; done), by repeat (first | exact Drawn0.refl _ | apply Drawn0.step)⟩
mutual
def capnpref11_Trim.j0 : Nat → Int → Int → Int → Int → Int → List Int → List (S37) → Option (Int × Int × Int × List Int × (List (S37)))
  | 0, _, _, _, _, _, _, _ => none
  | k + 1, x3, x4, x234000, x234001, x234002, x234003, x234004 => capnpref11_Trim.l0 k x3 x4 0 x234000 x234001 x234002 x234003 x234004 x234000 x234001 x234002 ([] : List Int)
def capnpref11_Trim.l0 : Nat → Int → Int → Int → Int → Int → Int → List Int → List (S37) → Int → Int → Int → List Int → Option (Int × Int × Int × List Int × (List (S37)))
  | 0, _, _, _, _, _, _, _, _, _, _, _, _ => none
  | k + 1, x3, x4, x6, x234000, x234001, x234002, x234003, x234004, x238000, x238001, x238002, x238003 => if x6 < x3 then (if 0 ≤ x6 then (if x6 < (x234003.length : Int) then (if x238003.length < 140737488355328 then (capnpref11_Trim.l0 k x3 x4 (wrap64 (x6 + 1)) x234000 x234001 x234002 x234003 x234004 x238000 x238001 x238002 (x238003 ++ [Go.Proofs.YtidglmocekghmaaDoorW.PrintWords.rd x234003 x6])) else (none)) else (none)) else (none)) else (capnpref11_Trim.l1 k x4 0 x234000 x234001 x234002 x234003 x234004 x238000 x238001 x238002 x238003 ([] : List (S37)))
def capnpref11_Trim.l1 : Nat → Int → Int → Int → Int → Int → List Int → List (S37) → Int → Int → Int → List Int → List (S37) → Option (Int × Int × Int × List Int × (List (S37)))
  | 0, _, _, _, _, _, _, _, _, _, _, _, _ => none
  | k + 1, x4, x7, x234000, x234001, x234002, x234003, x234004, x238000, x238001, x238002, x238003, x238004 => if x7 < x4 then (if 0 ≤ x7 then (if x7 < (x234004.length : Int) then ((capnpref11_Trim.f k ((rd_T37 x234004 x7).f0) ((rd_T37 x234004 x7).f1) ((rd_T37 x234004 x7).f2) ((rd_T37 x234004 x7).f3) ((rd_T37 x234004 x7).f4)).bind fun bt243 => (if x238004.length < 1954687338268 then (capnpref11_Trim.l1 k x4 (wrap64 (x7 + 1)) x234000 x234001 x234002 x234003 x234004 x238000 x238001 x238002 x238003 (x238004 ++ [(⟨bt243.1, bt243.2.1, bt243.2.2.1, bt243.2.2.2.1, bt243.2.2.2.2⟩ : S37)])) else (none))) else (none)) else (none)) else (some (x238000, x238001, x238002, x238003, x238004))
def capnpref11_Trim.f : Nat → Int → Int → Int → List Int → List (S37) → Option (Int × Int × Int × List Int × (List (S37)))
  | 0, _, _, _, _, _ => none
  | k + 1, a0_0, a0_1, a0_2, l0_3, l0_4 => if a0_0 = 1 then ((capnpref11_Words.f k l0_3).bind fun t235 => ((capnpref11_Pointers.f k l0_4).bind fun t236 => (capnpref11_Trim.j0 k (wrap64 (8 * t235)) t236 a0_0 a0_1 a0_2 l0_3 l0_4))) else (capnpref11_Trim.j0 k (l0_3.length : Int) (l0_4.length : Int) a0_0 a0_1 a0_2 l0_3 l0_4)
end
def capnpref11_Trim.T13 : Bool × List (List Nat × List Nat) := (true, [([], []), ([0], [0]), ([], []), ([2], [2]), ([], []), ([3, 4], [3, 4]), ([5], [5]), ([6], [6]), ([1, 7], [1, 7]), ([0, 1, 2, 3, 4, 5, 6, 7, 8], []), ([9, 8, 8, 0, 1, 2, 3, 4, 5, 6, 7, 8], [8, 9])])
def capnpref11_Trim.B13 : List Nat := [0, 1, 0, 4, 0, 28, 60, 124, 255, 511, 1023]
theorem capnpref11_Trim.tab13 : rtab .any (opsOf Tryd.f29 13) = capnpref11_Trim.T13 := by kernel_rfl
theorem capnpref11_Trim.bits13 : waitsOk capnpref11_Trim.T13.2 capnpref11_Trim.B13 = true := by kernel_rfl
def capnpref11_Trim.T17 : Bool × List (List Nat × List Nat) := (true, [([], []), ([0], [0]), ([], []), ([2], [2]), ([], []), ([3, 4], [3, 4]), ([5], [5]), ([6], [6]), ([7], [7]), ([1, 8, 7], [1, 8]), ([0, 1, 2, 3, 4, 5, 6, 7, 8, 9], []), ([10, 9, 9, 0, 1, 2, 3, 4, 5, 6, 7, 8, 9], [9, 10])])
def capnpref11_Trim.B17 : List Nat := [0, 1, 0, 4, 0, 28, 60, 124, 252, 511, 1023, 2047]
theorem capnpref11_Trim.tab17 : rtab .any (opsOf Tryd.f29 17) = capnpref11_Trim.T17 := by kernel_rfl
theorem capnpref11_Trim.bits17 : waitsOk capnpref11_Trim.T17.2 capnpref11_Trim.B17 = true := by kernel_rfl
set_option maxHeartbeats 8000000 in
set_option maxRecDepth 100000 in
theorem capnpref11_Trim.calls (k : Nat) : ∀ (a0_0 : Int) (a0_1 : Int) (a0_2 : Int) (A0_3 : Option Addr) (c0_3 : Nat) (l0_3 : List Int) (A0_4 : Option Addr) (c0_4 : Nat) (l0_4 : List (S37)) (r1 : Int) (r2 : Int) (r3 : Int) (r4 : List Int) (r5 : List (S37)) (w : World) (hr0_3 : Kd.C (Kd.int .u8) w A0_3 l0_3.length l0_3) (hc0_3 : l0_3.length ≤ c0_3) (hr0_4 : Kd.C k37 w A0_4 l0_4.length l0_4) (hc0_4 : l0_4.length ≤ c0_4) (h : capnpref11_Trim.f k a0_0 a0_1 a0_2 l0_3 l0_4 = some (r1, r2, r3, r4, r5)),
    Calls Tryd.prog 29 #[.agg #[.int .i64 a0_0, .int .i64 a0_1, .int .i64 a0_2, .slice A0_3 l0_3.length c0_3, .slice A0_4 l0_4.length c0_4]] w fun e w' => ∃ v3_ v4_ : Value, e = .returned (.agg #[.int .i64 r1, .int .i64 r2, .int .i64 r3, v3_, v4_]) ∧ Kd.R (Kd.int .u8) 5 w' w.heap.size (fun _ => True) v3_ r4 ∧ Kd.R k37 37 w' w.heap.size (fun k_ => some k_ ≠ (v3_ : Value).ownBlock) v4_ r5 ∧ Below w.heap.size w w' := by
  induction k using Nat.strongRecOn with
  | _ k ih =>
  intro a0_0 a0_1 a0_2 A0_3 c0_3 l0_3 A0_4 c0_4 l0_4 r1 r2 r3 r4 r5 w hr0_3 hc0_3 hr0_4 hc0_4 h
  cases k with
  | zero => exact absurd h (by simp [capnpref11_Trim.f])
  | succ k =>
  simp only [capnpref11_Trim.f] at h
  have hu37 := Tryd.underlying37
  have HR0_3 := Aside0.mk hr0_3
  have HC0_3 := Aside0.mk hc0_3
  clear hr0_3 hc0_3
  have HR0_4 := Aside0.mk hr0_4
  have HC0_4 := Aside0.mk hc0_4
  clear hr0_4 hc0_4
  have HB := Aside0.mk (Below.refl w.heap.size w)
  have H : (if a0_0 = 1 then ((capnpref11_Words.f k l0_3).bind fun t235 => ((capnpref11_Pointers.f k l0_4).bind fun t236 => (capnpref11_Trim.j0 k (wrap64 (8 * t235)) t236 a0_0 a0_1 a0_2 l0_3 l0_4))) else (capnpref11_Trim.j0 k (l0_3.length : Int) (l0_4.length : Int) a0_0 a0_1 a0_2 l0_3 l0_4)) = some (r1, r2, r3, r4, r5) := h
  clear h
  have HC2 := Aside0.mk H
  clear H
  go_enter Tryd.func29, Tryd.ntmps29
  go_upto_if 16 with (first | ((with_reducible refine gate_dst (N := 1) rfl ?_); refine box_event ?hg (N := 1) ?hd (cs := #[.int .i64 a0_0, .int .i64 a0_1, .int .i64 a0_2, .slice A0_3 l0_3.length c0_3, .slice A0_4 l0_4.length c0_4]) (t := 37) ?hr ?_; (case hd => rfl); (case hg => rfl); (case hr => first | (go_simp; done) | (go_simp; rfl)); intro gb233 hg w3 hbox hb; have n0_ := Aside0.mk (below_step (by repeat (first | (with_reducible first | exact HB.out | apply below_alloc | apply pw_below_drewN | apply below_drew1) | exact HB.out)) hb); have n1_ := Aside0.mk (hbox); have n2_ := Aside0.mk ((by rw [hg]; exact (below_size (by repeat (first | (with_reducible first | exact HB.out | apply below_alloc | apply pw_below_drewN | apply below_drew1) | exact HB.out))) : w.heap.size ≤ gb233)); have n3_ := Aside0.mk ((by rw [hg]; exact (below_size (by repeat (first | (with_reducible first | exact HB.out | apply below_alloc | apply pw_below_drewN | apply below_drew1) | exact HB.out))) : w.heap.size ≤ gb233)); clear HB; have HB := n0_; have BK233 := n1_; have GW233 := n2_; have GE233 := n3_; clear n0_ n1_ n2_ n3_; clear hb hbox hg) | ((with_reducible refine gate_dst (N := 2) rfl ?_); refine box_event ?hg (N := 2) ?hd (cs := #[.int .i64 0, .int .i64 0, .int .i64 0, .slice none 0 0, .slice none 0 0]) (t := 37) ?hr ?_; (case hd => rfl); (case hg => rfl); (case hr => first | (go_simp; done) | (go_simp; rfl)); intro gb234 hg w4 hbox hb; have n0_ := Aside0.mk (blk_below (g := gb233) (o := .cells #[.int .i64 a0_0, .int .i64 a0_1, .int .i64 a0_2, .slice A0_3 l0_3.length c0_3, .slice A0_4 l0_4.length c0_4] 37 (0, 0)) (by (with_reducible repeat (first | refine blk_drewN ?_ _ | refine blk_drew ?_ | refine blk_alloc ?_ _)); exact BK233.out) hb); have n1_ := Aside0.mk (below_step (by repeat (first | (with_reducible first | exact HB.out | apply below_alloc | apply pw_below_drewN | apply below_drew1 | refine below_set ?_ GE233.out) | exact HB.out)) hb); have n2_ := Aside0.mk (hbox); have n3_ := Aside0.mk ((by rw [hg]; exact (below_size (by repeat (first | (with_reducible first | exact HB.out | apply below_alloc | apply pw_below_drewN | apply below_drew1 | refine below_set ?_ GE233.out) | exact HB.out))) : w.heap.size ≤ gb234)); have n4_ := Aside0.mk ((by rw [hg]; exact (below_size (by repeat (first | (with_reducible first | exact HB.out | apply below_alloc | apply pw_below_drewN | apply below_drew1 | refine below_set ?_ GE233.out) | exact HB.out))) : w.heap.size ≤ gb234)); have n5_ := Aside0.mk ((by rw [hg]; exact Nat.ne_of_lt (blk_lt (g := gb233) (o := .cells #[.int .i64 a0_0, .int .i64 a0_1, .int .i64 a0_2, .slice A0_3 l0_3.length c0_3, .slice A0_4 l0_4.length c0_4] 37 (0, 0)) (by (with_reducible repeat (first | refine blk_drewN ?_ _ | refine blk_drew ?_ | refine blk_alloc ?_ _)); exact BK233.out)) : gb233 ≠ gb234)); have n6_ := Aside0.mk ((by rw [hg]; exact Nat.ne_of_gt (blk_lt (g := gb233) (o := .cells #[.int .i64 a0_0, .int .i64 a0_1, .int .i64 a0_2, .slice A0_3 l0_3.length c0_3, .slice A0_4 l0_4.length c0_4] 37 (0, 0)) (by (with_reducible repeat (first | refine blk_drewN ?_ _ | refine blk_drew ?_ | refine blk_alloc ?_ _)); exact BK233.out)) : gb234 ≠ gb233)); clear BK233; clear HB; have BK233 := n0_; have HB := n1_; have BK234 := n2_; have GW234 := n3_; have GE234 := n4_; have NB233_234 := n5_; have NB234_233 := n6_; clear n0_ n1_ n2_ n3_ n4_ n5_ n6_; clear hb hbox hg; have hnb5 := NB233_234.out; have hnc5 := NB234_233.out; have hcz6_0 : w4.cell? ⟨gb233, 0, none⟩ = some (.int .i64 a0_0) := (blk_cell BK233.out 0).trans rfl; have hcz6_1 : w4.cell? ⟨gb233, 1, none⟩ = some (.int .i64 a0_1) := (blk_cell BK233.out 1).trans rfl; have hcz6_2 : w4.cell? ⟨gb233, 2, none⟩ = some (.int .i64 a0_2) := (blk_cell BK233.out 2).trans rfl; have hcz6_3 : w4.cell? ⟨gb233, 3, none⟩ = some (.slice A0_3 l0_3.length c0_3) := (blk_cell BK233.out 3).trans rfl; have hcz6_4 : w4.cell? ⟨gb233, 4, none⟩ = some (.slice A0_4 l0_4.length c0_4) := (blk_cell BK233.out 4).trans rfl; have hfz6_0 := blk_frozen BK233.out 0; have hfz6_1 := blk_frozen BK233.out 1; have hfz6_2 := blk_frozen BK233.out 2; have hfz6_3 := blk_frozen BK233.out 3; have hfz6_4 := blk_frozen BK233.out 4))
  (try simp only [Act.put, List.setIfInBounds_toArray, List.set_cons_zero, List.set_cons_succ])
  go_cut [3, 4] (fun v3 v4 wc => ∃ (kq : Nat) (x3_1 : Int) (x4_1 : Int), v3 = .int .i64 x3_1 ∧ v4 = .int .i64 x4_1 ∧ Aside0 (capnpref11_Trim.j0 kq x3_1 x4_1 a0_0 a0_1 a0_2 l0_3 l0_4 = some (r1, r2, r3, r4, r5)) ∧ Aside0 (kq ≤ k) ∧ Aside0 (wc.heap[gb233]? = some (.cells #[.int .i64 a0_0, .int .i64 a0_1, .int .i64 a0_2, (.slice A0_3 l0_3.length c0_3), (.slice A0_4 l0_4.length c0_4)] 37 (0, 0))) ∧ Aside0 (wc.heap[gb234]? = some (.cells #[.int .i64 0, .int .i64 0, .int .i64 0, (.slice none 0 0), (.slice none 0 0)] 37 (0, 0))) ∧ Aside0 (Below w.heap.size w wc))
  case first =>
    have H := HC2.out
    clear HC2
    by_cases c7 : a0_0 = 1
    · rw [if_pos c7] at H
      have c7b0 : (a0_0 == 1) = true := beq_iff_eq.mpr c7
      have c7b1 : (a0_0 != 1) = false := bne_eq_false_iff_eq.mpr c7
      clear c7
      (first | rw [c7b0] | (simp only [i64_w, i32_w]; rw [c7b0]) | skip)
      replace H := Option.bind_eq_some_iff.mp H
      obtain ⟨t235, A80, H⟩ := H
      replace H : ((capnpref11_Pointers.f k l0_4).bind fun t236 => (capnpref11_Trim.j0 k (wrap64 (8 * t235)) t236 a0_0 a0_1 a0_2 l0_3 l0_4)) = some (r1, r2, r3, r4, r5) := H
      have A8 := Aside0.mk A80
      clear A80
      replace H := Option.bind_eq_some_iff.mp H
      obtain ⟨t236, A90, H⟩ := H
      replace H : (capnpref11_Trim.j0 k (wrap64 (8 * t235)) t236 a0_0 a0_1 a0_2 l0_3 l0_4) = some (r1, r2, r3, r4, r5) := H
      have A9 := Aside0.mk A90
      clear A90
      have H' := Aside0.mk H
      clear H
      have hnb10 := NB233_234.out
      have hnc10 := NB234_233.out
      have hcz11_0 : w4.cell? ⟨gb233, 0, none⟩ = some (.int .i64 a0_0) := (blk_cell BK233.out 0).trans rfl
      have hcz11_1 : w4.cell? ⟨gb233, 1, none⟩ = some (.int .i64 a0_1) := (blk_cell BK233.out 1).trans rfl
      have hcz11_2 : w4.cell? ⟨gb233, 2, none⟩ = some (.int .i64 a0_2) := (blk_cell BK233.out 2).trans rfl
      have hcz11_3 : w4.cell? ⟨gb233, 3, none⟩ = some (.slice A0_3 l0_3.length c0_3) := (blk_cell BK233.out 3).trans rfl
      have hcz11_4 : w4.cell? ⟨gb233, 4, none⟩ = some (.slice A0_4 l0_4.length c0_4) := (blk_cell BK233.out 4).trans rfl
      have hfz11_0 := blk_frozen BK233.out 0
      have hfz11_1 := blk_frozen BK233.out 1
      have hfz11_2 := blk_frozen BK233.out 2
      have hfz11_3 := blk_frozen BK233.out 3
      have hfz11_4 := blk_frozen BK233.out 4
      go_wp2_with (first | ((with_reducible refine gate_callee (f := 46) rfl ?_); refine goesL_ (some 19) rfl rfl Tryd.func46 (by kernel_rfl) rfl #[.slice A0_3 l0_3.length c0_3] rfl (by (try simp only [List.map_toArray, List.map_cons, List.map_nil]); first | done | rfl | (simp only [List.length_drop, List.length_take]; rfl)) ?_; (with_reducible refine (capnpref11_Words.calls k _ _ l0_3 t235 _ ?side1 ?side2 A8.out).mono ?_); (case side1 => repeat (first | exact (Kd.C_below HR0_3.out HB.out) | (with_reducible refine Kd.C_alloc ?_ _) | (with_reducible refine Kd.C_drewN ?_ _) | (with_reducible refine Kd.C_drew ?_))); (case side2 => exact HC0_3.out); rintro e w' ⟨rfl, ⟨nd, rfl⟩⟩; refine ⟨_, rfl, ?_⟩) | ((with_reducible refine gate_callee (f := 47) rfl ?_); refine goesL_ (some 23) rfl rfl Tryd.func47 (by kernel_rfl) rfl #[.slice A0_4 l0_4.length c0_4] rfl (by (try simp only [List.map_toArray, List.map_cons, List.map_nil]); first | done | rfl | (simp only [List.length_drop, List.length_take]; rfl)) ?_; (with_reducible refine (capnpref11_Pointers.calls k _ _ l0_4 t236 _ ?side1 ?side2 A9.out).mono ?_); (case side1 => repeat (first | exact (Kd.C_below HR0_4.out (by repeat (first | (with_reducible first | exact HB.out | apply below_alloc | apply pw_below_drewN | apply below_drew1 | refine below_set ?_ GE233.out | refine below_set ?_ GE234.out) | exact HB.out))) | (with_reducible refine Kd.C_alloc ?_ _) | (with_reducible refine Kd.C_drewN ?_ _) | (with_reducible refine Kd.C_drew ?_))); (case side2 => exact HC0_4.out); rintro e w' ⟨rfl, ⟨nd, rfl⟩⟩; refine ⟨_, rfl, ?_⟩))
      go_meet
      case rel => exact ⟨_, (wrap64 (8 * t235)), (t236), (by first | rfl | (simp; done) | (simp [*]; done)), (by first | rfl | (simp; done) | (simp [*]; done)), H', ⟨by first | omega | exact Nat.le_refl _⟩, ⟨by (with_reducible repeat (first | refine blk_drewN ?_ _ | refine blk_drew ?_ | refine blk_alloc ?_ _)); exact BK233.out⟩, ⟨by (with_reducible repeat (first | refine blk_drewN ?_ _ | refine blk_drew ?_ | refine blk_alloc ?_ _)); exact BK234.out⟩, ⟨by repeat (first | (with_reducible first | exact HB.out | apply below_alloc | apply pw_below_drewN | apply below_drew1 | refine below_set ?_ GE233.out | refine below_set ?_ GE234.out) | exact HB.out)⟩⟩
    · rw [if_neg c7] at H
      have c7b0 : (a0_0 == 1) = false := beq_eq_false_iff_ne.mpr c7
      have c7b1 : (a0_0 != 1) = true := bne_iff_ne.mpr c7
      (first | rw [c7b0] | (simp only [i64_w, i32_w]; rw [c7b0]) | skip)
      have H' := Aside0.mk H
      clear H
      go_wp2
      go_meet
      case rel => exact ⟨_, ((l0_3.length : Int)), ((l0_4.length : Int)), (by first | rfl | (simp; done) | (simp [*]; done)), (by first | rfl | (simp; done) | (simp [*]; done)), H', ⟨by first | omega | exact Nat.le_refl _⟩, ⟨by (with_reducible repeat (first | refine blk_drewN ?_ _ | refine blk_drew ?_ | refine blk_alloc ?_ _)); exact BK233.out⟩, ⟨by (with_reducible repeat (first | refine blk_drewN ?_ _ | refine blk_drew ?_ | refine blk_alloc ?_ _)); exact BK234.out⟩, ⟨by repeat (first | (with_reducible first | exact HB.out | apply below_alloc | apply pw_below_drewN | apply below_drew1 | refine below_set ?_ GE233.out | refine below_set ?_ GE234.out) | exact HB.out)⟩⟩
  case rest =>
    clear HC2
    try clear c1
    try clear c2
    try clear p2
    try clear c4
    try clear c5
    try clear p6
    try clear c7
    try clear c7b0
    try clear c7b1
    try clear c10
    try clear hcz11_0
    try clear hcz11_1
    try clear hcz11_2
    try clear hcz11_3
    try clear hcz11_4
    try clear hcz6_0
    try clear hcz6_1
    try clear hcz6_2
    try clear hcz6_3
    try clear hcz6_4
    try clear hfz11_0
    try clear hfz11_1
    try clear hfz11_2
    try clear hfz11_3
    try clear hfz11_4
    try clear hfz6_0
    try clear hfz6_1
    try clear hfz6_2
    try clear hfz6_3
    try clear hfz6_4
    obtain ⟨kq, x3_1, x4_1, rfl, rfl, HA, HJ1, BK233, BK234, HB⟩ := hcut
    cases kq with
    | zero => exact absurd HA.out (by simp [capnpref11_Trim.j0])
    | succ kj1 =>
      have H := HA.out
      clear HA
      simp only [capnpref11_Trim.j0] at H
      have H' := Aside0.mk H
      clear H
      go_wp2_with (first | ((with_reducible refine gate_dst (N := 5) rfl ?_); refine box_event ?hg (N := 5) ?hd (cs := #[.int .i64 0, .int .i64 0, .int .i64 0, .slice none 0 0, .slice none 0 0]) (t := 37) ?hr ?_; (case hd => rfl); (case hg => rfl); (case hr => first | (go_simp; done) | (go_simp; rfl)); intro gb237 hg w12 hbox hb; have n0_ := Aside0.mk (blk_below (g := gb233) (o := .cells #[.int .i64 a0_0, .int .i64 a0_1, .int .i64 a0_2, .slice A0_3 l0_3.length c0_3, .slice A0_4 l0_4.length c0_4] 37 (0, 0)) (by (with_reducible repeat (first | refine blk_drewN ?_ _ | refine blk_drew ?_ | refine blk_alloc ?_ _)); exact BK233.out) hb); have n1_ := Aside0.mk (blk_below (g := gb234) (o := .cells #[.int .i64 0, .int .i64 0, .int .i64 0, .slice none 0 0, .slice none 0 0] 37 (0, 0)) (by (with_reducible repeat (first | refine blk_drewN ?_ _ | refine blk_drew ?_ | refine blk_alloc ?_ _)); exact BK234.out) hb); have n2_ := Aside0.mk (below_step (by repeat (first | (with_reducible first | exact HB.out | apply below_alloc | apply pw_below_drewN | apply below_drew1 | refine below_set ?_ GE233.out | refine below_set ?_ GE234.out) | exact HB.out)) hb); have n3_ := Aside0.mk (hbox); have n4_ := Aside0.mk ((by rw [hg]; exact (below_size (by repeat (first | (with_reducible first | exact HB.out | apply below_alloc | apply pw_below_drewN | apply below_drew1 | refine below_set ?_ GE233.out | refine below_set ?_ GE234.out) | exact HB.out))) : w.heap.size ≤ gb237)); have n5_ := Aside0.mk ((by rw [hg]; exact (below_size (by repeat (first | (with_reducible first | exact HB.out | apply below_alloc | apply pw_below_drewN | apply below_drew1 | refine below_set ?_ GE233.out | refine below_set ?_ GE234.out) | exact HB.out))) : w.heap.size ≤ gb237)); have n6_ := Aside0.mk ((by rw [hg]; exact Nat.ne_of_lt (blk_lt (g := gb233) (o := .cells #[.int .i64 a0_0, .int .i64 a0_1, .int .i64 a0_2, .slice A0_3 l0_3.length c0_3, .slice A0_4 l0_4.length c0_4] 37 (0, 0)) (by (with_reducible repeat (first | refine blk_drewN ?_ _ | refine blk_drew ?_ | refine blk_alloc ?_ _)); exact BK233.out)) : gb233 ≠ gb237)); have n7_ := Aside0.mk ((by rw [hg]; exact Nat.ne_of_gt (blk_lt (g := gb233) (o := .cells #[.int .i64 a0_0, .int .i64 a0_1, .int .i64 a0_2, .slice A0_3 l0_3.length c0_3, .slice A0_4 l0_4.length c0_4] 37 (0, 0)) (by (with_reducible repeat (first | refine blk_drewN ?_ _ | refine blk_drew ?_ | refine blk_alloc ?_ _)); exact BK233.out)) : gb237 ≠ gb233)); have n8_ := Aside0.mk ((by rw [hg]; exact Nat.ne_of_lt (blk_lt (g := gb234) (o := .cells #[.int .i64 0, .int .i64 0, .int .i64 0, .slice none 0 0, .slice none 0 0] 37 (0, 0)) (by (with_reducible repeat (first | refine blk_drewN ?_ _ | refine blk_drew ?_ | refine blk_alloc ?_ _)); exact BK234.out)) : gb234 ≠ gb237)); have n9_ := Aside0.mk ((by rw [hg]; exact Nat.ne_of_gt (blk_lt (g := gb234) (o := .cells #[.int .i64 0, .int .i64 0, .int .i64 0, .slice none 0 0, .slice none 0 0] 37 (0, 0)) (by (with_reducible repeat (first | refine blk_drewN ?_ _ | refine blk_drew ?_ | refine blk_alloc ?_ _)); exact BK234.out)) : gb237 ≠ gb234)); clear BK233; clear BK234; clear HB; have BK233 := n0_; have BK234 := n1_; have HB := n2_; have BK237 := n3_; have GW237 := n4_; have GE237 := n5_; have NB233_237 := n6_; have NB237_233 := n7_; have NB234_237 := n8_; have NB237_234 := n9_; clear n0_ n1_ n2_ n3_ n4_ n5_ n6_ n7_ n8_ n9_; clear hb hbox hg; have hnb13 := NB233_234.out; have hnc13 := NB234_233.out; have hnb14 := NB233_237.out; have hnc14 := NB237_233.out; have hcz15_0 : w12.cell? ⟨gb233, 0, none⟩ = some (.int .i64 a0_0) := (blk_cell BK233.out 0).trans rfl; have hcz15_1 : w12.cell? ⟨gb233, 1, none⟩ = some (.int .i64 a0_1) := (blk_cell BK233.out 1).trans rfl; have hcz15_2 : w12.cell? ⟨gb233, 2, none⟩ = some (.int .i64 a0_2) := (blk_cell BK233.out 2).trans rfl; have hcz15_3 : w12.cell? ⟨gb233, 3, none⟩ = some (.slice A0_3 l0_3.length c0_3) := (blk_cell BK233.out 3).trans rfl; have hcz15_4 : w12.cell? ⟨gb233, 4, none⟩ = some (.slice A0_4 l0_4.length c0_4) := (blk_cell BK233.out 4).trans rfl; have hfz15_0 := blk_frozen BK233.out 0; have hfz15_1 := blk_frozen BK233.out 1; have hfz15_2 := blk_frozen BK233.out 2; have hfz15_3 := blk_frozen BK233.out 3; have hfz15_4 := blk_frozen BK233.out 4; have hnb16 := NB237_234.out; have hnc16 := NB234_237.out; have hcz17_0 : w12.cell? ⟨gb237, 0, none⟩ = some (.int .i64 0) := (blk_cell BK237.out 0).trans rfl; have hcz17_1 : w12.cell? ⟨gb237, 1, none⟩ = some (.int .i64 0) := (blk_cell BK237.out 1).trans rfl; have hcz17_2 : w12.cell? ⟨gb237, 2, none⟩ = some (.int .i64 0) := (blk_cell BK237.out 2).trans rfl; have hcz17_3 : w12.cell? ⟨gb237, 3, none⟩ = some (.slice none 0 0) := (blk_cell BK237.out 3).trans rfl; have hcz17_4 : w12.cell? ⟨gb237, 4, none⟩ = some (.slice none 0 0) := (blk_cell BK237.out 4).trans rfl; have hfz17_0 := blk_frozen BK237.out 0; have hfz17_1 := blk_frozen BK237.out 1; have hfz17_2 := blk_frozen BK237.out 2; have hfz17_3 := blk_frozen BK237.out 3; have hfz17_4 := blk_frozen BK237.out 4))
      go_loopg [6] kj1 (fun kq v6 w' => ∃ (x6_2 : Int) (x238003_2 : List Int) (u238003 : Value), v6 = .int .i64 x6_2 ∧ Aside0 (capnpref11_Trim.l0 kq x3_1 x4_1 x6_2 a0_0 a0_1 a0_2 l0_3 l0_4 a0_0 a0_1 a0_2 x238003_2 = some (r1, r2, r3, r4, r5)) ∧ Aside0 (kq ≤ kj1) ∧ Aside0 (Kd.R (Kd.int .u8) 5 w' w.heap.size (fun _ => True) u238003 x238003_2) ∧ Aside0 (w'.heap[gb233]? = some (.cells #[.int .i64 a0_0, .int .i64 a0_1, .int .i64 a0_2, (.slice A0_3 l0_3.length c0_3), (.slice A0_4 l0_4.length c0_4)] 37 (0, 0))) ∧ Aside0 (w'.heap[gb234]? = some (.cells #[.int .i64 0, .int .i64 0, .int .i64 0, (.slice none 0 0), (.slice none 0 0)] 37 (0, 0))) ∧ Aside0 (w'.heap[gb237]? = some (.cells #[.int .i64 a0_0, .int .i64 a0_1, .int .i64 a0_2, u238003, (.slice none 0 0)] 37 (0, 0))) ∧ Aside0 (Below w.heap.size w w'))
      case atStart => exact ⟨(0), (([] : List Int)), (.slice none 0 0), (by first | rfl | (simp; done) | (simp [*]; done)), H', ⟨Nat.le_refl _⟩, ⟨by first | exact Kd.R_nil _ _ _ _ _ | exact Kd.N_nil _ _ _ _ _ | exact Kd.V_nil _ _ _ _ _ | exact Kd.Q_nil _ _ _ _ _ | exact Kd.S_nil _ _ _ _ _⟩, ⟨by (with_reducible repeat (first | refine blk_drewN ?_ _ | refine blk_drew ?_ | refine blk_alloc ?_ _)); refine blk_far ?_ NB233_237.out _; (with_reducible repeat (first | refine blk_drewN ?_ _ | refine blk_drew ?_ | refine blk_alloc ?_ _)); refine blk_far ?_ NB233_237.out _; (with_reducible repeat (first | refine blk_drewN ?_ _ | refine blk_drew ?_ | refine blk_alloc ?_ _)); refine blk_far ?_ NB233_237.out _; (with_reducible repeat (first | refine blk_drewN ?_ _ | refine blk_drew ?_ | refine blk_alloc ?_ _)); exact BK233.out⟩, ⟨by (with_reducible repeat (first | refine blk_drewN ?_ _ | refine blk_drew ?_ | refine blk_alloc ?_ _)); refine blk_far ?_ NB234_237.out _; (with_reducible repeat (first | refine blk_drewN ?_ _ | refine blk_drew ?_ | refine blk_alloc ?_ _)); refine blk_far ?_ NB234_237.out _; (with_reducible repeat (first | refine blk_drewN ?_ _ | refine blk_drew ?_ | refine blk_alloc ?_ _)); refine blk_far ?_ NB234_237.out _; (with_reducible repeat (first | refine blk_drewN ?_ _ | refine blk_drew ?_ | refine blk_alloc ?_ _)); exact BK234.out⟩, ⟨by (with_reducible repeat (first | refine blk_drewN ?_ _ | refine blk_drew ?_ | refine blk_alloc ?_ _)); refine blk_put (cs := #[.int .i64 a0_0, .int .i64 a0_1, .int .i64 0, .slice none 0 0, .slice none 0 0]) ?_ 2 _ rfl; (with_reducible repeat (first | refine blk_drewN ?_ _ | refine blk_drew ?_ | refine blk_alloc ?_ _)); refine blk_put (cs := #[.int .i64 a0_0, .int .i64 0, .int .i64 0, .slice none 0 0, .slice none 0 0]) ?_ 1 _ rfl; (with_reducible repeat (first | refine blk_drewN ?_ _ | refine blk_drew ?_ | refine blk_alloc ?_ _)); refine blk_put (cs := #[.int .i64 0, .int .i64 0, .int .i64 0, .slice none 0 0, .slice none 0 0]) ?_ 0 _ rfl; (with_reducible repeat (first | refine blk_drewN ?_ _ | refine blk_drew ?_ | refine blk_alloc ?_ _)); exact BK237.out⟩, ⟨by repeat (first | (with_reducible first | exact HB.out | apply below_alloc | apply pw_below_drewN | apply below_drew1 | refine below_set ?_ GE233.out | refine below_set ?_ GE234.out | refine below_set ?_ GE237.out) | exact HB.out)⟩⟩
      case round =>
        clear H'
        try clear c1
        try clear c2
        try clear p2
        try clear c4
        try clear c5
        try clear p6
        try clear c7
        try clear c7b0
        try clear c7b1
        try clear c10
        try clear c13
        try clear c14
        try clear c16
        try clear hcz11_0
        try clear hcz11_1
        try clear hcz11_2
        try clear hcz11_3
        try clear hcz11_4
        try clear hcz15_0
        try clear hcz15_1
        try clear hcz15_2
        try clear hcz15_3
        try clear hcz15_4
        try clear hcz17_0
        try clear hcz17_1
        try clear hcz17_2
        try clear hcz17_3
        try clear hcz17_4
        try clear hcz6_0
        try clear hcz6_1
        try clear hcz6_2
        try clear hcz6_3
        try clear hcz6_4
        try clear hfz11_0
        try clear hfz11_1
        try clear hfz11_2
        try clear hfz11_3
        try clear hfz11_4
        try clear hfz15_0
        try clear hfz15_1
        try clear hfz15_2
        try clear hfz15_3
        try clear hfz15_4
        try clear hfz17_0
        try clear hfz17_1
        try clear hfz17_2
        try clear hfz17_3
        try clear hfz17_4
        try clear hfz6_0
        try clear hfz6_1
        try clear hfz6_2
        try clear hfz6_3
        try clear hfz6_4
        try clear p2
        try clear p6
        try clear BK233
        try clear BK234
        try clear BK237
        obtain ⟨x6_2, x238003_2, u238003, rfl, HA, HK2, HO_238003, BK233, BK234, BK237, HB⟩ := hrel
        cases gk with
        | zero => exact absurd HA.out (by simp [capnpref11_Trim.l0])
        | succ k2 =>
          have H := HA.out
          clear HA
          simp only [capnpref11_Trim.l0] at H
          by_cases c18 : x6_2 < x3_1
          · rw [if_pos c18] at H
            have c18b0 : decide (x6_2 < x3_1) = true := decide_eq_true c18
            clear c18
            by_cases c19 : 0 ≤ x6_2
            · rw [if_pos c19] at H
              have c19b0 : decide (0 ≤ x6_2) = true := decide_eq_true c19
              clear c19
              by_cases c20 : x6_2 < (l0_3.length : Int)
              · rw [if_pos c20] at H
                have c20b0 : decide (x6_2 < (l0_3.length : Int)) = true := decide_eq_true c20
                clear c20
                by_cases c21 : x238003_2.length < 140737488355328
                · rw [if_pos c21] at H
                  have LMc21 := Aside0.mk c21
                  clear c21
                  obtain ⟨y239, hy239⟩ : ∃ y_ : List Int, y_ = (x238003_2 ++ [Go.Proofs.YtidglmocekghmaaDoorW.PrintWords.rd l0_3 x6_2]) := ⟨_, rfl⟩
                  replace H : (capnpref11_Trim.l0 k2 x3_1 x4_1 (wrap64 (x6_2 + 1)) a0_0 a0_1 a0_2 l0_3 l0_4 a0_0 a0_1 a0_2 y239) = some (r1, r2, r3, r4, r5) := by first | (rw [hy239]; with_reducible exact H) | (have H2_ := (Option.bind_some _ _).symm.trans H; rw [hy239]; with_reducible exact H2_) | (have H2_ := (Option.bind_some _ _).symm.trans H; with_reducible exact H2_) | with_reducible exact H | (rw [hy239]; exact H) | exact H
                  have Ny239 := Aside0.mk hy239
                  clear hy239
                  have H' := Aside0.mk H
                  clear H
                  try go_wp2
                  have n0_ := Aside0.mk (Kd.R_drew HO_238003.out)
                  have n1_ := Aside0.mk (blk_drew BK233.out)
                  have n2_ := Aside0.mk (blk_drew BK234.out)
                  have n3_ := Aside0.mk (blk_drew BK237.out)
                  have n4_ := Aside0.mk (below_drew1 HB.out)
                  clear HO_238003
                  clear BK233
                  clear BK234
                  clear BK237
                  clear HB
                  have HO_238003 := n0_
                  have BK233 := n1_
                  have BK234 := n2_
                  have BK237 := n3_
                  have HB := n4_
                  clear n0_ n1_ n2_ n3_ n4_
                  have p238 : 0 ≤ (x6_2 : Int) := of_decide_eq_true (by first | (with_reducible assumption) | assumption)
                  have q238 : x6_2 < (l0_3.length : Int) := of_decide_eq_true (by first | (with_reducible assumption) | assumption)
                  obtain ⟨ad238, e238, hx238_0⟩ := Kd.at_int HR0_3.out x6_2 p238 q238
                  have hw238_0 := hx238_0
                  cases e238
                  replace hx238_0 := (HB.out.cell (World.block_lt_of_cell? w _ hx238_0)).trans hx238_0
                  replace p238 := eq_true p238
                  replace q238 := eq_true q238
                  refine start_ (n := 11) (S := fun w' => w'.cell? ⟨gb237, 0, none⟩ = some (.int .i64 a0_0) ∧ w'.cell? ⟨gb237, 1, none⟩ = some (.int .i64 a0_1) ∧ w'.cell? ⟨gb237, 2, none⟩ = some (.int .i64 a0_2) ∧ w'.cell? ⟨gb237, 3, none⟩ = some (u238003) ∧ w'.cell? ⟨gb237, 4, none⟩ = some (.slice none 0 0) ∧ w'.cell? ⟨gb233, 0, none⟩ = some (.int .i64 a0_0) ∧ w'.cell? ⟨gb233, 1, none⟩ = some (.int .i64 a0_1) ∧ w'.cell? ⟨gb233, 2, none⟩ = some (.int .i64 a0_2) ∧ w'.cell? ⟨gb233, 3, none⟩ = some (.slice (some ad238) l0_3.length c0_3) ∧ w'.cell? ⟨gb233, 4, none⟩ = some (.slice A0_4 l0_4.length c0_4) ∧ w'.cell? (ad238.add (x6_2).toNat) = some (.int .u8 (Go.Proofs.YtidglmocekghmaaDoorW.PrintWords.rd l0_3 x6_2))) (ds := [10]) #[false, false, false, false, false, false, false, false, false, false, false] (by kernel_rfl) rfl rfl ⟨(blk_cell BK237.out 0).trans rfl, (blk_cell BK237.out 1).trans rfl, (blk_cell BK237.out 2).trans rfl, (blk_cell BK237.out 3).trans rfl, (blk_cell BK237.out 4).trans rfl, (blk_cell BK233.out 0).trans rfl, (blk_cell BK233.out 1).trans rfl, (blk_cell BK233.out 2).trans rfl, (blk_cell BK233.out 3).trans rfl, (blk_cell BK233.out 4).trans rfl, ((HB.out.cell (World.block_lt_of_cell? w _ hw238_0)).trans hw238_0)⟩ (fun hHeld => ?_); refine with_tabW capnpref11_Trim.tab13 capnpref11_Trim.bits13 (fun HT_ HW_ => ?_)
                  generalize wr.drew = w22 at HO_238003 BK233 BK234 BK237 HB hx238_0 hHeld ⊢
                  refine pure_ (i := 0) (N := some 38) (v := ?_) (a' := ?_) #[true, false, false, false, false, false, false, false, false, false, false] rfl rfl (any_of HT_.out (by kernel_rfl)) (fun _ _ _ h => h) (Or.inl ⟨by rfl, ?_⟩) ?_ ?_
                  rotate_left
                  · intro w'
                    go_simp
                    with_reducible rfl
                  rotate_left
                  · simp only [Act.put, List.setIfInBounds_toArray, List.set_cons_zero, List.set_cons_succ, i64_w, i32_w]
                    rfl
                  refine pure_ (i := 2) (N := some 40) (v := ?_) (a' := ?_) #[true, false, true, false, false, false, false, false, false, false, false] rfl rfl (any_of HT_.out (by kernel_rfl)) (fun _ _ _ h => h) (Or.inl ⟨by rfl, ?_⟩) ?_ ?_
                  rotate_left
                  · intro w'
                    go_simp
                    with_reducible rfl
                  rotate_left
                  · simp only [Act.put, List.setIfInBounds_toArray, List.set_cons_zero, List.set_cons_succ, i64_w, i32_w]
                    rfl
                  refine pure_ (i := 4) (N := some 42) (v := ?_) (a' := ?_) #[true, false, true, false, true, false, false, false, false, false, false] rfl rfl (any_of HT_.out (by kernel_rfl)) (fun _ _ _ h => h) (Or.inl ⟨by rfl, ?_⟩) ?_ ?_
                  rotate_left
                  · intro w'
                    go_simp
                    with_reducible rfl
                  rotate_left
                  · simp only [Act.put, List.setIfInBounds_toArray, List.set_cons_zero, List.set_cons_succ, i64_w, i32_w]
                    rfl
                  refine take_ (i := 1) (N := some 39) (v := ?_) (a' := ?_) #[true, true, true, false, true, false, false, false, false, false, false] rfl rfl (take_ofW HT_.out HW_.out (by kernel_rfl)) (fun _ _ _ h => h) (Or.inl ⟨by rfl, ?_⟩) hHeld ?_ ?_
                  rotate_left
                  · rintro w' ⟨s0, s1, s2, s3, s4, s5, s6, s7, s8, s9, s10⟩
                    go_simp
                    with_reducible rfl
                  rotate_left
                  · simp only [Act.put, List.setIfInBounds_toArray, List.set_cons_zero, List.set_cons_succ, i64_w, i32_w]
                    rfl
                  refine take_ (i := 3) (N := some 41) (v := ?_) (a' := ?_) #[true, true, true, true, true, false, false, false, false, false, false] rfl rfl (take_ofW HT_.out HW_.out (by kernel_rfl)) (fun _ _ _ h => h) (Or.inl ⟨by rfl, ?_⟩) hHeld ?_ ?_
                  rotate_left
                  · rintro w' ⟨s0, s1, s2, s3, s4, s5, s6, s7, s8, s9, s10⟩
                    go_simp
                    with_reducible rfl
                  rotate_left
                  · simp only [Act.put, List.setIfInBounds_toArray, List.set_cons_zero, List.set_cons_succ, i64_w, i32_w]
                    rfl
                  refine pure_ (i := 5) (N := some 43) (v := ?_) (a' := ?_) #[true, true, true, true, true, true, false, false, false, false, false] rfl rfl (any_of HT_.out (by kernel_rfl)) (fun _ _ _ h => h) (Or.inl ⟨by rfl, ?_⟩) ?_ ?_
                  rotate_left
                  · intro w'
                    go_simp
                    with_reducible rfl
                  rotate_left
                  · simp only [Act.put, List.setIfInBounds_toArray, List.set_cons_zero, List.set_cons_succ, i64_w, i32_w]
                    rfl
                  refine take_ (i := 6) (N := some 44) (v := ?_) (a' := ?_) #[true, true, true, true, true, true, true, false, false, false, false] rfl rfl (take_ofW HT_.out HW_.out (by kernel_rfl)) (fun _ _ _ h => h) (Or.inl ⟨by rfl, ?_⟩) hHeld ?_ ?_
                  rotate_left
                  · rintro w' ⟨s0, s1, s2, s3, s4, s5, s6, s7, s8, s9, s10⟩
                    go_simp
                    with_reducible rfl
                  rotate_left
                  · simp only [Act.put, List.setIfInBounds_toArray, List.set_cons_zero, List.set_cons_succ, i64_w, i32_w]
                    rfl
                  refine one_ (i := 7) (N := some 45) #[true, true, true, true, true, true, true, true, false, false, false] rfl rfl (one_of HT_.out (by kernel_rfl)) (by decide) (fun K hK => ?_)
                  refine value_ (w1 := ?_) (v := ?_) (by rfl) rfl ?_ ?_
                  rotate_left 2
                  · go_simp
                    constructor
                    · rfl
                    · rfl
                  refine hK.out _ _ ⟨(blk_cell (blk_alloc BK237.out _) 0).trans rfl, (blk_cell (blk_alloc BK237.out _) 1).trans rfl, (blk_cell (blk_alloc BK237.out _) 2).trans rfl, (blk_cell (blk_alloc BK237.out _) 3).trans rfl, (blk_cell (blk_alloc BK237.out _) 4).trans rfl, (blk_cell (blk_alloc BK233.out _) 0).trans rfl, (blk_cell (blk_alloc BK233.out _) 1).trans rfl, (blk_cell (blk_alloc BK233.out _) 2).trans rfl, (blk_cell (blk_alloc BK233.out _) 3).trans rfl, (blk_cell (blk_alloc BK233.out _) 4).trans rfl, (World.cell?_alloc_lt _ _ _ (World.block_lt_of_cell? _ _ (((HB.out.cell (World.block_lt_of_cell? w _ hw238_0)).trans hw238_0)))).trans (((HB.out.cell (World.block_lt_of_cell? w _ hw238_0)).trans hw238_0))⟩ (fun hHeld => ?_)
                  clear hK K
                  refine norm_ (a' := ?_) ?_ ?_
                  rotate_left
                  · show Act.put _ (some 45) _ = _
                    simp only [Act.put, List.setIfInBounds_toArray, List.set_cons_zero, List.set_cons_succ, i64_w, i32_w]
                    rfl
                  refine one_ (i := 8) (N := some 46) #[true, true, true, true, true, true, true, true, true, false, false] rfl rfl (one_of HT_.out (by kernel_rfl)) (by decide) (fun K hK => ?_)
                  refine Kd.R_append_step (Kd.int .u8) (w0 := w) w.heap.size (by rfl) (.tmp 39) (.tmp 45) 34 5 (.int .u8 0) 1 rfl Tryd.underlying34 info5 rfl (by decide) (by omega) u238003 x238003_2 (Go.Proofs.YtidglmocekghmaaDoorW.PrintWords.rd l0_3 x6_2) [.int .u8 (Go.Proofs.YtidglmocekghmaaDoorW.PrintWords.rd l0_3 x6_2)] (fun _ => True) (fun _ => False) rfl rfl ?aP (fun _ hk => hk.elim) ?aF ?aO ?aB ?aS ?aL ?_
                  (case aP => exact rfl)
                  (case aB => exact (by repeat (first | (with_reducible first | exact HB.out | apply below_alloc | apply pw_below_drewN | apply below_drew1 | refine below_set ?_ GE233.out | refine below_set ?_ GE234.out | refine below_set ?_ GE237.out) | exact HB.out)))
                  (case aF => exact (fun _ _ => trivial))
                  (case aO => exact (by (with_reducible repeat (first | apply Kd.R_alloc | apply Kd.R_drewN | apply Kd.R_drew)); exact HO_238003.out))
                  (case aS => exact (below_size (by repeat (first | (with_reducible first | exact HB.out | apply below_alloc | apply pw_below_drewN | apply below_drew1 | refine below_set ?_ GE233.out | refine below_set ?_ GE234.out | refine below_set ?_ GE237.out) | exact HB.out))))
                  (case aL => have := LMc21.out; omega)
                  intro v240 w23 ho hb hg hat
                  rw [← Ny239.out] at ho
                  have n0_ := Aside0.mk (blk_grown (g := gb233) (o := .cells #[.int .i64 a0_0, .int .i64 a0_1, .int .i64 a0_2, .slice (some ad238) l0_3.length c0_3, .slice A0_4 l0_4.length c0_4] 37 (0, 0)) (by (with_reducible repeat (first | refine blk_drewN ?_ _ | refine blk_drew ?_ | refine blk_alloc ?_ _)); exact BK233.out) hg (Kd.R_ne HO_238003.out BK233.out (by decide)))
                  have n1_ := Aside0.mk (blk_grown (g := gb234) (o := .cells #[.int .i64 0, .int .i64 0, .int .i64 0, .slice none 0 0, .slice none 0 0] 37 (0, 0)) (by (with_reducible repeat (first | refine blk_drewN ?_ _ | refine blk_drew ?_ | refine blk_alloc ?_ _)); exact BK234.out) hg (Kd.R_ne HO_238003.out BK234.out (by decide)))
                  have n2_ := Aside0.mk (blk_grown (g := gb237) (o := .cells #[.int .i64 a0_0, .int .i64 a0_1, .int .i64 a0_2, u238003, .slice none 0 0] 37 (0, 0)) (by (with_reducible repeat (first | refine blk_drewN ?_ _ | refine blk_drew ?_ | refine blk_alloc ?_ _)); exact BK237.out) hg (Kd.R_ne HO_238003.out BK237.out (by decide)))
                  have n3_ := Aside0.mk (hb)
                  have n4_ := Aside0.mk (ho)
                  clear BK233
                  clear BK234
                  clear BK237
                  clear HB
                  clear HO_238003
                  have BK233 := n0_
                  have BK234 := n1_
                  have BK237 := n2_
                  have HB := n3_
                  have HO241 := n4_
                  clear n0_ n1_ n2_ n3_ n4_
                  clear ho hb hg hat
                  obtain ⟨Ao24, co24, eo24⟩ := Kd.R_slice HO241.out
                  (first | subst eo24 | (injection eo24 with f1_ f2_ f3_; have f4_ := f1_.symm; have f5_ := f3_.symm; clear f1_ f2_ f3_; subst f4_; subst f5_))
                  refine hK.out _ _ ⟨(blk_cell BK237.out 0).trans rfl, (blk_cell BK237.out 1).trans rfl, (blk_cell BK237.out 2).trans rfl, (blk_cell BK237.out 3).trans rfl, (blk_cell BK237.out 4).trans rfl, (blk_cell BK233.out 0).trans rfl, (blk_cell BK233.out 1).trans rfl, (blk_cell BK233.out 2).trans rfl, (blk_cell BK233.out 3).trans rfl, (blk_cell BK233.out 4).trans rfl, ((HB.out.cell (World.block_lt_of_cell? w _ hw238_0)).trans hw238_0)⟩ (fun hHeld => ?_)
                  clear hK K
                  refine norm_ (a' := ?_) ?_ ?_
                  rotate_left
                  · show Act.put _ (some 46) _ = _
                    simp only [Act.put, List.setIfInBounds_toArray, List.set_cons_zero, List.set_cons_succ, i64_w, i32_w]
                    rfl
                  refine pure_ (i := 9) (N := some 47) (v := ?_) (a' := ?_) #[true, true, true, true, true, true, true, true, true, true, false] rfl rfl (any_of HT_.out (by kernel_rfl)) (fun _ _ _ h => h) (Or.inl ⟨by rfl, ?_⟩) ?_ ?_
                  rotate_left
                  · intro w'
                    go_simp
                    with_reducible rfl
                  rotate_left
                  · simp only [Act.put, List.setIfInBounds_toArray, List.set_cons_zero, List.set_cons_succ, i64_w, i32_w]
                    rfl
                  refine last_ (i := 10) (N := none) #[true, true, true, true, true, true, true, true, true, true, true] rfl rfl (one_of HT_.out (by kernel_rfl)) (by decide) (fun K hK => ?_)
                  have hs25 : w23.cell? ⟨gb237, 3, none⟩ = some (u238003) := (blk_cell BK237.out 3).trans rfl
                  have hfs25 := blk_frozen BK237.out 3
                  have hns25_0 := NB233_237.out
                  have hns25_1 := NB234_237.out
                  have hms25_0 := NB237_233.out
                  have hms25_1 := NB237_234.out
                  refine skip_ (w1 := ?_) (by rfl) rfl ?_ ?_
                  rotate_left
                  · go_simp
                    rfl
                  refine hK.out _ _ ?_
                  clear hK K
                  refine done_ (done_of HT_.out (by kernel_rfl)) ?_
                  try go_wp2
                  go_roundg k2
                  case measure => have := HJ1.out; have := HK2.out; omega
                  case rel => exact ⟨(wrap64 (x6_2 + 1)), (y239), (.slice Ao24 y239.length co24), (by first | rfl | (simp; done) | (simp [*]; done)), H', ⟨by have := HJ1.out; have := HK2.out; omega⟩, ⟨by (with_reducible repeat (first | apply Kd.R_alloc | apply Kd.R_drewN | apply Kd.R_drew)); exact Kd.R_mono (Kd.R_far (p := ⟨gb237, 3, none⟩) (Kd.R_types HO241.out BK237.out (by decide)) (fun _ hk => hk.2) (.slice Ao24 y239.length co24)) (fun _ hk => trivial)⟩, ⟨by (with_reducible repeat (first | refine blk_drewN ?_ _ | refine blk_drew ?_ | refine blk_alloc ?_ _)); refine blk_far ?_ NB233_237.out _; (with_reducible repeat (first | refine blk_drewN ?_ _ | refine blk_drew ?_ | refine blk_alloc ?_ _)); exact BK233.out⟩, ⟨by (with_reducible repeat (first | refine blk_drewN ?_ _ | refine blk_drew ?_ | refine blk_alloc ?_ _)); refine blk_far ?_ NB234_237.out _; (with_reducible repeat (first | refine blk_drewN ?_ _ | refine blk_drew ?_ | refine blk_alloc ?_ _)); exact BK234.out⟩, ⟨by (with_reducible repeat (first | refine blk_drewN ?_ _ | refine blk_drew ?_ | refine blk_alloc ?_ _)); refine blk_put (cs := #[.int .i64 a0_0, .int .i64 a0_1, .int .i64 a0_2, u238003, .slice none 0 0]) ?_ 3 _ rfl; (with_reducible repeat (first | refine blk_drewN ?_ _ | refine blk_drew ?_ | refine blk_alloc ?_ _)); exact BK237.out⟩, ⟨by repeat (first | (with_reducible first | exact HB.out | apply below_alloc | apply pw_below_drewN | apply below_drew1 | refine below_set ?_ GE233.out | refine below_set ?_ GE234.out | refine below_set ?_ GE237.out) | exact HB.out)⟩⟩
                · rw [if_neg c21] at H
                  exact absurd H (by simp)
              · rw [if_neg c20] at H
                exact absurd H (by simp)
            · rw [if_neg c19] at H
              exact absurd H (by simp)
          · rw [if_neg c18] at H
            have c18b0 : decide (x6_2 < x3_1) = false := decide_eq_false c18
            clear c18
            have H' := Aside0.mk H
            clear H
            go_wp2
            go_loopg [7] k2 (fun kq v7 w' => ∃ (x7_3 : Int) (x238004_3 : List (S37)) (u238004 : Value), v7 = .int .i64 x7_3 ∧ Aside0 (capnpref11_Trim.l1 kq x4_1 x7_3 a0_0 a0_1 a0_2 l0_3 l0_4 a0_0 a0_1 a0_2 x238003_2 x238004_3 = some (r1, r2, r3, r4, r5)) ∧ Aside0 (kq ≤ k2) ∧ Aside0 (Kd.R (Kd.int .u8) 5 w' w.heap.size (fun _ => True) u238003 x238003_2) ∧ Aside0 (Kd.R k37 37 w' w.heap.size (fun k_ => some k_ ≠ (u238003 : Value).ownBlock ∧ k_ ≠ gb233 ∧ k_ ≠ gb234 ∧ k_ ≠ gb237) u238004 x238004_3) ∧ Aside0 (w'.heap[gb233]? = some (.cells #[.int .i64 a0_0, .int .i64 a0_1, .int .i64 a0_2, (.slice A0_3 l0_3.length c0_3), (.slice A0_4 l0_4.length c0_4)] 37 (0, 0))) ∧ Aside0 (w'.heap[gb234]? = some (.cells #[.int .i64 0, .int .i64 0, .int .i64 0, (.slice none 0 0), (.slice none 0 0)] 37 (0, 0))) ∧ Aside0 (w'.heap[gb237]? = some (.cells #[.int .i64 a0_0, .int .i64 a0_1, .int .i64 a0_2, u238003, u238004] 37 (0, 0))) ∧ Aside0 (Below w.heap.size w w'))
            case atStart => exact ⟨(0), (([] : List (S37))), (.slice none 0 0), (by first | rfl | (simp; done) | (simp [*]; done)), H', ⟨Nat.le_refl _⟩, ⟨by (with_reducible repeat (first | apply Kd.R_alloc | apply Kd.R_drewN | apply Kd.R_drew)); exact HO_238003.out⟩, ⟨by first | exact Kd.R_nil _ _ _ _ _ | exact Kd.N_nil _ _ _ _ _ | exact Kd.V_nil _ _ _ _ _ | exact Kd.Q_nil _ _ _ _ _ | exact Kd.S_nil _ _ _ _ _⟩, ⟨by (with_reducible repeat (first | refine blk_drewN ?_ _ | refine blk_drew ?_ | refine blk_alloc ?_ _)); exact BK233.out⟩, ⟨by (with_reducible repeat (first | refine blk_drewN ?_ _ | refine blk_drew ?_ | refine blk_alloc ?_ _)); exact BK234.out⟩, ⟨by (with_reducible repeat (first | refine blk_drewN ?_ _ | refine blk_drew ?_ | refine blk_alloc ?_ _)); exact BK237.out⟩, ⟨by repeat (first | (with_reducible first | exact HB.out | apply below_alloc | apply pw_below_drewN | apply below_drew1 | refine below_set ?_ GE233.out | refine below_set ?_ GE234.out | refine below_set ?_ GE237.out) | exact HB.out)⟩⟩
            case round =>
              clear H'
              try clear c1
              try clear c2
              try clear p2
              try clear q2
              try clear hx2
              try clear c4
              try clear c5
              try clear p6
              try clear c7
              try clear c7b0
              try clear c7b1
              try clear c10
              try clear c13
              try clear c14
              try clear c16
              try clear c18
              try clear c18b0
              try clear c19
              try clear c19b0
              try clear c20
              try clear c20b0
              try clear c21
              try clear p23
              try clear q23
              try clear hx23
              try clear hcz11_0
              try clear hcz11_1
              try clear hcz11_2
              try clear hcz11_3
              try clear hcz11_4
              try clear hcz15_0
              try clear hcz15_1
              try clear hcz15_2
              try clear hcz15_3
              try clear hcz15_4
              try clear hcz17_0
              try clear hcz17_1
              try clear hcz17_2
              try clear hcz17_3
              try clear hcz17_4
              try clear hcz6_0
              try clear hcz6_1
              try clear hcz6_2
              try clear hcz6_3
              try clear hcz6_4
              try clear hfz11_0
              try clear hfz11_1
              try clear hfz11_2
              try clear hfz11_3
              try clear hfz11_4
              try clear hfz15_0
              try clear hfz15_1
              try clear hfz15_2
              try clear hfz15_3
              try clear hfz15_4
              try clear hfz17_0
              try clear hfz17_1
              try clear hfz17_2
              try clear hfz17_3
              try clear hfz17_4
              try clear hfz6_0
              try clear hfz6_1
              try clear hfz6_2
              try clear hfz6_3
              try clear hfz6_4
              try clear hx238_0
              try clear p2
              try clear p238
              try clear p6
              try clear q238
              try clear BK233
              try clear BK234
              try clear BK237
              obtain ⟨x7_3, x238004_3, u238004, rfl, HA, HK3, HO_238003, HO_238004, BK233, BK234, BK237, HB⟩ := hrel
              cases gk with
              | zero => exact absurd HA.out (by simp [capnpref11_Trim.l1])
              | succ k3 =>
                have H := HA.out
                clear HA
                simp only [capnpref11_Trim.l1] at H
                by_cases c26 : x7_3 < x4_1
                · rw [if_pos c26] at H
                  have c26b0 : decide (x7_3 < x4_1) = true := decide_eq_true c26
                  clear c26
                  by_cases c27 : 0 ≤ x7_3
                  · rw [if_pos c27] at H
                    have c27b0 : decide (0 ≤ x7_3) = true := decide_eq_true c27
                    clear c27
                    by_cases c28 : x7_3 < (l0_4.length : Int)
                    · rw [if_pos c28] at H
                      have c28b0 : decide (x7_3 < (l0_4.length : Int)) = true := decide_eq_true c28
                      clear c28
                      replace H := Option.bind_eq_some_iff.mp H
                      obtain ⟨⟨t243, t244, t245, t246, t249⟩, A290, H⟩ := H
                      replace H : (if x238004_3.length < 1954687338268 then (capnpref11_Trim.l1 k3 x4_1 (wrap64 (x7_3 + 1)) a0_0 a0_1 a0_2 l0_3 l0_4 a0_0 a0_1 a0_2 x238003_2 (x238004_3 ++ [(⟨t243, t244, t245, t246, t249⟩ : S37)])) else (none)) = some (r1, r2, r3, r4, r5) := H
                      have A29 := Aside0.mk A290
                      clear A290
                      by_cases c30 : x238004_3.length < 1954687338268
                      · rw [if_pos c30] at H
                        have LMc30 := Aside0.mk c30
                        clear c30
                        obtain ⟨y252, hy252⟩ : ∃ y_ : List (S37), y_ = (x238004_3 ++ [(⟨t243, t244, t245, t246, t249⟩ : S37)]) := ⟨_, rfl⟩
                        replace H : (capnpref11_Trim.l1 k3 x4_1 (wrap64 (x7_3 + 1)) a0_0 a0_1 a0_2 l0_3 l0_4 a0_0 a0_1 a0_2 x238003_2 y252) = some (r1, r2, r3, r4, r5) := by first | (rw [hy252]; with_reducible exact H) | (have H2_ := (Option.bind_some _ _).symm.trans H; rw [hy252]; with_reducible exact H2_) | (have H2_ := (Option.bind_some _ _).symm.trans H; with_reducible exact H2_) | with_reducible exact H | (rw [hy252]; exact H) | exact H
                        have Ny252 := Aside0.mk hy252
                        clear hy252
                        have H' := Aside0.mk H
                        clear H
                        try go_wp2
                        have n0_ := Aside0.mk (Kd.R_drew HO_238003.out)
                        have n1_ := Aside0.mk (Kd.R_drew HO_238004.out)
                        have n2_ := Aside0.mk (blk_drew BK233.out)
                        have n3_ := Aside0.mk (blk_drew BK234.out)
                        have n4_ := Aside0.mk (blk_drew BK237.out)
                        have n5_ := Aside0.mk (below_drew1 HB.out)
                        clear HO_238003
                        clear HO_238004
                        clear BK233
                        clear BK234
                        clear BK237
                        clear HB
                        have HO_238003 := n0_
                        have HO_238004 := n1_
                        have BK233 := n2_
                        have BK234 := n3_
                        have BK237 := n4_
                        have HB := n5_
                        clear n0_ n1_ n2_ n3_ n4_ n5_
                        have p242 : 0 ≤ (x7_3 : Int) := of_decide_eq_true (by first | (with_reducible assumption) | assumption)
                        have q242 : x7_3 < (l0_4.length : Int) := of_decide_eq_true (by first | (with_reducible assumption) | assumption)
                        obtain ⟨ad242, A242_3, c242_3, A242_4, c242_4, e242, hx242_0, hx242_1, hx242_2, hx242_3, hx242_4, hl242_3, hi242_3, hl242_4, hi242_4⟩ := at_T37 HR0_4.out x7_3 p242 q242
                        have hw242_4 := hx242_4
                        have hw242_3 := hx242_3
                        have hw242_2 := hx242_2
                        have hw242_1 := hx242_1
                        have hw242_0 := hx242_0
                        cases e242
                        replace hx242_0 := (HB.out.cell (World.block_lt_of_cell? w _ hx242_0)).trans hx242_0
                        replace hx242_1 := (HB.out.cell (World.block_lt_of_cell? w _ hx242_1)).trans hx242_1
                        replace hx242_2 := (HB.out.cell (World.block_lt_of_cell? w _ hx242_2)).trans hx242_2
                        replace hx242_3 := (HB.out.cell (World.block_lt_of_cell? w _ hx242_3)).trans hx242_3
                        replace hx242_4 := (HB.out.cell (World.block_lt_of_cell? w _ hx242_4)).trans hx242_4
                        have HR242_3 := Aside0.mk hi242_3
                        have HC242_3 := Aside0.mk hl242_3
                        clear hi242_3 hl242_3
                        have HR242_4 := Aside0.mk hi242_4
                        have HC242_4 := Aside0.mk hl242_4
                        clear hi242_4 hl242_4
                        replace p242 := eq_true p242
                        replace q242 := eq_true q242
                        refine start_ (n := 12) (S := fun w' => w'.cell? ⟨gb237, 0, none⟩ = some (.int .i64 a0_0) ∧ w'.cell? ⟨gb237, 1, none⟩ = some (.int .i64 a0_1) ∧ w'.cell? ⟨gb237, 2, none⟩ = some (.int .i64 a0_2) ∧ w'.cell? ⟨gb237, 3, none⟩ = some (u238003) ∧ w'.cell? ⟨gb237, 4, none⟩ = some (u238004) ∧ w'.cell? ⟨gb233, 0, none⟩ = some (.int .i64 a0_0) ∧ w'.cell? ⟨gb233, 1, none⟩ = some (.int .i64 a0_1) ∧ w'.cell? ⟨gb233, 2, none⟩ = some (.int .i64 a0_2) ∧ w'.cell? ⟨gb233, 3, none⟩ = some (.slice A0_3 l0_3.length c0_3) ∧ w'.cell? ⟨gb233, 4, none⟩ = some (.slice (some ad242) l0_4.length c0_4) ∧ w'.cell? (ad242.add ((x7_3).toNat * 5)) = some (.int .i64 ((rd_T37 l0_4 x7_3).f0)) ∧ w'.cell? ⟨(ad242.add ((x7_3).toNat * 5)).block, (ad242.add ((x7_3).toNat * 5)).off + 1, none⟩ = some (.int .i64 ((rd_T37 l0_4 x7_3).f1)) ∧ w'.cell? ⟨(ad242.add ((x7_3).toNat * 5)).block, (ad242.add ((x7_3).toNat * 5)).off + 2, none⟩ = some (.int .i64 ((rd_T37 l0_4 x7_3).f2)) ∧ w'.cell? ⟨(ad242.add ((x7_3).toNat * 5)).block, (ad242.add ((x7_3).toNat * 5)).off + 3, none⟩ = some (.slice A242_3 ((rd_T37 l0_4 x7_3).f3).length c242_3) ∧ w'.cell? ⟨(ad242.add ((x7_3).toNat * 5)).block, (ad242.add ((x7_3).toNat * 5)).off + 4, none⟩ = some (.slice A242_4 ((rd_T37 l0_4 x7_3).f4).length c242_4)) (ds := [11]) #[false, false, false, false, false, false, false, false, false, false, false, false] (by kernel_rfl) rfl rfl ⟨(blk_cell BK237.out 0).trans rfl, (blk_cell BK237.out 1).trans rfl, (blk_cell BK237.out 2).trans rfl, (blk_cell BK237.out 3).trans rfl, (blk_cell BK237.out 4).trans rfl, (blk_cell BK233.out 0).trans rfl, (blk_cell BK233.out 1).trans rfl, (blk_cell BK233.out 2).trans rfl, (blk_cell BK233.out 3).trans rfl, (blk_cell BK233.out 4).trans rfl, ((HB.out.cell (World.block_lt_of_cell? w _ hw242_0)).trans hw242_0), ((HB.out.cell (World.block_lt_of_cell? w _ hw242_1)).trans hw242_1), ((HB.out.cell (World.block_lt_of_cell? w _ hw242_2)).trans hw242_2), ((HB.out.cell (World.block_lt_of_cell? w _ hw242_3)).trans hw242_3), ((HB.out.cell (World.block_lt_of_cell? w _ hw242_4)).trans hw242_4)⟩ (fun hHeld => ?_); refine with_tabW capnpref11_Trim.tab17 capnpref11_Trim.bits17 (fun HT_ HW_ => ?_)
                        generalize wr.drew = w31 at HO_238003 HO_238004 BK233 BK234 BK237 HB HR242_3 HR242_4 hx242_0 hx242_1 hx242_2 hx242_3 hx242_4 hHeld ⊢
                        refine pure_ (i := 0) (N := some 53) (v := ?_) (a' := ?_) #[true, false, false, false, false, false, false, false, false, false, false, false] rfl rfl (any_of HT_.out (by kernel_rfl)) (fun _ _ _ h => h) (Or.inl ⟨by rfl, ?_⟩) ?_ ?_
                        rotate_left
                        · intro w'
                          go_simp
                          with_reducible rfl
                        rotate_left
                        · simp only [Act.put, List.setIfInBounds_toArray, List.set_cons_zero, List.set_cons_succ, i64_w, i32_w]
                          rfl
                        refine pure_ (i := 2) (N := some 55) (v := ?_) (a' := ?_) #[true, false, true, false, false, false, false, false, false, false, false, false] rfl rfl (any_of HT_.out (by kernel_rfl)) (fun _ _ _ h => h) (Or.inl ⟨by rfl, ?_⟩) ?_ ?_
                        rotate_left
                        · intro w'
                          go_simp
                          with_reducible rfl
                        rotate_left
                        · simp only [Act.put, List.setIfInBounds_toArray, List.set_cons_zero, List.set_cons_succ, i64_w, i32_w]
                          rfl
                        refine pure_ (i := 4) (N := some 57) (v := ?_) (a' := ?_) #[true, false, true, false, true, false, false, false, false, false, false, false] rfl rfl (any_of HT_.out (by kernel_rfl)) (fun _ _ _ h => h) (Or.inl ⟨by rfl, ?_⟩) ?_ ?_
                        rotate_left
                        · intro w'
                          go_simp
                          with_reducible rfl
                        rotate_left
                        · simp only [Act.put, List.setIfInBounds_toArray, List.set_cons_zero, List.set_cons_succ, i64_w, i32_w]
                          rfl
                        refine take_ (i := 1) (N := some 54) (v := ?_) (a' := ?_) #[true, true, true, false, true, false, false, false, false, false, false, false] rfl rfl (take_ofW HT_.out HW_.out (by kernel_rfl)) (fun _ _ _ h => h) (Or.inl ⟨by rfl, ?_⟩) hHeld ?_ ?_
                        rotate_left
                        · rintro w' ⟨s0, s1, s2, s3, s4, s5, s6, s7, s8, s9, s10, s11, s12, s13, s14⟩
                          go_simp
                          with_reducible rfl
                        rotate_left
                        · simp only [Act.put, List.setIfInBounds_toArray, List.set_cons_zero, List.set_cons_succ, i64_w, i32_w]
                          rfl
                        refine take_ (i := 3) (N := some 56) (v := ?_) (a' := ?_) #[true, true, true, true, true, false, false, false, false, false, false, false] rfl rfl (take_ofW HT_.out HW_.out (by kernel_rfl)) (fun _ _ _ h => h) (Or.inl ⟨by rfl, ?_⟩) hHeld ?_ ?_
                        rotate_left
                        · rintro w' ⟨s0, s1, s2, s3, s4, s5, s6, s7, s8, s9, s10, s11, s12, s13, s14⟩
                          go_simp
                          with_reducible rfl
                        rotate_left
                        · simp only [Act.put, List.setIfInBounds_toArray, List.set_cons_zero, List.set_cons_succ, i64_w, i32_w]
                          rfl
                        refine pure_ (i := 5) (N := some 58) (v := ?_) (a' := ?_) #[true, true, true, true, true, true, false, false, false, false, false, false] rfl rfl (any_of HT_.out (by kernel_rfl)) (fun _ _ _ h => h) (Or.inl ⟨by rfl, ?_⟩) ?_ ?_
                        rotate_left
                        · intro w'
                          go_simp
                          with_reducible rfl
                        rotate_left
                        · simp only [Act.put, List.setIfInBounds_toArray, List.set_cons_zero, List.set_cons_succ, i64_w, i32_w]
                          rfl
                        refine take_ (i := 6) (N := some 59) (v := ?_) (a' := ?_) #[true, true, true, true, true, true, true, false, false, false, false, false] rfl rfl (take_ofW HT_.out HW_.out (by kernel_rfl)) (fun _ _ _ h => h) (Or.inl ⟨by rfl, ?_⟩) hHeld ?_ ?_
                        rotate_left
                        · rintro w' ⟨s0, s1, s2, s3, s4, s5, s6, s7, s8, s9, s10, s11, s12, s13, s14⟩
                          go_simp
                          with_reducible rfl
                        rotate_left
                        · simp only [Act.put, List.setIfInBounds_toArray, List.set_cons_zero, List.set_cons_succ, i64_w, i32_w]
                          rfl
                        refine one_ (i := 7) (N := some 60) #[true, true, true, true, true, true, true, true, false, false, false, false] rfl rfl (one_of HT_.out (by kernel_rfl)) (by decide) (fun K hK => ?_)
                        refine goes_ Tryd.func29 (by kernel_rfl) rfl #[.agg #[.int .i64 ((rd_T37 l0_4 x7_3).f0), .int .i64 ((rd_T37 l0_4 x7_3).f1), .int .i64 ((rd_T37 l0_4 x7_3).f2), .slice A242_3 ((rd_T37 l0_4 x7_3).f3).length c242_3, .slice A242_4 ((rd_T37 l0_4 x7_3).f4).length c242_4]] (by rfl) rfl rfl (by (try simp only [List.map_toArray, List.map_cons, List.map_nil]); first | done | rfl | (simp only [List.length_drop, List.length_take]; rfl)) ?_
                        with_reducible refine (ih k3 (by have := HJ1.out; have := HK2.out; have := HK3.out; omega) ((rd_T37 l0_4 x7_3).f0) ((rd_T37 l0_4 x7_3).f1) ((rd_T37 l0_4 x7_3).f2) _ _ ((rd_T37 l0_4 x7_3).f3) _ _ ((rd_T37 l0_4 x7_3).f4) t243 t244 t245 t246 t249 _ ?side1 ?side2 ?side3 ?side4 A29.out).mono ?_
                        (case side1 => repeat (first | exact (Kd.C_below HR242_3.out HB.out) | (with_reducible refine Kd.C_alloc ?_ _) | (with_reducible refine Kd.C_drewN ?_ _) | (with_reducible refine Kd.C_drew ?_)))
                        (case side2 => exact HC242_3.out)
                        (case side3 => repeat (first | exact (Kd.C_below HR242_4.out HB.out) | (with_reducible refine Kd.C_alloc ?_ _) | (with_reducible refine Kd.C_drewN ?_ _) | (with_reducible refine Kd.C_drew ?_)))
                        (case side4 => exact HC242_4.out)
                        rintro e w32 ⟨v247, v250, rfl, ho0, ho1, hb⟩
                        refine ⟨_, rfl, ?_⟩
                        have n0_ := Aside0.mk (Kd.R_elder' (by (with_reducible repeat (first | apply Kd.R_alloc | apply Kd.R_drewN | apply Kd.R_drew)); exact HO_238003.out) (Kd.R_base ho0) hb)
                        have n1_ := Aside0.mk (Kd.R_mono (Kd.R_told (Kd.R_told (Kd.R_old (by (with_reducible repeat (first | apply Kd.R_alloc | apply Kd.R_drewN | apply Kd.R_drew)); exact HO_238004.out) hb) (Kd.R_base ho0)) (Kd.R_base ho1)) (fun _ h_ => h_.1))
                        have n2_ := Aside0.mk (Kd.R_lower (Kd.R_new' ho0 (Kd.R_lt (by (with_reducible repeat (first | apply Kd.R_alloc | apply Kd.R_drewN | apply Kd.R_drew)); exact HO_238003.out))) (below_size (by repeat (first | (with_reducible first | exact HB.out | apply below_alloc | apply pw_below_drewN | apply below_drew1 | refine below_set ?_ GE233.out | refine below_set ?_ GE234.out | refine below_set ?_ GE237.out) | exact HB.out))))
                        have n3_ := Aside0.mk (Kd.R_lower (Kd.R_newB (Kd.R_newB (Kd.R_newB (Kd.R_new' (Kd.R_new' ho1 (Kd.R_lt (by (with_reducible repeat (first | apply Kd.R_alloc | apply Kd.R_drewN | apply Kd.R_drew)); exact HO_238003.out))) (Kd.R_lt (by (with_reducible repeat (first | apply Kd.R_alloc | apply Kd.R_drewN | apply Kd.R_drew)); exact HO_238004.out))) (g := gb233) (o := .cells #[.int .i64 a0_0, .int .i64 a0_1, .int .i64 a0_2, .slice A0_3 l0_3.length c0_3, .slice (some ad242) l0_4.length c0_4] 37 (0, 0)) (by (with_reducible repeat (first | refine blk_drewN ?_ _ | refine blk_drew ?_ | refine blk_alloc ?_ _)); exact BK233.out)) (g := gb234) (o := .cells #[.int .i64 0, .int .i64 0, .int .i64 0, .slice none 0 0, .slice none 0 0] 37 (0, 0)) (by (with_reducible repeat (first | refine blk_drewN ?_ _ | refine blk_drew ?_ | refine blk_alloc ?_ _)); exact BK234.out)) (g := gb237) (o := .cells #[.int .i64 a0_0, .int .i64 a0_1, .int .i64 a0_2, u238003, u238004] 37 (0, 0)) (by (with_reducible repeat (first | refine blk_drewN ?_ _ | refine blk_drew ?_ | refine blk_alloc ?_ _)); exact BK237.out)) (below_size (by repeat (first | (with_reducible first | exact HB.out | apply below_alloc | apply pw_below_drewN | apply below_drew1 | refine below_set ?_ GE233.out | refine below_set ?_ GE234.out | refine below_set ?_ GE237.out) | exact HB.out))))
                        have n4_ := Aside0.mk (blk_below (g := gb233) (o := .cells #[.int .i64 a0_0, .int .i64 a0_1, .int .i64 a0_2, .slice A0_3 l0_3.length c0_3, .slice (some ad242) l0_4.length c0_4] 37 (0, 0)) (by (with_reducible repeat (first | refine blk_drewN ?_ _ | refine blk_drew ?_ | refine blk_alloc ?_ _)); exact BK233.out) hb)
                        have n5_ := Aside0.mk (blk_below (g := gb234) (o := .cells #[.int .i64 0, .int .i64 0, .int .i64 0, .slice none 0 0, .slice none 0 0] 37 (0, 0)) (by (with_reducible repeat (first | refine blk_drewN ?_ _ | refine blk_drew ?_ | refine blk_alloc ?_ _)); exact BK234.out) hb)
                        have n6_ := Aside0.mk (blk_below (g := gb237) (o := .cells #[.int .i64 a0_0, .int .i64 a0_1, .int .i64 a0_2, u238003, u238004] 37 (0, 0)) (by (with_reducible repeat (first | refine blk_drewN ?_ _ | refine blk_drew ?_ | refine blk_alloc ?_ _)); exact BK237.out) hb)
                        have n7_ := Aside0.mk (below_step (by repeat (first | (with_reducible first | exact HB.out | apply below_alloc | apply pw_below_drewN | apply below_drew1 | refine below_set ?_ GE233.out | refine below_set ?_ GE234.out | refine below_set ?_ GE237.out) | exact HB.out)) hb)
                        clear HO_238003
                        clear HO_238004
                        clear BK233
                        clear BK234
                        clear BK237
                        clear HB
                        have HO_238003 := n0_
                        have HO_238004 := n1_
                        have HO248 := n2_
                        have HO251 := n3_
                        have BK233 := n4_
                        have BK234 := n5_
                        have BK237 := n6_
                        have HB := n7_
                        clear n0_ n1_ n2_ n3_ n4_ n5_ n6_ n7_
                        (try clear hb)
                        (try clear hb2)
                        (try clear hk)
                        (try clear hi)
                        (try clear ho0)
                        (try clear ho1)
                        obtain ⟨Ao34, co34, eo34⟩ := Kd.R_slice HO248.out
                        (first | subst eo34 | (injection eo34 with f1_ f2_ f3_; have f4_ := f1_.symm; have f5_ := f3_.symm; clear f1_ f2_ f3_; subst f4_; subst f5_))
                        obtain ⟨Ao35, co35, eo35⟩ := Kd.R_slice HO251.out
                        (first | subst eo35 | (injection eo35 with f1_ f2_ f3_; have f4_ := f1_.symm; have f5_ := f3_.symm; clear f1_ f2_ f3_; subst f4_; subst f5_))
                        refine hK.out _ _ ⟨(blk_cell BK237.out 0).trans rfl, (blk_cell BK237.out 1).trans rfl, (blk_cell BK237.out 2).trans rfl, (blk_cell BK237.out 3).trans rfl, (blk_cell BK237.out 4).trans rfl, (blk_cell BK233.out 0).trans rfl, (blk_cell BK233.out 1).trans rfl, (blk_cell BK233.out 2).trans rfl, (blk_cell BK233.out 3).trans rfl, (blk_cell BK233.out 4).trans rfl, ((HB.out.cell (World.block_lt_of_cell? w _ hw242_0)).trans hw242_0), ((HB.out.cell (World.block_lt_of_cell? w _ hw242_1)).trans hw242_1), ((HB.out.cell (World.block_lt_of_cell? w _ hw242_2)).trans hw242_2), ((HB.out.cell (World.block_lt_of_cell? w _ hw242_3)).trans hw242_3), ((HB.out.cell (World.block_lt_of_cell? w _ hw242_4)).trans hw242_4)⟩ (fun hHeld => ?_)
                        clear hK K
                        refine norm_ (a' := ?_) ?_ ?_
                        rotate_left
                        · show Act.put _ (some 60) _ = _
                          simp only [Act.put, List.setIfInBounds_toArray, List.set_cons_zero, List.set_cons_succ, i64_w, i32_w]
                          rfl
                        refine one_ (i := 8) (N := some 61) #[true, true, true, true, true, true, true, true, true, false, false, false] rfl rfl (one_of HT_.out (by kernel_rfl)) (by decide) (fun K hK => ?_)
                        refine value_ (w1 := ?_) (v := ?_) (by rfl) rfl ?_ ?_
                        rotate_left 2
                        · go_simp
                          constructor
                          · rfl
                          · rfl
                        refine hK.out _ _ ⟨(blk_cell (blk_alloc BK237.out _) 0).trans rfl, (blk_cell (blk_alloc BK237.out _) 1).trans rfl, (blk_cell (blk_alloc BK237.out _) 2).trans rfl, (blk_cell (blk_alloc BK237.out _) 3).trans rfl, (blk_cell (blk_alloc BK237.out _) 4).trans rfl, (blk_cell (blk_alloc BK233.out _) 0).trans rfl, (blk_cell (blk_alloc BK233.out _) 1).trans rfl, (blk_cell (blk_alloc BK233.out _) 2).trans rfl, (blk_cell (blk_alloc BK233.out _) 3).trans rfl, (blk_cell (blk_alloc BK233.out _) 4).trans rfl, (World.cell?_alloc_lt _ _ _ (World.block_lt_of_cell? _ _ (((HB.out.cell (World.block_lt_of_cell? w _ hw242_0)).trans hw242_0)))).trans (((HB.out.cell (World.block_lt_of_cell? w _ hw242_0)).trans hw242_0)), (World.cell?_alloc_lt _ _ _ (World.block_lt_of_cell? _ _ (((HB.out.cell (World.block_lt_of_cell? w _ hw242_1)).trans hw242_1)))).trans (((HB.out.cell (World.block_lt_of_cell? w _ hw242_1)).trans hw242_1)), (World.cell?_alloc_lt _ _ _ (World.block_lt_of_cell? _ _ (((HB.out.cell (World.block_lt_of_cell? w _ hw242_2)).trans hw242_2)))).trans (((HB.out.cell (World.block_lt_of_cell? w _ hw242_2)).trans hw242_2)), (World.cell?_alloc_lt _ _ _ (World.block_lt_of_cell? _ _ (((HB.out.cell (World.block_lt_of_cell? w _ hw242_3)).trans hw242_3)))).trans (((HB.out.cell (World.block_lt_of_cell? w _ hw242_3)).trans hw242_3)), (World.cell?_alloc_lt _ _ _ (World.block_lt_of_cell? _ _ (((HB.out.cell (World.block_lt_of_cell? w _ hw242_4)).trans hw242_4)))).trans (((HB.out.cell (World.block_lt_of_cell? w _ hw242_4)).trans hw242_4))⟩ (fun hHeld => ?_)
                        clear hK K
                        refine norm_ (a' := ?_) ?_ ?_
                        rotate_left
                        · show Act.put _ (some 61) _ = _
                          simp only [Act.put, List.setIfInBounds_toArray, List.set_cons_zero, List.set_cons_succ, i64_w, i32_w]
                          rfl
                        refine one_ (i := 9) (N := some 62) #[true, true, true, true, true, true, true, true, true, true, false, false] rfl rfl (one_of HT_.out (by kernel_rfl)) (by decide) (fun K hK => ?_)
                        refine Kd.R_append_step k37 (w0 := w) w.heap.size (by rfl) (.tmp 54) (.tmp 61) 35 37 (.agg #[(.int .i64 0), (.int .i64 0), (.int .i64 0), (.slice none 0 0), (.slice none 0 0)]) 72 rfl Tryd.underlying35 info37 rfl (by decide) (by omega) u238004 x238004_3 (⟨t243, t244, t245, t246, t249⟩ : S37) [.int .i64 t243, .int .i64 t244, .int .i64 t245, .slice Ao34 t246.length co34, .slice Ao35 t249.length co35] (fun k_ => some k_ ≠ (u238003 : Value).ownBlock ∧ k_ ≠ gb233 ∧ k_ ≠ gb234 ∧ k_ ≠ gb237) (fun k_ => ((fun k_ => some k_ ≠ (u238003 : Value).ownBlock ∧ k_ ≠ gb233 ∧ k_ ≠ gb234 ∧ k_ ≠ gb237)) k_ ∧ some k_ ≠ (u238004 : Value).ownBlock) rfl rfl ?aP (fun _ hk => hk) ?aF ?aO ?aB ?aS ?aL ?_
                        (case aP => exact k37_mkM _ _ _ (⟨t243, t244, t245, t246, t249⟩ : S37) (Kd.R_mono (Kd.R_types (Kd.R_types (Kd.R_types (Kd.R_apart' (HO248.out) (Kd.R_typed HO_238004.out) (by decide)) BK233.out (by decide)) BK234.out (by decide)) BK237.out (by decide)) (fun k_ hk => ⟨⟨hk.1.1.1.1.2, ⟨hk.1.1.2, ⟨hk.1.2, hk.2⟩⟩⟩, hk.1.1.1.2⟩)) (Kd.R_mono (HO251.out) (fun k_ hk => ⟨⟨hk.1.1.1.1.2, ⟨hk.1.1.2, ⟨hk.1.2, hk.2⟩⟩⟩, hk.1.1.1.2⟩)))
                        (case aB => exact (by repeat (first | (with_reducible first | exact HB.out | apply below_alloc | apply pw_below_drewN | apply below_drew1 | refine below_set ?_ GE233.out | refine below_set ?_ GE234.out | refine below_set ?_ GE237.out) | exact HB.out)))
                        (case aF => exact (fun k_ hk => ⟨Kd.fresh' (Kd.R_lt (by (with_reducible repeat (first | apply Kd.R_alloc | apply Kd.R_drewN | apply Kd.R_drew)); exact HO_238003.out)) k_ hk, Kd.freshB (g := gb233) (o := .cells #[.int .i64 a0_0, .int .i64 a0_1, .int .i64 a0_2, .slice A0_3 l0_3.length c0_3, .slice (some ad242) l0_4.length c0_4] 37 (0, 0)) (by (with_reducible repeat (first | refine blk_drewN ?_ _ | refine blk_drew ?_ | refine blk_alloc ?_ _)); exact BK233.out) k_ hk, Kd.freshB (g := gb234) (o := .cells #[.int .i64 0, .int .i64 0, .int .i64 0, .slice none 0 0, .slice none 0 0] 37 (0, 0)) (by (with_reducible repeat (first | refine blk_drewN ?_ _ | refine blk_drew ?_ | refine blk_alloc ?_ _)); exact BK234.out) k_ hk, Kd.freshB (g := gb237) (o := .cells #[.int .i64 a0_0, .int .i64 a0_1, .int .i64 a0_2, u238003, u238004] 37 (0, 0)) (by (with_reducible repeat (first | refine blk_drewN ?_ _ | refine blk_drew ?_ | refine blk_alloc ?_ _)); exact BK237.out) k_ hk⟩))
                        (case aO => exact (by (with_reducible repeat (first | apply Kd.R_alloc | apply Kd.R_drewN | apply Kd.R_drew)); exact Kd.R_mono HO_238004.out (fun _ hk => ⟨hk.1.1.1, ⟨hk.1.1.2.1, ⟨hk.1.1.2.2.1, hk.1.1.2.2.2⟩⟩⟩)))
                        (case aS => exact (below_size (by repeat (first | (with_reducible first | exact HB.out | apply below_alloc | apply pw_below_drewN | apply below_drew1 | refine below_set ?_ GE233.out | refine below_set ?_ GE234.out | refine below_set ?_ GE237.out) | exact HB.out))))
                        (case aL => have := LMc30.out; omega)
                        intro v253 w33 ho hb hg hat
                        rw [← Ny252.out] at ho
                        have n0_ := Aside0.mk (Kd.R_over' (by (with_reducible repeat (first | apply Kd.R_alloc | apply Kd.R_drewN | apply Kd.R_drew)); exact HO_238003.out) (Kd.R_typed (by (with_reducible repeat (first | apply Kd.R_alloc | apply Kd.R_drewN | apply Kd.R_drew)); exact HO_238004.out)) (by decide) hg)
                        have n1_ := Aside0.mk (blk_grown (g := gb233) (o := .cells #[.int .i64 a0_0, .int .i64 a0_1, .int .i64 a0_2, .slice A0_3 l0_3.length c0_3, .slice (some ad242) l0_4.length c0_4] 37 (0, 0)) (by (with_reducible repeat (first | refine blk_drewN ?_ _ | refine blk_drew ?_ | refine blk_alloc ?_ _)); exact BK233.out) hg (Kd.R_away HO_238004.out (fun _ hk => hk.1.1.2.1)))
                        have n2_ := Aside0.mk (blk_grown (g := gb234) (o := .cells #[.int .i64 0, .int .i64 0, .int .i64 0, .slice none 0 0, .slice none 0 0] 37 (0, 0)) (by (with_reducible repeat (first | refine blk_drewN ?_ _ | refine blk_drew ?_ | refine blk_alloc ?_ _)); exact BK234.out) hg (Kd.R_away HO_238004.out (fun _ hk => hk.1.1.2.2.1)))
                        have n3_ := Aside0.mk (blk_grown (g := gb237) (o := .cells #[.int .i64 a0_0, .int .i64 a0_1, .int .i64 a0_2, u238003, u238004] 37 (0, 0)) (by (with_reducible repeat (first | refine blk_drewN ?_ _ | refine blk_drew ?_ | refine blk_alloc ?_ _)); exact BK237.out) hg (Kd.R_away HO_238004.out (fun _ hk => hk.1.1.2.2.2)))
                        have n4_ := Aside0.mk (hb)
                        have n5_ := Aside0.mk (ho)
                        clear HO_238003
                        clear BK233
                        clear BK234
                        clear BK237
                        clear HB
                        clear HO_238004
                        clear HO248
                        clear HO251
                        have HO_238003 := n0_
                        have BK233 := n1_
                        have BK234 := n2_
                        have BK237 := n3_
                        have HB := n4_
                        have HO254 := n5_
                        clear n0_ n1_ n2_ n3_ n4_ n5_
                        clear ho hb hg hat
                        obtain ⟨Ao36, co36, eo36⟩ := Kd.R_slice HO254.out
                        (first | subst eo36 | (injection eo36 with f1_ f2_ f3_; have f4_ := f1_.symm; have f5_ := f3_.symm; clear f1_ f2_ f3_; subst f4_; subst f5_))
                        refine hK.out _ _ ⟨(blk_cell BK237.out 0).trans rfl, (blk_cell BK237.out 1).trans rfl, (blk_cell BK237.out 2).trans rfl, (blk_cell BK237.out 3).trans rfl, (blk_cell BK237.out 4).trans rfl, (blk_cell BK233.out 0).trans rfl, (blk_cell BK233.out 1).trans rfl, (blk_cell BK233.out 2).trans rfl, (blk_cell BK233.out 3).trans rfl, (blk_cell BK233.out 4).trans rfl, ((HB.out.cell (World.block_lt_of_cell? w _ hw242_0)).trans hw242_0), ((HB.out.cell (World.block_lt_of_cell? w _ hw242_1)).trans hw242_1), ((HB.out.cell (World.block_lt_of_cell? w _ hw242_2)).trans hw242_2), ((HB.out.cell (World.block_lt_of_cell? w _ hw242_3)).trans hw242_3), ((HB.out.cell (World.block_lt_of_cell? w _ hw242_4)).trans hw242_4)⟩ (fun hHeld => ?_)
                        clear hK K
                        refine norm_ (a' := ?_) ?_ ?_
                        rotate_left
                        · show Act.put _ (some 62) _ = _
                          simp only [Act.put, List.setIfInBounds_toArray, List.set_cons_zero, List.set_cons_succ, i64_w, i32_w]
                          rfl
                        refine pure_ (i := 10) (N := some 63) (v := ?_) (a' := ?_) #[true, true, true, true, true, true, true, true, true, true, true, false] rfl rfl (any_of HT_.out (by kernel_rfl)) (fun _ _ _ h => h) (Or.inl ⟨by rfl, ?_⟩) ?_ ?_
                        rotate_left
                        · intro w'
                          go_simp
                          with_reducible rfl
                        rotate_left
                        · simp only [Act.put, List.setIfInBounds_toArray, List.set_cons_zero, List.set_cons_succ, i64_w, i32_w]
                          rfl
                        refine last_ (i := 11) (N := none) #[true, true, true, true, true, true, true, true, true, true, true, true] rfl rfl (one_of HT_.out (by kernel_rfl)) (by decide) (fun K hK => ?_)
                        have hs37 : w33.cell? ⟨gb237, 4, none⟩ = some (u238004) := (blk_cell BK237.out 4).trans rfl
                        have hfs37 := blk_frozen BK237.out 4
                        have hns37_0 := NB233_237.out
                        have hns37_1 := NB234_237.out
                        have hms37_0 := NB237_233.out
                        have hms37_1 := NB237_234.out
                        refine skip_ (w1 := ?_) (by rfl) rfl ?_ ?_
                        rotate_left
                        · go_simp
                          rfl
                        refine hK.out _ _ ?_
                        clear hK K
                        refine done_ (done_of HT_.out (by kernel_rfl)) ?_
                        try go_wp2
                        go_roundg k3
                        case measure => have := HJ1.out; have := HK2.out; have := HK3.out; omega
                        case rel => exact ⟨(wrap64 (x7_3 + 1)), (y252), (.slice Ao36 y252.length co36), (by first | rfl | (simp; done) | (simp [*]; done)), H', ⟨by have := HJ1.out; have := HK2.out; have := HK3.out; omega⟩, ⟨by (with_reducible repeat (first | apply Kd.R_alloc | apply Kd.R_drewN | apply Kd.R_drew)); exact Kd.R_mono (Kd.R_far (p := ⟨gb237, 4, none⟩) (Kd.R_types HO_238003.out BK237.out (by decide)) (fun _ hk => hk.2) (.slice Ao36 y252.length co36)) (fun _ hk => trivial)⟩, ⟨by (with_reducible repeat (first | apply Kd.R_alloc | apply Kd.R_drewN | apply Kd.R_drew)); exact Kd.R_mono (Kd.R_far (p := ⟨gb237, 4, none⟩) (Kd.R_mono HO254.out (fun k_ hk => (⟨hk, hk.2.2.2⟩ : _ ∧ k_ ≠ gb237))) (fun _ hk => hk.2) (.slice Ao36 y252.length co36)) (fun _ hk => ⟨hk.1.1, ⟨hk.1.2.1, ⟨hk.1.2.2.1, hk.1.2.2.2⟩⟩⟩)⟩, ⟨by (with_reducible repeat (first | refine blk_drewN ?_ _ | refine blk_drew ?_ | refine blk_alloc ?_ _)); refine blk_far ?_ NB233_237.out _; (with_reducible repeat (first | refine blk_drewN ?_ _ | refine blk_drew ?_ | refine blk_alloc ?_ _)); exact BK233.out⟩, ⟨by (with_reducible repeat (first | refine blk_drewN ?_ _ | refine blk_drew ?_ | refine blk_alloc ?_ _)); refine blk_far ?_ NB234_237.out _; (with_reducible repeat (first | refine blk_drewN ?_ _ | refine blk_drew ?_ | refine blk_alloc ?_ _)); exact BK234.out⟩, ⟨by (with_reducible repeat (first | refine blk_drewN ?_ _ | refine blk_drew ?_ | refine blk_alloc ?_ _)); refine blk_put (cs := #[.int .i64 a0_0, .int .i64 a0_1, .int .i64 a0_2, u238003, u238004]) ?_ 4 _ rfl; (with_reducible repeat (first | refine blk_drewN ?_ _ | refine blk_drew ?_ | refine blk_alloc ?_ _)); exact BK237.out⟩, ⟨by repeat (first | (with_reducible first | exact HB.out | apply below_alloc | apply pw_below_drewN | apply below_drew1 | refine below_set ?_ GE233.out | refine below_set ?_ GE234.out | refine below_set ?_ GE237.out) | exact HB.out)⟩⟩
                      · rw [if_neg c30] at H
                        exact absurd H (by simp)
                    · rw [if_neg c28] at H
                      exact absurd H (by simp)
                  · rw [if_neg c27] at H
                    exact absurd H (by simp)
                · rw [if_neg c26] at H
                  have c26b0 : decide (x7_3 < x4_1) = false := decide_eq_false c26
                  clear c26
                  simp only [Option.some.injEq, Prod.mk.injEq] at H
                  obtain ⟨rfl, rfl, rfl, rfl, rfl⟩ := H
                  have hnb38 := NB237_233.out
                  have hnc38 := NB233_237.out
                  have hnb39 := NB237_234.out
                  have hnc39 := NB234_237.out
                  have hcz40_0 : wr.cell? ⟨gb237, 0, none⟩ = some (.int .i64 a0_0) := (blk_cell BK237.out 0).trans rfl
                  have hcz40_1 : wr.cell? ⟨gb237, 1, none⟩ = some (.int .i64 a0_1) := (blk_cell BK237.out 1).trans rfl
                  have hcz40_2 : wr.cell? ⟨gb237, 2, none⟩ = some (.int .i64 a0_2) := (blk_cell BK237.out 2).trans rfl
                  have hcz40_3 : wr.cell? ⟨gb237, 3, none⟩ = some (u238003) := (blk_cell BK237.out 3).trans rfl
                  have hcz40_4 : wr.cell? ⟨gb237, 4, none⟩ = some (u238004) := (blk_cell BK237.out 4).trans rfl
                  have hfz40_0 := blk_frozen BK237.out 0
                  have hfz40_1 := blk_frozen BK237.out 1
                  have hfz40_2 := blk_frozen BK237.out 2
                  have hfz40_3 := blk_frozen BK237.out 3
                  have hfz40_4 := blk_frozen BK237.out 4
                  have hnb41 := NB234_233.out
                  have hnc41 := NB233_234.out
                  have hcz42_0 : wr.cell? ⟨gb234, 0, none⟩ = some (.int .i64 0) := (blk_cell BK234.out 0).trans rfl
                  have hcz42_1 : wr.cell? ⟨gb234, 1, none⟩ = some (.int .i64 0) := (blk_cell BK234.out 1).trans rfl
                  have hcz42_2 : wr.cell? ⟨gb234, 2, none⟩ = some (.int .i64 0) := (blk_cell BK234.out 2).trans rfl
                  have hcz42_3 : wr.cell? ⟨gb234, 3, none⟩ = some (.slice none 0 0) := (blk_cell BK234.out 3).trans rfl
                  have hcz42_4 : wr.cell? ⟨gb234, 4, none⟩ = some (.slice none 0 0) := (blk_cell BK234.out 4).trans rfl
                  have hfz42_0 := blk_frozen BK234.out 0
                  have hfz42_1 := blk_frozen BK234.out 1
                  have hfz42_2 := blk_frozen BK234.out 2
                  have hfz42_3 := blk_frozen BK234.out 3
                  have hfz42_4 := blk_frozen BK234.out 4
                  obtain ⟨Ao43, co43, eo43⟩ := Kd.R_slice HO_238003.out
                  subst eo43
                  obtain ⟨Ao44, co44, eo44⟩ := Kd.R_slice HO_238004.out
                  subst eo44
                  go_wp2
                  refine bodyPost_ret (results_cell_row rfl _ _ gb234 37 #[.int .i64 a0_0, .int .i64 a0_1, .int .i64 a0_2, .slice Ao43 x238003_2.length co43, .slice Ao44 x238004_3.length co44] (0, 0) _ rfl (by (with_reducible repeat (first | refine blk_drewN ?_ _ | refine blk_drew ?_ | refine blk_alloc ?_ _)); refine blk_put (cs := #[.int .i64 a0_0, .int .i64 a0_1, .int .i64 a0_2, .slice Ao43 x238003_2.length co43, .slice none 0 0]) ?_ 4 _ rfl; (with_reducible repeat (first | refine blk_drewN ?_ _ | refine blk_drew ?_ | refine blk_alloc ?_ _)); refine blk_put (cs := #[.int .i64 a0_0, .int .i64 a0_1, .int .i64 a0_2, .slice none 0 0, .slice none 0 0]) ?_ 3 _ rfl; (with_reducible repeat (first | refine blk_drewN ?_ _ | refine blk_drew ?_ | refine blk_alloc ?_ _)); refine blk_put (cs := #[.int .i64 a0_0, .int .i64 a0_1, .int .i64 0, .slice none 0 0, .slice none 0 0]) ?_ 2 _ rfl; (with_reducible repeat (first | refine blk_drewN ?_ _ | refine blk_drew ?_ | refine blk_alloc ?_ _)); refine blk_put (cs := #[.int .i64 a0_0, .int .i64 0, .int .i64 0, .slice none 0 0, .slice none 0 0]) ?_ 1 _ rfl; (with_reducible repeat (first | refine blk_drewN ?_ _ | refine blk_drew ?_ | refine blk_alloc ?_ _)); refine blk_put (cs := #[.int .i64 0, .int .i64 0, .int .i64 0, .slice none 0 0, .slice none 0 0]) ?_ 0 _ rfl; (with_reducible repeat (first | refine blk_drewN ?_ _ | refine blk_drew ?_ | refine blk_alloc ?_ _)); exact BK234.out) Tryd.underlying37 rfl (by kernel_rfl)) rfl ?_
                  exact ⟨_, _, by first | rfl | (simp [errW_none, errW_some] <;> rfl) | (simp [*, errW_none, errW_some] <;> rfl), by (with_reducible repeat (first | apply Kd.R_alloc | apply Kd.R_drewN | apply Kd.R_drew)); exact Kd.R_mono (Kd.R_far (p := ⟨gb234, 4, none⟩) (Kd.R_far (p := ⟨gb234, 3, none⟩) (Kd.R_far (p := ⟨gb234, 2, none⟩) (Kd.R_far (p := ⟨gb234, 1, none⟩) (Kd.R_far (p := ⟨gb234, 0, none⟩) (Kd.R_types HO_238003.out BK234.out (by decide)) (fun _ hk => hk.2) (.int .i64 a0_0)) (fun _ hk => hk.2) (.int .i64 a0_1)) (fun _ hk => hk.2) (.int .i64 a0_2)) (fun _ hk => hk.2) (.slice Ao43 x238003_2.length co43)) (fun _ hk => hk.2) (.slice Ao44 x238004_3.length co44)) (fun _ hk => trivial), by (with_reducible repeat (first | apply Kd.R_alloc | apply Kd.R_drewN | apply Kd.R_drew)); exact Kd.R_mono (Kd.R_far (p := ⟨gb234, 4, none⟩) (Kd.R_far (p := ⟨gb234, 3, none⟩) (Kd.R_far (p := ⟨gb234, 2, none⟩) (Kd.R_far (p := ⟨gb234, 1, none⟩) (Kd.R_far (p := ⟨gb234, 0, none⟩) (Kd.R_mono HO_238004.out (fun k_ hk => (⟨hk, hk.2.2.1⟩ : _ ∧ k_ ≠ gb234))) (fun _ hk => hk.2) (.int .i64 a0_0)) (fun _ hk => hk.2) (.int .i64 a0_1)) (fun _ hk => hk.2) (.int .i64 a0_2)) (fun _ hk => hk.2) (.slice Ao43 x238003_2.length co43)) (fun _ hk => hk.2) (.slice Ao44 x238004_3.length co44)) (fun _ hk => hk.1.1), by repeat (first | (with_reducible first | exact HB.out | apply below_alloc | apply pw_below_drewN | apply below_drew1 | refine below_set ?_ GE233.out | refine below_set ?_ GE234.out | refine below_set ?_ GE237.out) | exact HB.out)⟩
end Go.Proofs.YtidglmocekghmaaDoor.Pr
end
section
namespace Go.Proofs.YtidglmocekghmaaDoor.Pr
open Go.RowKit Go.Proofs.YtidglmocekghmaaDoorW.PrintWords Go.Proofs.YtidglmocekghmaaDoorW.PrintLast Go.Proofs.YtidglmocekghmaaDoorW.PrintMore
set_option linter.unusedVariables false
set_option linter.unusedSimpArgs false
def keptN {α : Type} (p : α → Bool) (l : List α) : Nat := (l.reverse.dropWhile p).length
theorem keptN_snoc {α : Type} (p : α → Bool) (l : List α) (x : α) : keptN p (l ++ [x]) = if p x then keptN p l else l.length + 1 := by
  unfold keptN
  rw [List.reverse_append]
  simp only [List.reverse_cons, List.reverse_nil, List.nil_append, List.singleton_append, List.dropWhile_cons]
  split <;> simp
theorem keptN_le {α : Type} (p : α → Bool) (l : List α) : keptN p l ≤ l.length := by
  unfold keptN
  have := (List.dropWhile_suffix (p := p) (l := l.reverse)).length_le
  simpa using this
def zeroB (x : Int) : Bool := x == 0
def nullN (x : S37) : Bool := x.f0 == 0
theorem w64 {x : Int} (h0 : -9223372036854775808 ≤ x) (h1 : x ≤ 9223372036854775807) : wrap64 x = x := IntWalk.wrap64_in _ ⟨h0, h1⟩
theorem rd_at (l : List Int) (j : Nat) (h : j < l.length) : Go.Proofs.YtidglmocekghmaaDoorW.PrintWords.rd l (j : Int) = l[j] := by
  unfold Go.Proofs.YtidglmocekghmaaDoorW.PrintWords.rd; simp [List.getD_eq_getElem?_getD, List.getElem?_eq_getElem h]
theorem rdT_at (l : List S37) (j : Nat) (h : j < l.length) : rd_T37 l (j : Int) = l[j] := by
  unfold rd_T37; simp [List.getD_eq_getElem?_getD, List.getElem?_eq_getElem h]
theorem S37.ind {P : S37 → Prop} (h : ∀ a : S37, (∀ x ∈ a.f4, P x) → P a) (a : S37) : P a :=
  S37.rec (motive_1 := P) (motive_2 := fun l => ∀ x ∈ l, P x) (fun k e n d l ih => h ⟨k, e, n, d, l⟩ ih) (fun _ hx => by cases hx) (fun y l hy hl x hx => by
    rcases List.mem_cons.1 hx with rfl | hx
    · exact hy
    · exact hl x hx) a
theorem take_one {α : Type} (l : List α) (j : Nat) (h : j < l.length) : l.take (j + 1) = l.take j ++ [l[j]] := List.take_succ_eq_append_getElem h
inductive AllT (p : S37 → Prop) : S37 → Prop
  | mk {a : S37} (h : p a) (hk : ∀ x ∈ a.f4, AllT p x) : AllT p a
theorem AllT.here {p : S37 → Prop} {a : S37} (h : AllT p a) : p a := by cases h; assumption
theorem AllT.kids {p : S37 → Prop} {a : S37} (h : AllT p a) : ∀ x ∈ a.f4, AllT p x := by cases h; assumption
mutual
def tsize : S37 → Nat
  | ⟨_, _, _, d, l⟩ => 1 + d.length + tsizes l
def tsizes : List S37 → Nat
  | [] => 0
  | k :: l => tsize k + tsizes l
end
theorem tsize_eq (a : S37) : tsize a = 1 + a.f3.length + tsizes a.f4 := by cases a; rfl
theorem length_tsizes : ∀ l : List S37, l.length ≤ tsizes l
  | [] => by simp
  | k :: l => by
    have := length_tsizes l
    have := tsize_eq k
    simp [tsizes]; omega
theorem tsize_mem {l : List S37} {x : S37} (h : x ∈ l) : tsize x ≤ tsizes l := by
  induction l with
  | nil => cases h
  | cons k l ih =>
    simp only [tsizes]
    rcases List.mem_cons.1 h with rfl | h
    · omega
    · have := ih h; omega
theorem tsize_kid {a x : S37} (h : x ∈ a.f4) : tsize x < tsize a := by
  have := tsize_mem h
  have := tsize_eq a
  omega
def twords (d : List Int) : Nat := (keptN zeroB d + 7) / 8
def cutD (a : S37) : List Int := if a.f0 = 1 then a.f3.take (8 * twords a.f3) else a.f3
def cutK (a : S37) : List S37 := if a.f0 = 1 then a.f4.take (keptN nullN a.f4) else a.f4
mutual
def ttrim : S37 → S37
  | ⟨k, e, n, d, l⟩ => ⟨k, e, n, if k = 1 then d.take (8 * twords d) else d, if k = 1 then (ttrims l).take (keptN nullN l) else ttrims l⟩
def ttrims : List S37 → List S37
  | [] => []
  | x :: l => ttrim x :: ttrims l
end
theorem ttrims_eq : ∀ l : List S37, ttrims l = l.map ttrim
  | [] => rfl
  | x :: l => by simp [ttrims, ttrims_eq l]
theorem ttrim_eq (a : S37) : ttrim a = ⟨a.f0, a.f1, a.f2, cutD a, (cutK a).map ttrim⟩ := by
  cases a with
  | mk k e n d l =>
    simp only [ttrim, cutD, cutK, ttrims_eq]
    split <;> simp [List.map_take]
def wordsT : S37 → Prop := AllT fun a => a.f0 = 1 → a.f3.length % 8 = 0
theorem twords_le (d : List Int) (h : d.length % 8 = 0) : 8 * twords d ≤ d.length := by
  have := keptN_le zeroB d
  unfold twords; omega
theorem rwords_ev (d : List Int) (h : d.length ≤ 1000000000000) : Ev (fun k => capnpref11_Words.f k d) (twords d : Int) := by
  unfold capnpref11_Words.f
  have loop : ∀ n j : Nat, d.length - j = n → j ≤ d.length → Ev (fun k => capnpref11_Words.l0 k d (twords (d.take j) : Int) (j : Int)) (twords d : Int) := by
    intro n
    induction n with
    | zero =>
      intro j hd hj
      refine Ev.step (f := fun _ => some (twords d : Int)) (fun k => ?_) (Ev.now _)
      simp only [capnpref11_Words.l0]
      rw [if_neg (by omega), List.take_of_length_le (by omega)]
    | succ n ih =>
      intro j hd hj
      have hlt : j < d.length := by omega
      have hn := ih (j + 1) (by omega) (by omega)
      have e2 : ((j + 1 : Nat) : Int) = (j : Int) + 1 := by omega
      rw [e2] at hn
      have hk := keptN_snoc zeroB (d.take j) d[j]
      rw [← take_one d j hlt] at hk
      have hjl : (d.take j).length = j := by simp; omega
      by_cases h0 : d[j] = 0
      · rw [if_pos (by simp [zeroB, h0])] at hk
        have : twords (d.take (j + 1)) = twords (d.take j) := by unfold twords; rw [hk]
        rw [this] at hn
        refine Ev.step (f := fun k => capnpref11_Words.l0 k d (twords (d.take j) : Int) (wrap64 ((j : Int) + 1))) (fun k => ?_) (by rw [w64 (by omega) (by omega)]; exact hn)
        simp only [capnpref11_Words.l0]
        rw [if_pos (by omega), if_pos (by omega), rd_at _ _ hlt, if_pos h0]
      · rw [if_neg (by simp [zeroB, h0]), hjl] at hk
        have : (twords (d.take (j + 1)) : Int) = (j : Int) / 8 + 1 := by unfold twords; rw [hk]; omega
        rw [this] at hn
        refine Ev.step (f := fun k => capnpref11_Words.l0 k d (wrap64 (wrap64 (Int.tdiv (j : Int) 8) + 1)) (wrap64 ((j : Int) + 1))) (fun k => ?_) ?_
        · simp only [capnpref11_Words.l0]
          rw [if_pos (by omega), if_pos (by omega), rd_at _ _ hlt, if_neg h0]
        · rw [Int.tdiv_eq_ediv_of_nonneg (by omega), w64 (x := (j : Int) / 8) (by omega) (by omega), w64 (x := (j : Int) / 8 + 1) (by omega) (by omega), w64 (x := (j : Int) + 1) (by omega) (by omega)]
          exact hn
  have h0 := loop d.length 0 (by omega) (by omega)
  rw [show (twords (d.take 0) : Int) = 0 by rw [List.take_zero]; rfl] at h0
  exact h0
theorem rptrs_ev (l : List S37) (h : l.length ≤ 1000000000000) : Ev (fun k => capnpref11_Pointers.f k l) (keptN nullN l : Int) := by
  unfold capnpref11_Pointers.f
  have loop : ∀ n j : Nat, l.length - j = n → j ≤ l.length → Ev (fun k => capnpref11_Pointers.l0 k l (keptN nullN (l.take j) : Int) (j : Int)) (keptN nullN l : Int) := by
    intro n
    induction n with
    | zero =>
      intro j hd hj
      refine Ev.step (f := fun _ => some (keptN nullN l : Int)) (fun k => ?_) (Ev.now _)
      simp only [capnpref11_Pointers.l0]
      rw [if_neg (by omega), List.take_of_length_le (by omega)]
    | succ n ih =>
      intro j hd hj
      have hlt : j < l.length := by omega
      have hn := ih (j + 1) (by omega) (by omega)
      have e2 : ((j + 1 : Nat) : Int) = (j : Int) + 1 := by omega
      have hk := keptN_snoc nullN (l.take j) l[j]
      rw [← take_one l j hlt] at hk
      have hjl : (l.take j).length = j := by simp; omega
      by_cases h0 : l[j].f0 = 0
      · rw [if_pos (by simp [nullN, h0])] at hk
        rw [hk, e2] at hn
        refine Ev.step (f := fun k => capnpref11_Pointers.l0 k l (keptN nullN (l.take j) : Int) (wrap64 ((j : Int) + 1))) (fun k => ?_) (by rw [w64 (by omega) (by omega)]; exact hn)
        simp only [capnpref11_Pointers.l0]
        rw [if_pos (by omega), if_pos (by omega), rdT_at _ _ hlt, if_pos h0]
      · rw [if_neg (by simp [nullN, h0]), hjl] at hk
        rw [hk, e2] at hn
        refine Ev.step (f := fun k => capnpref11_Pointers.l0 k l (wrap64 ((j : Int) + 1)) (wrap64 ((j : Int) + 1))) (fun k => ?_) (by rw [w64 (by omega) (by omega)]; exact hn)
        simp only [capnpref11_Pointers.l0]
        rw [if_pos (by omega), if_pos (by omega), rdT_at _ _ hlt, if_neg h0]
  have h0 := loop l.length 0 (by omega) (by omega)
  rw [show (keptN nullN (l.take 0) : Int) = 0 by rw [List.take_zero]; rfl] at h0
  exact h0
def cellsT (a : S37) : Int × Int × Int × List Int × (List S37) := (a.f0, a.f1, a.f2, a.f3, a.f4)
theorem mkT (a : S37) : (⟨(cellsT a).1, (cellsT a).2.1, (cellsT a).2.2.1, (cellsT a).2.2.2.1, (cellsT a).2.2.2.2⟩ : S37) = a := by cases a; rfl
theorem take_map {α β : Type} (f : α → β) (l : List α) (j : Nat) (h : j < l.length) : (l.take j).map f ++ [f l[j]] = (l.take (j + 1)).map f := by
  rw [take_one l j h, List.map_append]; rfl
theorem rtrim_ev (a : S37) : wordsT a → tsize a ≤ 1000000000000 → Ev (fun k => capnpref11_Trim.f k a.f0 a.f1 a.f2 a.f3 a.f4) (cellsT (ttrim a)) := by
  refine S37.ind (P := fun a => wordsT a → tsize a ≤ 1000000000000 → Ev (fun k => capnpref11_Trim.f k a.f0 a.f1 a.f2 a.f3 a.f4) (cellsT (ttrim a))) (fun a ih hw hs => ?_) a
  have he := tsize_eq a
  have hl := length_tsizes a.f4
  have hm : ∀ x ∈ a.f4, Ev (fun k => capnpref11_Trim.f k x.f0 x.f1 x.f2 x.f3 x.f4) (cellsT (ttrim x)) := fun x hx => ih x hx (AllT.kids hw x hx) (by have := tsize_kid hx; omega)
  have hc : cellsT (ttrim a) = (a.f0, a.f1, a.f2, cutD a, (cutK a).map ttrim) := by unfold cellsT; rw [ttrim_eq]
  have body : ∀ D K : Nat, D ≤ a.f3.length → K ≤ a.f4.length → Ev (fun k => capnpref11_Trim.j0 k (D : Int) (K : Int) a.f0 a.f1 a.f2 a.f3 a.f4) (a.f0, a.f1, a.f2, a.f3.take D, (a.f4.take K).map ttrim) := by
    intro D K hD hK
    have kids : ∀ d j : Nat, K - j = d → j ≤ K → Ev (fun k => capnpref11_Trim.l1 k (K : Int) (j : Int) a.f0 a.f1 a.f2 a.f3 a.f4 a.f0 a.f1 a.f2 (a.f3.take D) ((a.f4.take j).map ttrim)) (a.f0, a.f1, a.f2, a.f3.take D, (a.f4.take K).map ttrim) := by
      intro d
      induction d with
      | zero =>
        intro j hd hj
        obtain rfl : j = K := by omega
        refine Ev.step (f := fun _ => some (a.f0, a.f1, a.f2, a.f3.take D, (a.f4.take j).map ttrim)) (fun k => ?_) (Ev.now _)
        simp only [capnpref11_Trim.l1]
        rw [if_neg (by omega)]
      | succ d ihd =>
        intro j hd hj
        have hlt : j < a.f4.length := by omega
        have hn := ihd (j + 1) (by omega) (by omega)
        rw [← take_map _ _ _ hlt, show ((j + 1 : Nat) : Int) = (j : Int) + 1 by omega] at hn
        refine Ev.step (f := fun k => (capnpref11_Trim.f k a.f4[j].f0 a.f4[j].f1 a.f4[j].f2 a.f4[j].f3 a.f4[j].f4).bind fun bt => if ((a.f4.take j).map ttrim).length < 1954687338268 then capnpref11_Trim.l1 k (K : Int) (wrap64 ((j : Int) + 1)) a.f0 a.f1 a.f2 a.f3 a.f4 a.f0 a.f1 a.f2 (a.f3.take D) ((a.f4.take j).map ttrim ++ [(⟨bt.1, bt.2.1, bt.2.2.1, bt.2.2.2.1, bt.2.2.2.2⟩ : S37)]) else none) (fun k => ?_) ?_
        · simp only [capnpref11_Trim.l1]
          rw [if_pos (by omega), if_pos (by omega), if_pos (by omega), rdT_at _ _ hlt]
        · refine Ev.bind (hm _ (List.getElem_mem hlt)) ?_
          rw [w64 (by omega) (by omega)]
          exact Ev.congr (fun k => by rw [if_pos (by simp; omega), mkT]) hn
    have data : ∀ d j : Nat, D - j = d → j ≤ D → Ev (fun k => capnpref11_Trim.l0 k (D : Int) (K : Int) (j : Int) a.f0 a.f1 a.f2 a.f3 a.f4 a.f0 a.f1 a.f2 (a.f3.take j)) (a.f0, a.f1, a.f2, a.f3.take D, (a.f4.take K).map ttrim) := by
      intro d
      induction d with
      | zero =>
        intro j hd hj
        obtain rfl : j = D := by omega
        refine Ev.step (f := fun k => capnpref11_Trim.l1 k (K : Int) 0 a.f0 a.f1 a.f2 a.f3 a.f4 a.f0 a.f1 a.f2 (a.f3.take j) []) (fun k => ?_) (kids K 0 (by omega) (by omega))
        simp only [capnpref11_Trim.l0]
        rw [if_neg (by omega)]
      | succ d ihd =>
        intro j hd hj
        have hlt : j < a.f3.length := by omega
        have hn := ihd (j + 1) (by omega) (by omega)
        rw [take_one _ _ hlt] at hn
        refine Ev.step (f := fun k => capnpref11_Trim.l0 k (D : Int) (K : Int) (wrap64 ((j : Int) + 1)) a.f0 a.f1 a.f2 a.f3 a.f4 a.f0 a.f1 a.f2 (a.f3.take j ++ [a.f3[j]])) (fun k => ?_) (by rw [w64 (by omega) (by omega)]; exact hn)
        simp only [capnpref11_Trim.l0]
        rw [if_pos (by omega), if_pos (by omega), if_pos (by omega), if_pos (by simp; omega), rd_at _ _ hlt]
    refine Ev.step (f := fun k => capnpref11_Trim.l0 k (D : Int) (K : Int) 0 a.f0 a.f1 a.f2 a.f3 a.f4 a.f0 a.f1 a.f2 []) (fun k => by simp only [capnpref11_Trim.j0]) (data D 0 (by omega) (by omega))
  rw [hc]
  by_cases h0 : a.f0 = 1
  · have hlen := AllT.here hw h0
    have hwl := twords_le a.f3 hlen
    have hkl := keptN_le nullN a.f4
    refine Ev.step (f := fun k => (capnpref11_Words.f k a.f3).bind fun t => (capnpref11_Pointers.f k a.f4).bind fun u => capnpref11_Trim.j0 k (wrap64 (8 * t)) u a.f0 a.f1 a.f2 a.f3 a.f4) (fun k => by simp only [capnpref11_Trim.f]; rw [if_pos h0]) ?_
    refine Ev.bind (rwords_ev _ (by omega)) (Ev.bind (rptrs_ev _ (by omega)) ?_)
    rw [w64 (by omega) (by omega)]
    have := body (8 * twords a.f3) (keptN nullN a.f4) hwl hkl
    have e1 : ((8 * twords a.f3 : Nat) : Int) = 8 * (twords a.f3 : Int) := by omega
    rw [e1] at this
    unfold cutD cutK
    rw [if_pos h0, if_pos h0]
    exact this
  · refine Ev.step (f := fun k => capnpref11_Trim.j0 k (a.f3.length : Int) (a.f4.length : Int) a.f0 a.f1 a.f2 a.f3 a.f4) (fun k => by simp only [capnpref11_Trim.f]; rw [if_neg h0]) ?_
    have := body a.f3.length a.f4.length (Nat.le_refl _) (Nat.le_refl _)
    unfold cutD cutK
    rw [if_neg h0, if_neg h0]
    rwa [List.take_length, List.take_length] at this
theorem trim_any (a : S37) (hw : wordsT a) (hs : tsize a ≤ 1000000000000) (w : World) {A3 A4 : Option Addr} {c3 c4 : Nat} (h : k37.K w a [.int .i64 a.f0, .int .i64 a.f1, .int .i64 a.f2, .slice A3 a.f3.length c3, .slice A4 a.f4.length c4]) :
    Calls Tryd.prog 29 #[.agg #[.int .i64 a.f0, .int .i64 a.f1, .int .i64 a.f2, .slice A3 a.f3.length c3, .slice A4 a.f4.length c4]] w fun r w' => ∃ v3 v4, r = .returned (.agg #[.int .i64 (ttrim a).f0, .int .i64 (ttrim a).f1, .int .i64 (ttrim a).f2, v3, v4]) ∧ k37.M w' w.heap.size (fun _ => True) (ttrim a) [.int .i64 (ttrim a).f0, .int .i64 (ttrim a).f1, .int .i64 (ttrim a).f2, v3, v4] ∧ Below w.heap.size w w' := by
  obtain ⟨k, hk⟩ := (rtrim_ev a hw hs).rounds
  obtain ⟨B3, d3, B4, d4, e, l3, g3, l4, g4⟩ := k37_open h
  simp only [List.cons.injEq, Value.slice.injEq, true_and, and_true] at e
  obtain ⟨⟨rfl, rfl⟩, rfl, rfl⟩ := e
  refine (capnpref11_Trim.calls k a.f0 a.f1 a.f2 A3 c3 a.f3 A4 c4 a.f4 _ _ _ _ _ w g3 l3 g4 l4 hk).mono ?_
  rintro r w' ⟨v3, v4, rfl, h3, h4, hb⟩
  exact ⟨v3, v4, rfl, k37_mkM w' _ _ (ttrim a) h3 (Kd.R_mono h4 (fun _ _ => trivial)), hb⟩
end Go.Proofs.YtidglmocekghmaaDoor.Pr
end
section
namespace Go.Proofs.YtidglmocekghmaaDoor.Pr
def Good (k : Int) (q : Tr) (m : Int) : Prop := q.2.2 = 0 → (tsize q.1 : Int) ≤ k + 9 * (m - q.2.1) ∧ wordsT q.1
theorem kidsR_good {v : Int → Int → Tr} (hs : Sinks v) (k : Int) (hv : ∀ a m, 0 ≤ m → Good k (v a m) m) : ∀ (n : Nat) (a m : Int), 0 ≤ m → (kidsR v n a m).2.2 = 0 → (tsizes (kidsR v n a m).1 : Int) ≤ n * k + 9 * (m - (kidsR v n a m).2.1) ∧ ∀ x ∈ (kidsR v n a m).1, wordsT x
  | 0, a, m, hm, h => by simp [kidsR, tsizes]
  | n + 1, a, m, hm, h => by
    revert h
    unfold kidsR
    split
    · rename_i he
      intro h
      exact (he h).elim
    · rename_i he
      have he : (v a m).2.2 = 0 := by omega
      intro h
      have h1 := hv a m hm he
      have h2 := kidsR_good hs k hv n (a + 1) (v a m).2.1 (hs a m hm).1 h
      have h3 : ((n + 1 : Nat) : Int) * k = n * k + k := by rw [Int.natCast_add, Int.add_mul]; simp
      dsimp only
      rw [tsizes]
      refine ⟨by rw [h3]; omega, fun x hx => ?_⟩
      rcases List.mem_cons.1 hx with rfl | hx
      · exact h1.2
      · exact h2.2 x hx
theorem ndZ_good (k m : Int) (e : Int) (h : 1 ≤ k) (hw : wordsT ndZ) : Good k (ndZ, m, e) m := fun _ => ⟨by rw [tsize_eq]; simp [ndZ, tsizes]; omega, hw⟩
theorem ndZ_words : wordsT ndZ := .mk (by intro h; simp [ndZ] at h) (by intro x hx; simp [ndZ] at hx)
theorem cutG_length_le (G : List (List Int)) (s a : Int) (n : Int) (h : 0 ≤ n) : ((cutG G s a n).length : Int) ≤ n := by
  unfold cutG
  rw [List.length_take]
  omega
theorem strR_good (G : List (List Int)) {v : Int → Int → Int → Tr} (hs : ∀ sg, Sinks (v sg)) (hv : ∀ sg a m, 0 ≤ m → Good 1 (v sg a m) m) (o : Ob) (m : Int) (hm : 0 ≤ m) (d0 : 0 ≤ o.d) (p0 : 0 ≤ o.p) : Good (1 + 8 * o.d + o.p) (strR G v o m) m := by
  intro h
  have hk := kidsR_good (hs o.sg) 1 (hv o.sg) o.p.toNat (o.ad + o.d) m hm
  have hc := cutG_length_le G o.sg o.ad o.d d0
  revert h
  unfold strR
  split
  · rename_i he
    intro h
    exact (he h).elim
  · rename_i he
    intro h
    obtain ⟨h1, h2⟩ := hk (by omega)
    refine ⟨?_, .mk (fun _ => ?_) h2⟩
    · rw [tsize_eq, bytesL_length]
      dsimp only
      omega
    · rw [bytesL_length]
      omega
theorem trimE_len_le (e c : Int) (b : List Int) : (trimE e c b).length ≤ b.length := by
  unfold trimE
  split
  · rw [List.length_set, List.length_take]; omega
  · rw [List.length_take]; omega
theorem obj_c (G : List (List Int)) (s a : Int) (h : (objG G s a).2 = 0) (he : (folM G s a).2.2.2 = 0) (hx : (folM G s a).1 ≠ 0) : ((objG G s a).1.kd = 1 → (objG G s a).1.c = (objG G s a).1.d + (objG G s a).1.p) ∧ ((objG G s a).1.kd = 2 → (objG G s a).1.e = 7 → (objG G s a).1.n * ((objG G s a).1.d + (objG G s a).1.p) ≤ (objG G s a).1.c ∧ ((objG G s a).1.d + (objG G s a).1.p = 0 → (objG G s a).1.n ≤ (objG G s a).1.c)) := by
  revert h
  unfold objG
  rw [if_neg (by simpa using he), if_neg hx]
  generalize folM G s a = q
  obtain ⟨x, sg, ba, er⟩ := q
  dsimp only
  have q1 := pD_bd x
  have q2 := pP_bd x
  have q3 := pE_bd x
  have q4 := pC_bd x
  unfold desM
  split
  · split
    · intro h; cases h
    · intro h; cases h
  split
  · split
    · rename_i hi
      intro _
      exact ⟨fun _ => rfl, fun h => by simp at h⟩
    · intro h; cases h
  split
  · intro h; cases h
  rename_i hi
  have hi : inG G sg (ba + pO x) (wordsE (pE x) (pC x)) = true := by
    cases hh : inG G sg (ba + pO x) (wordsE (pE x) (pC x)) with
    | true => rfl
    | false => exact (hi hh).elim
  split
  · intro _
    exact ⟨fun h => by simp at h, fun _ h7 => by dsimp only at h7; omega⟩
  rename_i he7
  have he7 : pE x = 7 := by omega
  have hw : wordsE (pE x) (pC x) = pC x + 1 := by rw [he7]; rfl
  have t1 := pO_bd (wdG G sg (ba + pO x))
  have t2 := pD_bd (wdG G sg (ba + pO x))
  have t3 := pP_bd (wdG G sg (ba + pO x))
  generalize wdG G sg (ba + pO x) = t at *
  rw [hw] at hi ⊢
  unfold tagM
  split
  · intro h; cases h
  split
  · intro h; cases h
  split
  · intro h; cases h
  rename_i h1 h2 h3
  have hC := inG_sub (b := ba + pO x + 1) (k := pC x) hi (by omega) q4.1 (by omega)
  split
  all_goals
    intro _
    exact ⟨fun h => by simp at h, fun _ _ => ⟨by dsimp only; omega, fun hz => by dsimp only at hz ⊢; omega⟩⟩
theorem valR_good (G : List (List Int)) : ∀ f sg a m, 0 ≤ m → Good 1 (valR G f sg a m) m
  | f, sg, a, m => by
    intro hm
    induction f generalizing sg a m with
    | zero =>
      rw [valR]
      split
      · exact ndZ_good _ _ _ (by omega) ndZ_words
      split
      · exact ndZ_good _ _ _ (by omega) ndZ_words
      · exact ndZ_good _ _ _ (by omega) ndZ_words
    | succ f ih =>
      rw [valR]
      split
      · exact ndZ_good _ _ _ (by omega) ndZ_words
      rename_i he
      split
      · exact ndZ_good _ _ _ (by omega) ndZ_words
      rename_i hx
      split
      · exact ndZ_good _ _ _ (by omega) ndZ_words
      rename_i ho
      have hK := obj_ok G sg a (by omega) (by omega) hx
      have hC := obj_c G sg a (by omega) (by omega) hx
      generalize objG G sg a = q at *
      obtain ⟨o, _⟩ := q
      dsimp only at hK hC ⊢
      split
      · exact ndZ_good _ _ _ (by omega) ndZ_words
      have hs := valR_sinks G f
      have hst := fun (o : Ob) m => strR_good G hs (fun sg a m hm => ih sg a m hm) o m
      have hc0 := hK.c0
      have hm1 : 0 ≤ m - o.c := by omega
      unfold bodR
      rcases hK.is with ⟨hk, hi, d0, d1, p0, p1⟩ | ⟨hk, e0, e6, n0, n1, hw, hi⟩ | ⟨hk, e7, n0, n1, d0, d1, p0, p1, C, hi, hCC⟩
      · rw [if_pos hk]
        intro h
        have := hst o (m - o.c) hm1 d0 p0 h
        have hcc := hC.1 hk
        exact ⟨by omega, this.2⟩
      · rw [if_neg (by omega)]
        by_cases he6 : o.e < 6
        · rw [if_pos he6]
          intro _
          have h1 := trimE_len_le o.e o.n (bytesL (cutG G o.sg o.ad o.c))
          rw [bytesL_length] at h1
          have h2 := cutG_length_le G o.sg o.ad o.c hc0
          refine ⟨?_, .mk (fun h => by simp at h) (fun x hx => by simp at hx)⟩
          rw [tsize_eq]
          dsimp only
          rw [tsizes]
          omega
        · have he6 : o.e = 6 := by omega
          rw [if_neg (by omega), if_pos he6]
          have hwn : o.c = o.n := by rw [hw, he6]; unfold wordsE bitsE; simp; omega
          have hk := kidsR_good (hs o.sg) 1 (fun a m hm => ih o.sg a m hm) o.n.toNat o.ad (m - o.c) hm1
          split
          · rename_i hh
            intro h
            exact (hh h).elim
          · rename_i hh
            intro _
            obtain ⟨h1, h2⟩ := hk (by omega)
            refine ⟨?_, .mk (fun h => by simp at h) h2⟩
            rw [tsize_eq]
            dsimp only [List.length_nil]
            omega
      · rw [if_neg (by omega), if_neg (by omega), if_neg (by omega), elsR_kids]
        have hkk := kidsR_good (v := fun i m => strR G (valR G f) (elG o i) m) (fun i m h => strR_sinks G hs (elG o i) m h) (1 + 8 * o.d + o.p) (fun i m hm => hst (elG o i) m hm d0 p0) o.n.toNat 0 (m - o.c) hm1
        split
        · rename_i hh
          intro h
          exact (hh h).elim
        · rename_i hh
          intro _
          obtain ⟨h1, h2⟩ := hkk (by omega)
          refine ⟨?_, .mk (fun h => by simp at h) h2⟩
          rw [tsize_eq]
          dsimp only [List.length_nil]
          obtain ⟨c1, c2⟩ := hC.2 hk e7
          rw [show ((o.n.toNat : Nat) : Int) = o.n by omega] at h1
          have y : o.n * (1 + 8 * o.d + o.p) ≤ 9 * o.c := by
            by_cases hz : o.d + o.p = 0
            · have := c2 hz
              rw [show 1 + 8 * o.d + o.p = 1 by omega]
              omega
            · have y1 : o.n * (1 + 8 * o.d + o.p) ≤ o.n * (9 * (o.d + o.p)) := Int.mul_le_mul_of_nonneg_left (by omega) n0
              rw [Int.mul_left_comm] at y1
              omega
          generalize o.n * (1 + 8 * o.d + o.p) = z at *
          omega
end Go.Proofs.YtidglmocekghmaaDoor.Pr
end
section
namespace Go.Proofs.YtidglmocekghmaaDoor.Pr
open Go.RowKit Go.Proofs.YtidglmocekghmaaDoorW.PrintWords Go.Proofs.YtidglmocekghmaaDoorW.PrintLast Go.Proofs.YtidglmocekghmaaDoorW.PrintMore
set_option linter.unusedVariables false
set_option linter.unusedSimpArgs false
def msgR (G : List (List Int)) (D Wd : Int) : S37 × Int :=
  if G.length ≠ 0 ∧ (sgG G 0).length = 0 then (ndZ, 0)
  else if (valR G D.toNat 0 0 (startM Wd)).2.2 ≠ 0 then (ndZ, (valR G D.toNat 0 0 (startM Wd)).2.2)
  else (ttrim (valR G D.toNat 0 0 (startM Wd)).1, 0)
theorem jn {P : Program} {Q : Exit → Act → World → Prop} {c : Code} {a : Act} {w : World} {σ : Type} (F : σ → World → Prop) (ns : σ → List (Tmp × Value)) (h1 : ∀ s w', F s w' → Q .normal (putAll a (ns s)) w') (h2 : (∀ s w', F s w' → Q .normal (putAll a (ns s)) w') → c.wp P Q a w) : c.wp P Q a w := h2 h1
theorem trim_opn (a : S37) (hw : wordsT a) (hs : tsize a ≤ 1000000000000) (w : World) {A3 A4 : Option Addr} {c3 c4 : Nat} (h : k37.K w a [.int .i64 a.f0, .int .i64 a.f1, .int .i64 a.f2, .slice A3 a.f3.length c3, .slice A4 a.f4.length c4]) :
    Calls Tryd.prog 29 #[.agg #[.int .i64 a.f0, .int .i64 a.f1, .int .i64 a.f2, .slice A3 a.f3.length c3, .slice A4 a.f4.length c4]] w fun r w' => ∃ B3 d3 B4 d4, r = .returned (.agg #[.int .i64 (ttrim a).f0, .int .i64 (ttrim a).f1, .int .i64 (ttrim a).f2, .slice B3 (ttrim a).f3.length d3, .slice B4 (ttrim a).f4.length d4]) ∧ k37.M w' w.heap.size (fun _ => True) (ttrim a) [.int .i64 (ttrim a).f0, .int .i64 (ttrim a).f1, .int .i64 (ttrim a).f2, .slice B3 (ttrim a).f3.length d3, .slice B4 (ttrim a).f4.length d4] ∧ Below w.heap.size w w' := by
  refine (trim_any a hw hs w h).mono ?_
  rintro r w' ⟨v3, v4, rfl, hM, hb⟩
  obtain ⟨B3, d3, B4, d4, e, _⟩ := k37_open (k37.K_of_M hM)
  simp only [List.cons.injEq, true_and, and_true] at e
  obtain ⟨rfl, rfl⟩ := e
  exact ⟨B3, d3, B4, d4, rfl, hM, hb⟩
def MsV (w : World) (q : S37 × Int) (r : Ending) (w' : World) : Prop := ∃ v3 v4, r = .returned (.tuple #[.agg #[.int .i64 q.1.f0, .int .i64 q.1.f1, .int .i64 q.1.f2, v3, v4], .int .i64 q.2]) ∧ k37.M w' w.heap.size (fun _ => True) q.1 [.int .i64 q.1.f0, .int .i64 q.1.f1, .int .i64 q.1.f2, v3, v4] ∧ Below w.heap.size w w'
set_option maxRecDepth 100000 in
set_option maxHeartbeats 4000000 in
theorem msg_any (A : Option Addr) (cp : Nat) (G : List (List Int)) (D Wd O : Int) (w : World) (hE : EnvG w A G) (hD : D ≤ 40) (hW : Wd ≤ 2000) :
    Calls Tryd.prog 16 #[.slice A G.length cp, limV D Wd O] w (MsV w (msgR G D Wd)) := by
  have hs0 : 0 ≤ startM Wd ∧ startM Wd ≤ 2000 := by unfold startM; split <;> omega
  have HV := fun w' (hb : Below w.heap.size w w') => Lib.hid (val_any D.toNat A cp G D Wd O (startM Wd) 0 0 1 w' (hE.below hb) (by omega) (by omega) (by omega) hs0.1 (by omega) (by omega) (by omega) (by omega))
  have HG := Lib.hid (valR_good G D.toNat 0 0 (startM Wd) hs0.1)
  have HN := Lib.hid (valR_sinks G D.toNat 0 0 (startM Wd) hs0.1)
  have HS := fun w' => Lib.hid (start_any D Wd O w')
  have HR := Lib.hid (msgR.eq_1 G D Wd)
  have HX : Hid (∀ i : Nat, i < G.length → ∃ ad A0 c0, A = some ad ∧ w.cell? (ad.add i) = some (.slice A0 (sgG G i).length c0)) := Lib.hid (fun i hi => by
    obtain ⟨ad, A0, c0, h1, h2, _⟩ := at_G hE.rd i hi
    exact ⟨ad, A0, c0, h1, h2⟩)
  have hlen := hE.len
  have S := Sep.start w
  clear hE hD hW
  generalize msgR G D Wd = r at *
  generalize valR G D.toNat 0 0 (startM Wd) = q at *
  obtain ⟨⟨f0, f1, f2, f3, f4⟩, m', e'⟩ := q
  dsimp only at HR HG HN
  generalize startM Wd = m at *
  by_cases h0 : G.length ≠ 0 ∧ (sgG G 0).length = 0
  · replace HR := Lib.hid (HR.out.trans (if_pos h0))
    obtain ⟨ad, A0, c0, rfl, hv⟩ := HX.out 0 (by omega)
    have h1 : 0 < G.length := by omega
    rw [show sgG G ((0 : Nat) : Int) = sgG G 0 from rfl, h0.2] at hv
    have h2 : ((G.length : Int) > 0) := by omega
    have hv0 : ad.add 0 = ad := rfl
    rw [hv0] at hv
    clear h0 hv0
    go_enter Tryd.func16, Tryd.ntmps16
    go_wp2_with (first | go_skip | ((with_reducible refine wl ?_); first | refine sn S (fun g w1 S => ?_) | refine ss S (fun w1 S => ?_) | refine sl S ?_ | refine sa S ?_ | refine sx S hv ?_))
    have S1 := ((S.nil k37 37).nil (Kd.int .u8) 5).node (f0 := 0) (f1 := 0) (f2 := 0)
    have HR := HR.out
    subst HR
    exact rt S ⟨_, _, rfl, S1.out .here, S.below⟩
  replace HR := Lib.hid (HR.out.trans (if_neg h0))
  replace HS := HS
  by_cases h1 : G.length = 0
  · obtain rfl : G = [] := List.eq_nil_of_length_eq_zero h1
    clear h0 h1
    go_enter Tryd.func16, Tryd.ntmps16
    go_wp2_with (first | go_skip | ((with_reducible refine wl ?_); first | (refine sn S (fun g w1 S => ?_); first | ((fail_if_success (have := g3)); revert g; intro g3 S) | ((fail_if_success (have := g4)); revert g; intro g4 S)) | refine ss S (fun w1 S => ?_) | refine sl S ?_ | refine sa S ?_ ))
    refine jn (fun (s : Nat × Nat × Option Addr × Nat × Option Addr × Nat) w' => Sep w w' [.made k37 ⟨f0, f1, f2, f3, f4⟩ [.int .i64 f0, .int .i64 f1, .int .i64 f2, .slice s.2.2.1 f3.length s.2.2.2.1, .slice s.2.2.2.2.1 f4.length s.2.2.2.2.2], .box s.2.1 #[.int .i64 m'] 52, .box s.1 [.int .i64 f0, .int .i64 f1, .int .i64 f2, .slice s.2.2.1 f3.length s.2.2.2.1, .slice s.2.2.2.2.1 f4.length s.2.2.2.2.2].toArray 37, .box g4 #[.int .i64 0, .int .i64 0, .int .i64 0, .slice none 0 0, .slice none 0 0] 37, .box g3 #[.int .i64 D, .int .i64 Wd, .int .i64 O] 24]) (fun s => [(21, .slice A ([] : List (List Int)).length cp), (22, limV D Wd O), (23, limV D Wd O), (24, .agg #[.int .i64 m]), (25, .tuple #[.agg #[.int .i64 f0, .int .i64 f1, .int .i64 f2, .slice s.2.2.1 f3.length s.2.2.2.1, .slice s.2.2.2.2.1 f4.length s.2.2.2.2.2], .agg #[.int .i64 m'], .int .i64 e']), (20, .tuple #[.agg #[.int .i64 f0, .int .i64 f1, .int .i64 f2, .slice s.2.2.1 f3.length s.2.2.2.1, .slice s.2.2.2.2.1 f4.length s.2.2.2.2.2], .agg #[.int .i64 m'], .int .i64 e']), (26, .agg #[.int .i64 f0, .int .i64 f1, .int .i64 f2, .slice s.2.2.1 f3.length s.2.2.2.1, .slice s.2.2.2.2.1 f4.length s.2.2.2.2.2]), (27, .agg #[.int .i64 m']), (28, .int .i64 e'), (6, .pointer (some ⟨s.1, 0, none⟩)), (7, .pointer (some ⟨s.2.1, 0, none⟩)), (8, .int .i64 e')]) (fun s w' S => ?_) (fun hJ => ?_)
    · obtain ⟨g6, g7, B3, d3, B4, d4⟩ := s
      dsimp only at S
      simp only [putAll, Act.put, List.setIfInBounds_toArray, List.set_cons_zero, List.set_cons_succ]
      by_cases he : e' ≠ 0
      · replace HR := Lib.hid (HR.out.trans (if_pos he))
        have t1 : (e' != 0) = true := bne_iff_ne.2 he
        clear he HG HN
        go_wp2_with (first | go_skip | ((with_reducible refine wl ?_); first | refine sn S (fun g w1 S => ?_) | refine ss S (fun w1 S => ?_) | refine sl S ?_ | refine sa S ?_))
        have S1 := ((S.nil k37 37).nil (Kd.int .u8) 5).node (f0 := 0) (f1 := 0) (f2 := 0)
        have HR := HR.out
        subst HR
        exact rt S ⟨_, _, rfl, S1.out .here, S.below⟩
      · replace HR := Lib.hid (HR.out.trans (if_neg he))
        obtain rfl : e' = 0 := by omega
        obtain ⟨hg1, hg2⟩ := HG.out rfl
        have HT := fun w' (h : k37.K w' ⟨f0, f1, f2, f3, f4⟩ [.int .i64 f0, .int .i64 f1, .int .i64 f2, .slice B3 f3.length d3, .slice B4 f4.length d4]) => Lib.hid (trim_opn ⟨f0, f1, f2, f3, f4⟩ hg2 (by have := HN.out; dsimp only at hg1; omega) w' h)
        clear hg1 hg2 HG HN he
        generalize ttrim ⟨f0, f1, f2, f3, f4⟩ = z at *
        obtain ⟨z0, z1, z2, z3, z4⟩ := z
        dsimp only at HT
        go_wp2_with (first | go_skip | ((with_reducible refine wl ?_); first | refine sn S (fun g w1 S => ?_) | refine ss S (fun w1 S => ?_) | refine sl S ?_ | refine sa S ?_) | ((with_reducible refine (HT _ (k37.K_of_M (S.out .here))).out.mono ?_); rintro r' w' ⟨C3, d5, C4, d6, rfl, hM, hb⟩; replace S := S.push (a := .made k37 _ _) hb hM))
        have HR := HR.out
        subst HR
        exact rt S ⟨_, _, rfl, S.out .here, S.below⟩
    refine rs [1] S (fun w1 S => ?_)
    refine pu 0 21 ?_
    refine lt 1 S ?_
    refine lt 2 S ?_
    refine rd [3, 9, 10] (by simp) (List.forall_mem_cons.2 ⟨?_, List.forall_mem_cons.2 ⟨?_, List.forall_mem_cons.2 ⟨?_, List.forall_mem_nil _⟩⟩⟩)
    · refine rc 24 Tryd.func28 (HS _).out (fun r' w2 hT => ?_)
      obtain ⟨rfl, hb⟩ := hT
      replace S := S.call hb
      refine ⟨_, rfl, S.kpq 0, _, rfl, ?_⟩
      simp only [Act.put, List.setIfInBounds_toArray, List.set_cons_zero, List.set_cons_succ]
      refine rd [4, 9, 10] (by simp) (List.forall_mem_cons.2 ⟨?_, List.forall_mem_cons.2 ⟨?_, List.forall_mem_cons.2 ⟨?_, List.forall_mem_nil _⟩⟩⟩)
      · refine rc 25 Tryd.func27 (HV _ S.below).out (fun r' w2 hT => ?_)
        obtain ⟨B3, d3, B4, d4, rfl, hM, hb⟩ := TrV.openV hT
        replace S := S.push (a := .made k37 _ _) hb hM
        dsimp only at S
        refine ⟨_, rfl, S.kpq 1, _, rfl, ?_⟩
        simp only [Act.put, List.setIfInBounds_toArray, List.set_cons_zero, List.set_cons_succ]
        refine pu 5 20 ?_
        refine pu 6 26 ?_
        refine pu 7 27 ?_
        refine pu 8 28 ?_
        refine rd [9, 10] (by simp) (List.forall_mem_cons.2 ⟨?_, List.forall_mem_cons.2 ⟨?_, List.forall_mem_nil _⟩⟩)
        · refine rn 6 S (fun g6 w2 S => ⟨S.kpq 2, ?_⟩)
          refine rd [10] (by simp) (List.forall_mem_cons.2 ⟨?_, List.forall_mem_nil _⟩)
          · refine rn 7 S (fun g7 w2 S => ⟨S.kpq 3, ?_⟩)
            refine lsd 11 3 S (fun w2 S => ?_)
            refine lsd 12 3 S (fun w2 S => ?_)
            refine pu 13 8 ?_
            refine dn ?_
            replace S := S.pick 1 rfl rfl
            replace S := S.pick 1 rfl rfl
            replace S := S.pick 2 rfl rfl
            have hj := hJ (g6, g7, B3, d3, B4, d4) _ S
            simp only [putAll, Act.put, List.setIfInBounds_toArray, List.set_cons_zero, List.set_cons_succ] at hj
            exact hj
        · refine rn 7 S (fun g7 w2 S => ⟨S.kpq 2, ?_⟩)
          refine rd [9] (by simp) (List.forall_mem_cons.2 ⟨?_, List.forall_mem_nil _⟩)
          · refine rn 6 S (fun g6 w2 S => ⟨S.kpq 3, ?_⟩)
            refine lsd 11 3 S (fun w2 S => ?_)
            refine lsd 12 3 S (fun w2 S => ?_)
            refine pu 13 8 ?_
            refine dn ?_
            replace S := S.pick 0 rfl rfl
            replace S := S.pick 1 rfl rfl
            replace S := S.pick 2 rfl rfl
            have hj := hJ (g6, g7, B3, d3, B4, d4) _ S
            simp only [putAll, Act.put, List.setIfInBounds_toArray, List.set_cons_zero, List.set_cons_succ] at hj
            exact hj
      · refine rn 6 S (fun g6 w2 S => ⟨S.kpq 1, ?_⟩)
        refine rd [4, 10] (by simp) (List.forall_mem_cons.2 ⟨?_, List.forall_mem_cons.2 ⟨?_, List.forall_mem_nil _⟩⟩)
        · refine rc 25 Tryd.func27 (HV _ S.below).out (fun r' w2 hT => ?_)
          obtain ⟨B3, d3, B4, d4, rfl, hM, hb⟩ := TrV.openV hT
          replace S := S.push (a := .made k37 _ _) hb hM
          dsimp only at S
          refine ⟨_, rfl, S.kpq 2, _, rfl, ?_⟩
          simp only [Act.put, List.setIfInBounds_toArray, List.set_cons_zero, List.set_cons_succ]
          refine pu 5 20 ?_
          refine pu 6 26 ?_
          refine pu 7 27 ?_
          refine pu 8 28 ?_
          refine rd [10] (by simp) (List.forall_mem_cons.2 ⟨?_, List.forall_mem_nil _⟩)
          · refine rn 7 S (fun g7 w2 S => ⟨S.kpq 3, ?_⟩)
            refine lsd 11 3 S (fun w2 S => ?_)
            refine lsd 12 3 S (fun w2 S => ?_)
            refine pu 13 8 ?_
            refine dn ?_
            replace S := S.pick 2 rfl rfl
            replace S := S.pick 1 rfl rfl
            replace S := S.pick 2 rfl rfl
            have hj := hJ (g6, g7, B3, d3, B4, d4) _ S
            simp only [putAll, Act.put, List.setIfInBounds_toArray, List.set_cons_zero, List.set_cons_succ] at hj
            exact hj
        · refine rn 7 S (fun g7 w2 S => ⟨S.kpq 2, ?_⟩)
          refine rd [4] (by simp) (List.forall_mem_cons.2 ⟨?_, List.forall_mem_nil _⟩)
          · refine rc 25 Tryd.func27 (HV _ S.below).out (fun r' w2 hT => ?_)
            obtain ⟨B3, d3, B4, d4, rfl, hM, hb⟩ := TrV.openV hT
            replace S := S.push (a := .made k37 _ _) hb hM
            dsimp only at S
            refine ⟨_, rfl, S.kpq 3, _, rfl, ?_⟩
            simp only [Act.put, List.setIfInBounds_toArray, List.set_cons_zero, List.set_cons_succ]
            refine pu 5 20 ?_
            refine pu 6 26 ?_
            refine pu 7 27 ?_
            refine pu 8 28 ?_
            refine lsd 11 3 S (fun w2 S => ?_)
            refine lsd 12 3 S (fun w2 S => ?_)
            refine pu 13 8 ?_
            refine dn ?_
            replace S := S.pick 2 rfl rfl
            replace S := S.pick 2 rfl rfl
            replace S := S.pick 2 rfl rfl
            have hj := hJ (g6, g7, B3, d3, B4, d4) _ S
            simp only [putAll, Act.put, List.setIfInBounds_toArray, List.set_cons_zero, List.set_cons_succ] at hj
            exact hj
      · refine rn 7 S (fun g7 w2 S => ⟨S.kpq 1, ?_⟩)
        refine rd [4, 9] (by simp) (List.forall_mem_cons.2 ⟨?_, List.forall_mem_cons.2 ⟨?_, List.forall_mem_nil _⟩⟩)
        · refine rc 25 Tryd.func27 (HV _ S.below).out (fun r' w2 hT => ?_)
          obtain ⟨B3, d3, B4, d4, rfl, hM, hb⟩ := TrV.openV hT
          replace S := S.push (a := .made k37 _ _) hb hM
          dsimp only at S
          refine ⟨_, rfl, S.kpq 2, _, rfl, ?_⟩
          simp only [Act.put, List.setIfInBounds_toArray, List.set_cons_zero, List.set_cons_succ]
          refine pu 5 20 ?_
          refine pu 6 26 ?_
          refine pu 7 27 ?_
          refine pu 8 28 ?_
          refine rd [9] (by simp) (List.forall_mem_cons.2 ⟨?_, List.forall_mem_nil _⟩)
          · refine rn 6 S (fun g6 w2 S => ⟨S.kpq 3, ?_⟩)
            refine lsd 11 3 S (fun w2 S => ?_)
            refine lsd 12 3 S (fun w2 S => ?_)
            refine pu 13 8 ?_
            refine dn ?_
            replace S := S.pick 0 rfl rfl
            replace S := S.pick 2 rfl rfl
            replace S := S.pick 2 rfl rfl
            have hj := hJ (g6, g7, B3, d3, B4, d4) _ S
            simp only [putAll, Act.put, List.setIfInBounds_toArray, List.set_cons_zero, List.set_cons_succ] at hj
            exact hj
        · refine rn 6 S (fun g6 w2 S => ⟨S.kpq 2, ?_⟩)
          refine rd [4] (by simp) (List.forall_mem_cons.2 ⟨?_, List.forall_mem_nil _⟩)
          · refine rc 25 Tryd.func27 (HV _ S.below).out (fun r' w2 hT => ?_)
            obtain ⟨B3, d3, B4, d4, rfl, hM, hb⟩ := TrV.openV hT
            replace S := S.push (a := .made k37 _ _) hb hM
            dsimp only at S
            refine ⟨_, rfl, S.kpq 3, _, rfl, ?_⟩
            simp only [Act.put, List.setIfInBounds_toArray, List.set_cons_zero, List.set_cons_succ]
            refine pu 5 20 ?_
            refine pu 6 26 ?_
            refine pu 7 27 ?_
            refine pu 8 28 ?_
            refine lsd 11 3 S (fun w2 S => ?_)
            refine lsd 12 3 S (fun w2 S => ?_)
            refine pu 13 8 ?_
            refine dn ?_
            replace S := S.pick 1 rfl rfl
            replace S := S.pick 2 rfl rfl
            replace S := S.pick 2 rfl rfl
            have hj := hJ (g6, g7, B3, d3, B4, d4) _ S
            simp only [putAll, Act.put, List.setIfInBounds_toArray, List.set_cons_zero, List.set_cons_succ] at hj
            exact hj
    · refine rn 6 S (fun g6 w2 S => ⟨S.kpq 1, ?_⟩)
      refine rd [3, 10] (by simp) (List.forall_mem_cons.2 ⟨?_, List.forall_mem_cons.2 ⟨?_, List.forall_mem_nil _⟩⟩)
      · refine rc 24 Tryd.func28 (HS _).out (fun r' w2 hT => ?_)
        obtain ⟨rfl, hb⟩ := hT
        replace S := S.call hb
        refine ⟨_, rfl, S.kpq 1, _, rfl, ?_⟩
        simp only [Act.put, List.setIfInBounds_toArray, List.set_cons_zero, List.set_cons_succ]
        refine rd [4, 10] (by simp) (List.forall_mem_cons.2 ⟨?_, List.forall_mem_cons.2 ⟨?_, List.forall_mem_nil _⟩⟩)
        · refine rc 25 Tryd.func27 (HV _ S.below).out (fun r' w2 hT => ?_)
          obtain ⟨B3, d3, B4, d4, rfl, hM, hb⟩ := TrV.openV hT
          replace S := S.push (a := .made k37 _ _) hb hM
          dsimp only at S
          refine ⟨_, rfl, S.kpq 2, _, rfl, ?_⟩
          simp only [Act.put, List.setIfInBounds_toArray, List.set_cons_zero, List.set_cons_succ]
          refine pu 5 20 ?_
          refine pu 6 26 ?_
          refine pu 7 27 ?_
          refine pu 8 28 ?_
          refine rd [10] (by simp) (List.forall_mem_cons.2 ⟨?_, List.forall_mem_nil _⟩)
          · refine rn 7 S (fun g7 w2 S => ⟨S.kpq 3, ?_⟩)
            refine lsd 11 3 S (fun w2 S => ?_)
            refine lsd 12 3 S (fun w2 S => ?_)
            refine pu 13 8 ?_
            refine dn ?_
            replace S := S.pick 2 rfl rfl
            replace S := S.pick 1 rfl rfl
            replace S := S.pick 2 rfl rfl
            have hj := hJ (g6, g7, B3, d3, B4, d4) _ S
            simp only [putAll, Act.put, List.setIfInBounds_toArray, List.set_cons_zero, List.set_cons_succ] at hj
            exact hj
        · refine rn 7 S (fun g7 w2 S => ⟨S.kpq 2, ?_⟩)
          refine rd [4] (by simp) (List.forall_mem_cons.2 ⟨?_, List.forall_mem_nil _⟩)
          · refine rc 25 Tryd.func27 (HV _ S.below).out (fun r' w2 hT => ?_)
            obtain ⟨B3, d3, B4, d4, rfl, hM, hb⟩ := TrV.openV hT
            replace S := S.push (a := .made k37 _ _) hb hM
            dsimp only at S
            refine ⟨_, rfl, S.kpq 3, _, rfl, ?_⟩
            simp only [Act.put, List.setIfInBounds_toArray, List.set_cons_zero, List.set_cons_succ]
            refine pu 5 20 ?_
            refine pu 6 26 ?_
            refine pu 7 27 ?_
            refine pu 8 28 ?_
            refine lsd 11 3 S (fun w2 S => ?_)
            refine lsd 12 3 S (fun w2 S => ?_)
            refine pu 13 8 ?_
            refine dn ?_
            replace S := S.pick 2 rfl rfl
            replace S := S.pick 2 rfl rfl
            replace S := S.pick 2 rfl rfl
            have hj := hJ (g6, g7, B3, d3, B4, d4) _ S
            simp only [putAll, Act.put, List.setIfInBounds_toArray, List.set_cons_zero, List.set_cons_succ] at hj
            exact hj
      · refine rn 7 S (fun g7 w2 S => ⟨S.kpq 2, ?_⟩)
        refine rd [3] (by simp) (List.forall_mem_cons.2 ⟨?_, List.forall_mem_nil _⟩)
        · refine rc 24 Tryd.func28 (HS _).out (fun r' w2 hT => ?_)
          obtain ⟨rfl, hb⟩ := hT
          replace S := S.call hb
          refine ⟨_, rfl, S.kpq 2, _, rfl, ?_⟩
          simp only [Act.put, List.setIfInBounds_toArray, List.set_cons_zero, List.set_cons_succ]
          refine rd [4] (by simp) (List.forall_mem_cons.2 ⟨?_, List.forall_mem_nil _⟩)
          · refine rc 25 Tryd.func27 (HV _ S.below).out (fun r' w2 hT => ?_)
            obtain ⟨B3, d3, B4, d4, rfl, hM, hb⟩ := TrV.openV hT
            replace S := S.push (a := .made k37 _ _) hb hM
            dsimp only at S
            refine ⟨_, rfl, S.kpq 3, _, rfl, ?_⟩
            simp only [Act.put, List.setIfInBounds_toArray, List.set_cons_zero, List.set_cons_succ]
            refine pu 5 20 ?_
            refine pu 6 26 ?_
            refine pu 7 27 ?_
            refine pu 8 28 ?_
            refine lsd 11 3 S (fun w2 S => ?_)
            refine lsd 12 3 S (fun w2 S => ?_)
            refine pu 13 8 ?_
            refine dn ?_
            replace S := S.pick 2 rfl rfl
            replace S := S.pick 2 rfl rfl
            replace S := S.pick 2 rfl rfl
            have hj := hJ (g6, g7, B3, d3, B4, d4) _ S
            simp only [putAll, Act.put, List.setIfInBounds_toArray, List.set_cons_zero, List.set_cons_succ] at hj
            exact hj
    · refine rn 7 S (fun g7 w2 S => ⟨S.kpq 1, ?_⟩)
      refine rd [3, 9] (by simp) (List.forall_mem_cons.2 ⟨?_, List.forall_mem_cons.2 ⟨?_, List.forall_mem_nil _⟩⟩)
      · refine rc 24 Tryd.func28 (HS _).out (fun r' w2 hT => ?_)
        obtain ⟨rfl, hb⟩ := hT
        replace S := S.call hb
        refine ⟨_, rfl, S.kpq 1, _, rfl, ?_⟩
        simp only [Act.put, List.setIfInBounds_toArray, List.set_cons_zero, List.set_cons_succ]
        refine rd [4, 9] (by simp) (List.forall_mem_cons.2 ⟨?_, List.forall_mem_cons.2 ⟨?_, List.forall_mem_nil _⟩⟩)
        · refine rc 25 Tryd.func27 (HV _ S.below).out (fun r' w2 hT => ?_)
          obtain ⟨B3, d3, B4, d4, rfl, hM, hb⟩ := TrV.openV hT
          replace S := S.push (a := .made k37 _ _) hb hM
          dsimp only at S
          refine ⟨_, rfl, S.kpq 2, _, rfl, ?_⟩
          simp only [Act.put, List.setIfInBounds_toArray, List.set_cons_zero, List.set_cons_succ]
          refine pu 5 20 ?_
          refine pu 6 26 ?_
          refine pu 7 27 ?_
          refine pu 8 28 ?_
          refine rd [9] (by simp) (List.forall_mem_cons.2 ⟨?_, List.forall_mem_nil _⟩)
          · refine rn 6 S (fun g6 w2 S => ⟨S.kpq 3, ?_⟩)
            refine lsd 11 3 S (fun w2 S => ?_)
            refine lsd 12 3 S (fun w2 S => ?_)
            refine pu 13 8 ?_
            refine dn ?_
            replace S := S.pick 0 rfl rfl
            replace S := S.pick 2 rfl rfl
            replace S := S.pick 2 rfl rfl
            have hj := hJ (g6, g7, B3, d3, B4, d4) _ S
            simp only [putAll, Act.put, List.setIfInBounds_toArray, List.set_cons_zero, List.set_cons_succ] at hj
            exact hj
        · refine rn 6 S (fun g6 w2 S => ⟨S.kpq 2, ?_⟩)
          refine rd [4] (by simp) (List.forall_mem_cons.2 ⟨?_, List.forall_mem_nil _⟩)
          · refine rc 25 Tryd.func27 (HV _ S.below).out (fun r' w2 hT => ?_)
            obtain ⟨B3, d3, B4, d4, rfl, hM, hb⟩ := TrV.openV hT
            replace S := S.push (a := .made k37 _ _) hb hM
            dsimp only at S
            refine ⟨_, rfl, S.kpq 3, _, rfl, ?_⟩
            simp only [Act.put, List.setIfInBounds_toArray, List.set_cons_zero, List.set_cons_succ]
            refine pu 5 20 ?_
            refine pu 6 26 ?_
            refine pu 7 27 ?_
            refine pu 8 28 ?_
            refine lsd 11 3 S (fun w2 S => ?_)
            refine lsd 12 3 S (fun w2 S => ?_)
            refine pu 13 8 ?_
            refine dn ?_
            replace S := S.pick 1 rfl rfl
            replace S := S.pick 2 rfl rfl
            replace S := S.pick 2 rfl rfl
            have hj := hJ (g6, g7, B3, d3, B4, d4) _ S
            simp only [putAll, Act.put, List.setIfInBounds_toArray, List.set_cons_zero, List.set_cons_succ] at hj
            exact hj
      · refine rn 6 S (fun g6 w2 S => ⟨S.kpq 2, ?_⟩)
        refine rd [3] (by simp) (List.forall_mem_cons.2 ⟨?_, List.forall_mem_nil _⟩)
        · refine rc 24 Tryd.func28 (HS _).out (fun r' w2 hT => ?_)
          obtain ⟨rfl, hb⟩ := hT
          replace S := S.call hb
          refine ⟨_, rfl, S.kpq 2, _, rfl, ?_⟩
          simp only [Act.put, List.setIfInBounds_toArray, List.set_cons_zero, List.set_cons_succ]
          refine rd [4] (by simp) (List.forall_mem_cons.2 ⟨?_, List.forall_mem_nil _⟩)
          · refine rc 25 Tryd.func27 (HV _ S.below).out (fun r' w2 hT => ?_)
            obtain ⟨B3, d3, B4, d4, rfl, hM, hb⟩ := TrV.openV hT
            replace S := S.push (a := .made k37 _ _) hb hM
            dsimp only at S
            refine ⟨_, rfl, S.kpq 3, _, rfl, ?_⟩
            simp only [Act.put, List.setIfInBounds_toArray, List.set_cons_zero, List.set_cons_succ]
            refine pu 5 20 ?_
            refine pu 6 26 ?_
            refine pu 7 27 ?_
            refine pu 8 28 ?_
            refine lsd 11 3 S (fun w2 S => ?_)
            refine lsd 12 3 S (fun w2 S => ?_)
            refine pu 13 8 ?_
            refine dn ?_
            replace S := S.pick 1 rfl rfl
            replace S := S.pick 2 rfl rfl
            replace S := S.pick 2 rfl rfl
            have hj := hJ (g6, g7, B3, d3, B4, d4) _ S
            simp only [putAll, Act.put, List.setIfInBounds_toArray, List.set_cons_zero, List.set_cons_succ] at hj
            exact hj
  · obtain ⟨ad, A0, c0, rfl, hv⟩ := HX.out 0 (by omega)
    have h2 : ((G.length : Int) > 0) := by omega
    have hv0 : ad.add 0 = ad := rfl
    rw [hv0] at hv
    have h5 : (((sgG G ((0 : Nat) : Int)).length : Int) == 0) = false := beq_eq_false_iff_ne.2 (fun h => h0 ⟨h1, by simpa using h⟩)
    generalize (sgG G ((0 : Nat) : Int)).length = k at *
    clear h0 hv0 h1
    go_enter Tryd.func16, Tryd.ntmps16
    go_wp2_with (first | go_skip | ((with_reducible refine wl ?_); first | (refine sn S (fun g w1 S => ?_); first | ((fail_if_success (have := g3)); revert g; intro g3 S) | ((fail_if_success (have := g4)); revert g; intro g4 S)) | refine ss S (fun w1 S => ?_) | refine sl S ?_ | refine sa S ?_ | refine sx S hv ?_))
    refine jn (fun (s : Nat × Nat × Option Addr × Nat × Option Addr × Nat) w' => Sep w w' [.made k37 ⟨f0, f1, f2, f3, f4⟩ [.int .i64 f0, .int .i64 f1, .int .i64 f2, .slice s.2.2.1 f3.length s.2.2.2.1, .slice s.2.2.2.2.1 f4.length s.2.2.2.2.2], .box s.2.1 #[.int .i64 m'] 52, .box s.1 [.int .i64 f0, .int .i64 f1, .int .i64 f2, .slice s.2.2.1 f3.length s.2.2.2.1, .slice s.2.2.2.2.1 f4.length s.2.2.2.2.2].toArray 37, .box g4 #[.int .i64 0, .int .i64 0, .int .i64 0, .slice none 0 0, .slice none 0 0] 37, .box g3 #[.int .i64 D, .int .i64 Wd, .int .i64 O] 24]) (fun s => [(21, .slice (some ad) G.length cp), (22, limV D Wd O), (23, limV D Wd O), (24, .agg #[.int .i64 m]), (25, .tuple #[.agg #[.int .i64 f0, .int .i64 f1, .int .i64 f2, .slice s.2.2.1 f3.length s.2.2.2.1, .slice s.2.2.2.2.1 f4.length s.2.2.2.2.2], .agg #[.int .i64 m'], .int .i64 e']), (20, .tuple #[.agg #[.int .i64 f0, .int .i64 f1, .int .i64 f2, .slice s.2.2.1 f3.length s.2.2.2.1, .slice s.2.2.2.2.1 f4.length s.2.2.2.2.2], .agg #[.int .i64 m'], .int .i64 e']), (26, .agg #[.int .i64 f0, .int .i64 f1, .int .i64 f2, .slice s.2.2.1 f3.length s.2.2.2.1, .slice s.2.2.2.2.1 f4.length s.2.2.2.2.2]), (27, .agg #[.int .i64 m']), (28, .int .i64 e'), (6, .pointer (some ⟨s.1, 0, none⟩)), (7, .pointer (some ⟨s.2.1, 0, none⟩)), (8, .int .i64 e')]) (fun s w' S => ?_) (fun hJ => ?_)
    · obtain ⟨g6, g7, B3, d3, B4, d4⟩ := s
      dsimp only at S
      simp only [putAll, Act.put, List.setIfInBounds_toArray, List.set_cons_zero, List.set_cons_succ]
      by_cases he : e' ≠ 0
      · replace HR := Lib.hid (HR.out.trans (if_pos he))
        have t1 : (e' != 0) = true := bne_iff_ne.2 he
        clear he HG HN
        go_wp2_with (first | go_skip | ((with_reducible refine wl ?_); first | refine sn S (fun g w1 S => ?_) | refine ss S (fun w1 S => ?_) | refine sl S ?_ | refine sa S ?_))
        have S1 := ((S.nil k37 37).nil (Kd.int .u8) 5).node (f0 := 0) (f1 := 0) (f2 := 0)
        have HR := HR.out
        subst HR
        exact rt S ⟨_, _, rfl, S1.out .here, S.below⟩
      · replace HR := Lib.hid (HR.out.trans (if_neg he))
        obtain rfl : e' = 0 := by omega
        obtain ⟨hg1, hg2⟩ := HG.out rfl
        have HT := fun w' (h : k37.K w' ⟨f0, f1, f2, f3, f4⟩ [.int .i64 f0, .int .i64 f1, .int .i64 f2, .slice B3 f3.length d3, .slice B4 f4.length d4]) => Lib.hid (trim_opn ⟨f0, f1, f2, f3, f4⟩ hg2 (by have := HN.out; dsimp only at hg1; omega) w' h)
        clear hg1 hg2 HG HN he
        generalize ttrim ⟨f0, f1, f2, f3, f4⟩ = z at *
        obtain ⟨z0, z1, z2, z3, z4⟩ := z
        dsimp only at HT
        go_wp2_with (first | go_skip | ((with_reducible refine wl ?_); first | refine sn S (fun g w1 S => ?_) | refine ss S (fun w1 S => ?_) | refine sl S ?_ | refine sa S ?_) | ((with_reducible refine (HT _ (k37.K_of_M (S.out .here))).out.mono ?_); rintro r' w' ⟨C3, d5, C4, d6, rfl, hM, hb⟩; replace S := S.push (a := .made k37 _ _) hb hM))
        have HR := HR.out
        subst HR
        exact rt S ⟨_, _, rfl, S.out .here, S.below⟩
    refine rs [1] S (fun w1 S => ?_)
    refine pu 0 21 ?_
    refine lt 1 S ?_
    refine lt 2 S ?_
    refine rd [3, 9, 10] (by simp) (List.forall_mem_cons.2 ⟨?_, List.forall_mem_cons.2 ⟨?_, List.forall_mem_cons.2 ⟨?_, List.forall_mem_nil _⟩⟩⟩)
    · refine rc 24 Tryd.func28 (HS _).out (fun r' w2 hT => ?_)
      obtain ⟨rfl, hb⟩ := hT
      replace S := S.call hb
      refine ⟨_, rfl, S.kpq 0, _, rfl, ?_⟩
      simp only [Act.put, List.setIfInBounds_toArray, List.set_cons_zero, List.set_cons_succ]
      refine rd [4, 9, 10] (by simp) (List.forall_mem_cons.2 ⟨?_, List.forall_mem_cons.2 ⟨?_, List.forall_mem_cons.2 ⟨?_, List.forall_mem_nil _⟩⟩⟩)
      · refine rc 25 Tryd.func27 (HV _ S.below).out (fun r' w2 hT => ?_)
        obtain ⟨B3, d3, B4, d4, rfl, hM, hb⟩ := TrV.openV hT
        replace S := S.push (a := .made k37 _ _) hb hM
        dsimp only at S
        refine ⟨_, rfl, S.kpq 1, _, rfl, ?_⟩
        simp only [Act.put, List.setIfInBounds_toArray, List.set_cons_zero, List.set_cons_succ]
        refine pu 5 20 ?_
        refine pu 6 26 ?_
        refine pu 7 27 ?_
        refine pu 8 28 ?_
        refine rd [9, 10] (by simp) (List.forall_mem_cons.2 ⟨?_, List.forall_mem_cons.2 ⟨?_, List.forall_mem_nil _⟩⟩)
        · refine rn 6 S (fun g6 w2 S => ⟨S.kpq 2, ?_⟩)
          refine rd [10] (by simp) (List.forall_mem_cons.2 ⟨?_, List.forall_mem_nil _⟩)
          · refine rn 7 S (fun g7 w2 S => ⟨S.kpq 3, ?_⟩)
            refine lsd 11 3 S (fun w2 S => ?_)
            refine lsd 12 3 S (fun w2 S => ?_)
            refine pu 13 8 ?_
            refine dn ?_
            replace S := S.pick 1 rfl rfl
            replace S := S.pick 1 rfl rfl
            replace S := S.pick 2 rfl rfl
            have hj := hJ (g6, g7, B3, d3, B4, d4) _ S
            simp only [putAll, Act.put, List.setIfInBounds_toArray, List.set_cons_zero, List.set_cons_succ] at hj
            exact hj
        · refine rn 7 S (fun g7 w2 S => ⟨S.kpq 2, ?_⟩)
          refine rd [9] (by simp) (List.forall_mem_cons.2 ⟨?_, List.forall_mem_nil _⟩)
          · refine rn 6 S (fun g6 w2 S => ⟨S.kpq 3, ?_⟩)
            refine lsd 11 3 S (fun w2 S => ?_)
            refine lsd 12 3 S (fun w2 S => ?_)
            refine pu 13 8 ?_
            refine dn ?_
            replace S := S.pick 0 rfl rfl
            replace S := S.pick 1 rfl rfl
            replace S := S.pick 2 rfl rfl
            have hj := hJ (g6, g7, B3, d3, B4, d4) _ S
            simp only [putAll, Act.put, List.setIfInBounds_toArray, List.set_cons_zero, List.set_cons_succ] at hj
            exact hj
      · refine rn 6 S (fun g6 w2 S => ⟨S.kpq 1, ?_⟩)
        refine rd [4, 10] (by simp) (List.forall_mem_cons.2 ⟨?_, List.forall_mem_cons.2 ⟨?_, List.forall_mem_nil _⟩⟩)
        · refine rc 25 Tryd.func27 (HV _ S.below).out (fun r' w2 hT => ?_)
          obtain ⟨B3, d3, B4, d4, rfl, hM, hb⟩ := TrV.openV hT
          replace S := S.push (a := .made k37 _ _) hb hM
          dsimp only at S
          refine ⟨_, rfl, S.kpq 2, _, rfl, ?_⟩
          simp only [Act.put, List.setIfInBounds_toArray, List.set_cons_zero, List.set_cons_succ]
          refine pu 5 20 ?_
          refine pu 6 26 ?_
          refine pu 7 27 ?_
          refine pu 8 28 ?_
          refine rd [10] (by simp) (List.forall_mem_cons.2 ⟨?_, List.forall_mem_nil _⟩)
          · refine rn 7 S (fun g7 w2 S => ⟨S.kpq 3, ?_⟩)
            refine lsd 11 3 S (fun w2 S => ?_)
            refine lsd 12 3 S (fun w2 S => ?_)
            refine pu 13 8 ?_
            refine dn ?_
            replace S := S.pick 2 rfl rfl
            replace S := S.pick 1 rfl rfl
            replace S := S.pick 2 rfl rfl
            have hj := hJ (g6, g7, B3, d3, B4, d4) _ S
            simp only [putAll, Act.put, List.setIfInBounds_toArray, List.set_cons_zero, List.set_cons_succ] at hj
            exact hj
        · refine rn 7 S (fun g7 w2 S => ⟨S.kpq 2, ?_⟩)
          refine rd [4] (by simp) (List.forall_mem_cons.2 ⟨?_, List.forall_mem_nil _⟩)
          · refine rc 25 Tryd.func27 (HV _ S.below).out (fun r' w2 hT => ?_)
            obtain ⟨B3, d3, B4, d4, rfl, hM, hb⟩ := TrV.openV hT
            replace S := S.push (a := .made k37 _ _) hb hM
            dsimp only at S
            refine ⟨_, rfl, S.kpq 3, _, rfl, ?_⟩
            simp only [Act.put, List.setIfInBounds_toArray, List.set_cons_zero, List.set_cons_succ]
            refine pu 5 20 ?_
            refine pu 6 26 ?_
            refine pu 7 27 ?_
            refine pu 8 28 ?_
            refine lsd 11 3 S (fun w2 S => ?_)
            refine lsd 12 3 S (fun w2 S => ?_)
            refine pu 13 8 ?_
            refine dn ?_
            replace S := S.pick 2 rfl rfl
            replace S := S.pick 2 rfl rfl
            replace S := S.pick 2 rfl rfl
            have hj := hJ (g6, g7, B3, d3, B4, d4) _ S
            simp only [putAll, Act.put, List.setIfInBounds_toArray, List.set_cons_zero, List.set_cons_succ] at hj
            exact hj
      · refine rn 7 S (fun g7 w2 S => ⟨S.kpq 1, ?_⟩)
        refine rd [4, 9] (by simp) (List.forall_mem_cons.2 ⟨?_, List.forall_mem_cons.2 ⟨?_, List.forall_mem_nil _⟩⟩)
        · refine rc 25 Tryd.func27 (HV _ S.below).out (fun r' w2 hT => ?_)
          obtain ⟨B3, d3, B4, d4, rfl, hM, hb⟩ := TrV.openV hT
          replace S := S.push (a := .made k37 _ _) hb hM
          dsimp only at S
          refine ⟨_, rfl, S.kpq 2, _, rfl, ?_⟩
          simp only [Act.put, List.setIfInBounds_toArray, List.set_cons_zero, List.set_cons_succ]
          refine pu 5 20 ?_
          refine pu 6 26 ?_
          refine pu 7 27 ?_
          refine pu 8 28 ?_
          refine rd [9] (by simp) (List.forall_mem_cons.2 ⟨?_, List.forall_mem_nil _⟩)
          · refine rn 6 S (fun g6 w2 S => ⟨S.kpq 3, ?_⟩)
            refine lsd 11 3 S (fun w2 S => ?_)
            refine lsd 12 3 S (fun w2 S => ?_)
            refine pu 13 8 ?_
            refine dn ?_
            replace S := S.pick 0 rfl rfl
            replace S := S.pick 2 rfl rfl
            replace S := S.pick 2 rfl rfl
            have hj := hJ (g6, g7, B3, d3, B4, d4) _ S
            simp only [putAll, Act.put, List.setIfInBounds_toArray, List.set_cons_zero, List.set_cons_succ] at hj
            exact hj
        · refine rn 6 S (fun g6 w2 S => ⟨S.kpq 2, ?_⟩)
          refine rd [4] (by simp) (List.forall_mem_cons.2 ⟨?_, List.forall_mem_nil _⟩)
          · refine rc 25 Tryd.func27 (HV _ S.below).out (fun r' w2 hT => ?_)
            obtain ⟨B3, d3, B4, d4, rfl, hM, hb⟩ := TrV.openV hT
            replace S := S.push (a := .made k37 _ _) hb hM
            dsimp only at S
            refine ⟨_, rfl, S.kpq 3, _, rfl, ?_⟩
            simp only [Act.put, List.setIfInBounds_toArray, List.set_cons_zero, List.set_cons_succ]
            refine pu 5 20 ?_
            refine pu 6 26 ?_
            refine pu 7 27 ?_
            refine pu 8 28 ?_
            refine lsd 11 3 S (fun w2 S => ?_)
            refine lsd 12 3 S (fun w2 S => ?_)
            refine pu 13 8 ?_
            refine dn ?_
            replace S := S.pick 1 rfl rfl
            replace S := S.pick 2 rfl rfl
            replace S := S.pick 2 rfl rfl
            have hj := hJ (g6, g7, B3, d3, B4, d4) _ S
            simp only [putAll, Act.put, List.setIfInBounds_toArray, List.set_cons_zero, List.set_cons_succ] at hj
            exact hj
    · refine rn 6 S (fun g6 w2 S => ⟨S.kpq 1, ?_⟩)
      refine rd [3, 10] (by simp) (List.forall_mem_cons.2 ⟨?_, List.forall_mem_cons.2 ⟨?_, List.forall_mem_nil _⟩⟩)
      · refine rc 24 Tryd.func28 (HS _).out (fun r' w2 hT => ?_)
        obtain ⟨rfl, hb⟩ := hT
        replace S := S.call hb
        refine ⟨_, rfl, S.kpq 1, _, rfl, ?_⟩
        simp only [Act.put, List.setIfInBounds_toArray, List.set_cons_zero, List.set_cons_succ]
        refine rd [4, 10] (by simp) (List.forall_mem_cons.2 ⟨?_, List.forall_mem_cons.2 ⟨?_, List.forall_mem_nil _⟩⟩)
        · refine rc 25 Tryd.func27 (HV _ S.below).out (fun r' w2 hT => ?_)
          obtain ⟨B3, d3, B4, d4, rfl, hM, hb⟩ := TrV.openV hT
          replace S := S.push (a := .made k37 _ _) hb hM
          dsimp only at S
          refine ⟨_, rfl, S.kpq 2, _, rfl, ?_⟩
          simp only [Act.put, List.setIfInBounds_toArray, List.set_cons_zero, List.set_cons_succ]
          refine pu 5 20 ?_
          refine pu 6 26 ?_
          refine pu 7 27 ?_
          refine pu 8 28 ?_
          refine rd [10] (by simp) (List.forall_mem_cons.2 ⟨?_, List.forall_mem_nil _⟩)
          · refine rn 7 S (fun g7 w2 S => ⟨S.kpq 3, ?_⟩)
            refine lsd 11 3 S (fun w2 S => ?_)
            refine lsd 12 3 S (fun w2 S => ?_)
            refine pu 13 8 ?_
            refine dn ?_
            replace S := S.pick 2 rfl rfl
            replace S := S.pick 1 rfl rfl
            replace S := S.pick 2 rfl rfl
            have hj := hJ (g6, g7, B3, d3, B4, d4) _ S
            simp only [putAll, Act.put, List.setIfInBounds_toArray, List.set_cons_zero, List.set_cons_succ] at hj
            exact hj
        · refine rn 7 S (fun g7 w2 S => ⟨S.kpq 2, ?_⟩)
          refine rd [4] (by simp) (List.forall_mem_cons.2 ⟨?_, List.forall_mem_nil _⟩)
          · refine rc 25 Tryd.func27 (HV _ S.below).out (fun r' w2 hT => ?_)
            obtain ⟨B3, d3, B4, d4, rfl, hM, hb⟩ := TrV.openV hT
            replace S := S.push (a := .made k37 _ _) hb hM
            dsimp only at S
            refine ⟨_, rfl, S.kpq 3, _, rfl, ?_⟩
            simp only [Act.put, List.setIfInBounds_toArray, List.set_cons_zero, List.set_cons_succ]
            refine pu 5 20 ?_
            refine pu 6 26 ?_
            refine pu 7 27 ?_
            refine pu 8 28 ?_
            refine lsd 11 3 S (fun w2 S => ?_)
            refine lsd 12 3 S (fun w2 S => ?_)
            refine pu 13 8 ?_
            refine dn ?_
            replace S := S.pick 2 rfl rfl
            replace S := S.pick 2 rfl rfl
            replace S := S.pick 2 rfl rfl
            have hj := hJ (g6, g7, B3, d3, B4, d4) _ S
            simp only [putAll, Act.put, List.setIfInBounds_toArray, List.set_cons_zero, List.set_cons_succ] at hj
            exact hj
      · refine rn 7 S (fun g7 w2 S => ⟨S.kpq 2, ?_⟩)
        refine rd [3] (by simp) (List.forall_mem_cons.2 ⟨?_, List.forall_mem_nil _⟩)
        · refine rc 24 Tryd.func28 (HS _).out (fun r' w2 hT => ?_)
          obtain ⟨rfl, hb⟩ := hT
          replace S := S.call hb
          refine ⟨_, rfl, S.kpq 2, _, rfl, ?_⟩
          simp only [Act.put, List.setIfInBounds_toArray, List.set_cons_zero, List.set_cons_succ]
          refine rd [4] (by simp) (List.forall_mem_cons.2 ⟨?_, List.forall_mem_nil _⟩)
          · refine rc 25 Tryd.func27 (HV _ S.below).out (fun r' w2 hT => ?_)
            obtain ⟨B3, d3, B4, d4, rfl, hM, hb⟩ := TrV.openV hT
            replace S := S.push (a := .made k37 _ _) hb hM
            dsimp only at S
            refine ⟨_, rfl, S.kpq 3, _, rfl, ?_⟩
            simp only [Act.put, List.setIfInBounds_toArray, List.set_cons_zero, List.set_cons_succ]
            refine pu 5 20 ?_
            refine pu 6 26 ?_
            refine pu 7 27 ?_
            refine pu 8 28 ?_
            refine lsd 11 3 S (fun w2 S => ?_)
            refine lsd 12 3 S (fun w2 S => ?_)
            refine pu 13 8 ?_
            refine dn ?_
            replace S := S.pick 2 rfl rfl
            replace S := S.pick 2 rfl rfl
            replace S := S.pick 2 rfl rfl
            have hj := hJ (g6, g7, B3, d3, B4, d4) _ S
            simp only [putAll, Act.put, List.setIfInBounds_toArray, List.set_cons_zero, List.set_cons_succ] at hj
            exact hj
    · refine rn 7 S (fun g7 w2 S => ⟨S.kpq 1, ?_⟩)
      refine rd [3, 9] (by simp) (List.forall_mem_cons.2 ⟨?_, List.forall_mem_cons.2 ⟨?_, List.forall_mem_nil _⟩⟩)
      · refine rc 24 Tryd.func28 (HS _).out (fun r' w2 hT => ?_)
        obtain ⟨rfl, hb⟩ := hT
        replace S := S.call hb
        refine ⟨_, rfl, S.kpq 1, _, rfl, ?_⟩
        simp only [Act.put, List.setIfInBounds_toArray, List.set_cons_zero, List.set_cons_succ]
        refine rd [4, 9] (by simp) (List.forall_mem_cons.2 ⟨?_, List.forall_mem_cons.2 ⟨?_, List.forall_mem_nil _⟩⟩)
        · refine rc 25 Tryd.func27 (HV _ S.below).out (fun r' w2 hT => ?_)
          obtain ⟨B3, d3, B4, d4, rfl, hM, hb⟩ := TrV.openV hT
          replace S := S.push (a := .made k37 _ _) hb hM
          dsimp only at S
          refine ⟨_, rfl, S.kpq 2, _, rfl, ?_⟩
          simp only [Act.put, List.setIfInBounds_toArray, List.set_cons_zero, List.set_cons_succ]
          refine pu 5 20 ?_
          refine pu 6 26 ?_
          refine pu 7 27 ?_
          refine pu 8 28 ?_
          refine rd [9] (by simp) (List.forall_mem_cons.2 ⟨?_, List.forall_mem_nil _⟩)
          · refine rn 6 S (fun g6 w2 S => ⟨S.kpq 3, ?_⟩)
            refine lsd 11 3 S (fun w2 S => ?_)
            refine lsd 12 3 S (fun w2 S => ?_)
            refine pu 13 8 ?_
            refine dn ?_
            replace S := S.pick 0 rfl rfl
            replace S := S.pick 2 rfl rfl
            replace S := S.pick 2 rfl rfl
            have hj := hJ (g6, g7, B3, d3, B4, d4) _ S
            simp only [putAll, Act.put, List.setIfInBounds_toArray, List.set_cons_zero, List.set_cons_succ] at hj
            exact hj
        · refine rn 6 S (fun g6 w2 S => ⟨S.kpq 2, ?_⟩)
          refine rd [4] (by simp) (List.forall_mem_cons.2 ⟨?_, List.forall_mem_nil _⟩)
          · refine rc 25 Tryd.func27 (HV _ S.below).out (fun r' w2 hT => ?_)
            obtain ⟨B3, d3, B4, d4, rfl, hM, hb⟩ := TrV.openV hT
            replace S := S.push (a := .made k37 _ _) hb hM
            dsimp only at S
            refine ⟨_, rfl, S.kpq 3, _, rfl, ?_⟩
            simp only [Act.put, List.setIfInBounds_toArray, List.set_cons_zero, List.set_cons_succ]
            refine pu 5 20 ?_
            refine pu 6 26 ?_
            refine pu 7 27 ?_
            refine pu 8 28 ?_
            refine lsd 11 3 S (fun w2 S => ?_)
            refine lsd 12 3 S (fun w2 S => ?_)
            refine pu 13 8 ?_
            refine dn ?_
            replace S := S.pick 1 rfl rfl
            replace S := S.pick 2 rfl rfl
            replace S := S.pick 2 rfl rfl
            have hj := hJ (g6, g7, B3, d3, B4, d4) _ S
            simp only [putAll, Act.put, List.setIfInBounds_toArray, List.set_cons_zero, List.set_cons_succ] at hj
            exact hj
      · refine rn 6 S (fun g6 w2 S => ⟨S.kpq 2, ?_⟩)
        refine rd [3] (by simp) (List.forall_mem_cons.2 ⟨?_, List.forall_mem_nil _⟩)
        · refine rc 24 Tryd.func28 (HS _).out (fun r' w2 hT => ?_)
          obtain ⟨rfl, hb⟩ := hT
          replace S := S.call hb
          refine ⟨_, rfl, S.kpq 2, _, rfl, ?_⟩
          simp only [Act.put, List.setIfInBounds_toArray, List.set_cons_zero, List.set_cons_succ]
          refine rd [4] (by simp) (List.forall_mem_cons.2 ⟨?_, List.forall_mem_nil _⟩)
          · refine rc 25 Tryd.func27 (HV _ S.below).out (fun r' w2 hT => ?_)
            obtain ⟨B3, d3, B4, d4, rfl, hM, hb⟩ := TrV.openV hT
            replace S := S.push (a := .made k37 _ _) hb hM
            dsimp only at S
            refine ⟨_, rfl, S.kpq 3, _, rfl, ?_⟩
            simp only [Act.put, List.setIfInBounds_toArray, List.set_cons_zero, List.set_cons_succ]
            refine pu 5 20 ?_
            refine pu 6 26 ?_
            refine pu 7 27 ?_
            refine pu 8 28 ?_
            refine lsd 11 3 S (fun w2 S => ?_)
            refine lsd 12 3 S (fun w2 S => ?_)
            refine pu 13 8 ?_
            refine dn ?_
            replace S := S.pick 1 rfl rfl
            replace S := S.pick 2 rfl rfl
            replace S := S.pick 2 rfl rfl
            have hj := hJ (g6, g7, B3, d3, B4, d4) _ S
            simp only [putAll, Act.put, List.setIfInBounds_toArray, List.set_cons_zero, List.set_cons_succ] at hj
            exact hj
end Go.Proofs.YtidglmocekghmaaDoor.Pr
end
