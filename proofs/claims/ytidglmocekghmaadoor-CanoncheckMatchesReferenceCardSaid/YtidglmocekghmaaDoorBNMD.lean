/- A part of the proof of YtidglmocekghmaaDoorMatchesCard (the texts that it stands on, gathered; declarations that nothing uses are left out). -/
import Derived.Test.YtidglmocekghmaaDoorBNMC
import Derived.Below
import Derived.Deep.Draws
import Derived.Deep.AppendLies
import Derived.Maps.AppendAt
import Derived.OwnWalk
import Derived.Laws.BytesArg
import Derived.Laws.MakeOwn
import Derived.Laws.OwnMore
import Derived.Deep.OwnRows
import Derived.Tactics
import Derived.Lib.ConvBytes
import Derived.Laws.Slices
import Derived.WalkKit
import Derived.KernelRfl
import Derived.RowKit3
import Derived.Deep.LoopGhost
import Derived.Deep.QuietTactic
import Derived.BigQuiet
import Derived.WideLaws
import Derived.Deep.DeepCutAuto
import Derived.Deep.CutBlock
import Derived.Deep.RegionHeld3
import Derived.Laws.Rows
import Derived.Lib.AppendStr
import Derived.ArgAppend
import Derived.Laws.IdiomCopy
import Derived.RowKit
import Derived.OrdersHeld
import Derived.Laws.BitsLemmas
import Derived.Laws.StructEq
import Derived.SizedLaws
import Derived.ChangeSlices
import Derived.Test.YtidglmocekghmaaDoorProg
import Derived.Lib.Hide
import Derived.WalkLawsBesides
import Derived.WalkSpells
import Derived.Outline
import Derived.IntWalk
import Derived.Laws.AppendOwn
import Derived.RangeFuncBox
import Derived.Lib.JoinLaws
import Derived.Defers
import Derived.Recover
import Derived.Laws.Pointers
import Derived.Test.YtidglmocekghmaaDoorCards
import Derived.ProofKit
import Derived.LaidMore
import Derived.LaidHandle
import Derived.Maps.Keyed
import Derived.WideKeyElems2
import Derived.Lib.LaidTab
import Derived.OpenShut
import Derived.Lib.SmallJoins
section
namespace Go.Proofs.YtidglmocekghmaaDoor.Pr
open Go.RowKit Go.Proofs.YtidglmocekghmaaDoorW.PrintWords Go.Proofs.YtidglmocekghmaaDoorW.PrintLast Go.Proofs.YtidglmocekghmaaDoorW.PrintMore
set_option linter.unusedVariables false
set_option linter.unusedSimpArgs false
theorem val_any : ∀ f, ValC f
  | 0 => val_walk 0 (fun f' h => by omega)
  | f + 1 => val_walk (f + 1) (fun f' h => by
    obtain rfl : f = f' := by omega
    exact ⟨val_any f, str_walk f (val_any f)⟩)
end Go.Proofs.YtidglmocekghmaaDoor.Pr
end
section
namespace Go.Proofs.YtidglmocekghmaaDoor.Pr
open Go.RowKit Go.Proofs.YtidglmocekghmaaDoorW.PrintWords Go.Proofs.YtidglmocekghmaaDoorW.PrintLast Go.Proofs.YtidglmocekghmaaDoorW.PrintMore
attribute [local go_sem] max2_int min2_int max_two min_two max_three min_three max_four min_four
set_option linter.unusedVariables false
set_option linter.unusedSimpArgs false
def capnpref11_Words.l0 : Nat → List Int → Int → Int → Option (Int)
  | 0, _, _, _ => none
  | k + 1, x0, x3, x4 => if x4 < (x0.length : Int) then (if 0 ≤ x4 then (if (rd x0 x4) = 0 then (capnpref11_Words.l0 k x0 x3 (wrap64 (x4 + 1))) else (capnpref11_Words.l0 k x0 (wrap64 ((wrap64 (Int.tdiv x4 8)) + 1)) (wrap64 (x4 + 1)))) else (none)) else (some x3)
def capnpref11_Words.f (k : Nat) (l0 : List Int) : Option (Int) := capnpref11_Words.l0 k l0 0 0
set_option maxHeartbeats 8000000 in
set_option maxRecDepth 100000 in
theorem capnpref11_Words.calls (k : Nat) (A0 : Option Addr) (c0 : Nat) (l0 : List Int) (r : Int) (w : World) (hr0 : Kd.C (Kd.int .u8) w A0 l0.length l0) (hc0 : l0.length ≤ c0) (h : capnpref11_Words.f k l0 = some r) :
    Calls Tryd.prog 46 #[.slice A0 l0.length c0] w fun e w' => e = .returned (.int .i64 r) ∧ Drawn0 w w' := by
  have HR0 := Aside0.mk hr0
  have HC0 := Aside0.mk hc0
  clear hr0 hc0
  have H : (capnpref11_Words.l0 k l0 0 0) = some r := h
  clear h
  have H' := Aside0.mk H
  clear H
  go_enter Tryd.func46, Tryd.ntmps46
  go_wp2
  go_loopg [3, 4] k (fun kq v3 v4 w' => ∃ (x3_1 : Int) (x4_1 : Int), v3 = .int .i64 x3_1 ∧ v4 = .int .i64 x4_1 ∧ Aside0 (capnpref11_Words.l0 kq l0 x3_1 x4_1 = some r) ∧ Aside0 (kq ≤ k) ∧ Drawn0 w w')
  case atStart => exact ⟨(0), (0), (by first | rfl | (simp; done) | (simp [*]; done)), (by first | rfl | (simp; done) | (simp [*]; done)), H', ⟨Nat.le_refl _⟩, by repeat (first | exact Drawn0.refl _ | apply Drawn0.step)⟩
  case round =>
    clear H'
    obtain ⟨x3_1, x4_1, rfl, rfl, HA, HK1, ⟨m1, rfl⟩⟩ := hrel
    cases gk with
    | zero => exact absurd HA.out (by simp [capnpref11_Words.l0])
    | succ k1 =>
      have H := HA.out
      clear HA
      simp only [capnpref11_Words.l0] at H
      by_cases c2 : x4_1 < (l0.length : Int)
      · rw [if_pos c2] at H
        have c2b0 : decide (x4_1 < (l0.length : Int)) = true := decide_eq_true c2
        clear c2
        by_cases c3 : 0 ≤ x4_1
        · rw [if_pos c3] at H
          have c3b0 : decide (0 ≤ x4_1) = true := decide_eq_true c3
          clear c3
          by_cases c4 : (rd l0 x4_1) = 0
          · rw [if_pos c4] at H
            have c4b0 : ((rd l0 x4_1) == 0) = true := beq_iff_eq.mpr c4
            have c4b1 : ((rd l0 x4_1) != 0) = false := bne_eq_false_iff_eq.mpr c4
            clear c4
            have H' := Aside0.mk H
            clear H
            have p231 : 0 ≤ (x4_1 : Int) := of_decide_eq_true (by first | (with_reducible assumption) | assumption)
            have q231 : x4_1 < (l0.length : Int) := of_decide_eq_true (by first | (with_reducible assumption) | assumption)
            obtain ⟨ad231, e231, hx231_0⟩ := Kd.at_int HR0.out x4_1 p231 q231
            cases e231
            replace p231 := eq_true p231
            replace q231 := eq_true q231
            go_wp2
            go_roundg k1
            case measure => have := HK1.out; omega
            case rel => exact ⟨(x3_1), (wrap64 (x4_1 + 1)), (by first | rfl | (simp; done) | (simp [*]; done)), (by first | rfl | (simp; done) | (simp [*]; done)), H', ⟨by have := HK1.out; omega⟩, by repeat (first | exact Drawn0.refl _ | apply Drawn0.step)⟩
          · rw [if_neg c4] at H
            have c4b0 : ((rd l0 x4_1) == 0) = false := beq_eq_false_iff_ne.mpr c4
            have c4b1 : ((rd l0 x4_1) != 0) = true := bne_iff_ne.mpr c4
            have H' := Aside0.mk H
            clear H
            have p231 : 0 ≤ (x4_1 : Int) := of_decide_eq_true (by first | (with_reducible assumption) | assumption)
            have q231 : x4_1 < (l0.length : Int) := of_decide_eq_true (by first | (with_reducible assumption) | assumption)
            obtain ⟨ad231, e231, hx231_0⟩ := Kd.at_int HR0.out x4_1 p231 q231
            cases e231
            replace p231 := eq_true p231
            replace q231 := eq_true q231
            go_wp2
            go_roundg k1
            case measure => have := HK1.out; omega
            case rel => exact ⟨(wrap64 ((wrap64 (Int.tdiv x4_1 8)) + 1)), (wrap64 (x4_1 + 1)), (by first | rfl | (simp; done) | (simp [*]; done)), (by first | rfl | (simp; done) | (simp [*]; done)), H', ⟨by have := HK1.out; omega⟩, by repeat (first | exact Drawn0.refl _ | apply Drawn0.step)⟩
        · rw [if_neg c3] at H
          exact absurd H (by simp)
      · rw [if_neg c2] at H
        have c2b0 : decide (x4_1 < (l0.length : Int)) = false := decide_eq_false c2
        clear c2
        obtain rfl := Option.some.inj H
        go_wp2
        go_ret
        exact ⟨by first | rfl | (simp; done) | (simp [*]; done), by repeat (first | exact Drawn0.refl _ | apply Drawn0.step)⟩
def capnpref11_Pointers.l0 : Nat → List (S37) → Int → Int → Option (Int)
  | 0, _, _, _ => none
  | k + 1, x0, x3, x4 => if x4 < (x0.length : Int) then (if 0 ≤ x4 then (if ((rd_T37 x0 x4).f0) = 0 then (capnpref11_Pointers.l0 k x0 x3 (wrap64 (x4 + 1))) else (capnpref11_Pointers.l0 k x0 (wrap64 (x4 + 1)) (wrap64 (x4 + 1)))) else (none)) else (some x3)
def capnpref11_Pointers.f (k : Nat) (l0 : List (S37)) : Option (Int) := capnpref11_Pointers.l0 k l0 0 0
set_option maxHeartbeats 8000000 in
set_option maxRecDepth 100000 in
theorem capnpref11_Pointers.calls (k : Nat) (A0 : Option Addr) (c0 : Nat) (l0 : List (S37)) (r : Int) (w : World) (hr0 : Kd.C k37 w A0 l0.length l0) (hc0 : l0.length ≤ c0) (h : capnpref11_Pointers.f k l0 = some r) :
    Calls Tryd.prog 47 #[.slice A0 l0.length c0] w fun e w' => e = .returned (.int .i64 r) ∧ Drawn0 w w' := by
  have HR0 := Aside0.mk hr0
  have HC0 := Aside0.mk hc0
  clear hr0 hc0
  have H : (capnpref11_Pointers.l0 k l0 0 0) = some r := h
  clear h
  have H' := Aside0.mk H
  clear H
  go_enter Tryd.func47, Tryd.ntmps47
  go_wp2
  go_loopg [3, 4] k (fun kq v3 v4 w' => ∃ (x3_1 : Int) (x4_1 : Int), v3 = .int .i64 x3_1 ∧ v4 = .int .i64 x4_1 ∧ Aside0 (capnpref11_Pointers.l0 kq l0 x3_1 x4_1 = some r) ∧ Aside0 (kq ≤ k) ∧ Drawn0 w w')
  case atStart => exact ⟨(0), (0), (by first | rfl | (simp; done) | (simp [*]; done)), (by first | rfl | (simp; done) | (simp [*]; done)), H', ⟨Nat.le_refl _⟩, by repeat (first | exact Drawn0.refl _ | apply Drawn0.step)⟩
  case round =>
    clear H'
    obtain ⟨x3_1, x4_1, rfl, rfl, HA, HK1, ⟨m1, rfl⟩⟩ := hrel
    cases gk with
    | zero => exact absurd HA.out (by simp [capnpref11_Pointers.l0])
    | succ k1 =>
      have H := HA.out
      clear HA
      simp only [capnpref11_Pointers.l0] at H
      by_cases c2 : x4_1 < (l0.length : Int)
      · rw [if_pos c2] at H
        have c2b0 : decide (x4_1 < (l0.length : Int)) = true := decide_eq_true c2
        clear c2
        by_cases c3 : 0 ≤ x4_1
        · rw [if_pos c3] at H
          have c3b0 : decide (0 ≤ x4_1) = true := decide_eq_true c3
          clear c3
          by_cases c4 : ((rd_T37 l0 x4_1).f0) = 0
          · rw [if_pos c4] at H
            have c4b0 : (((rd_T37 l0 x4_1).f0) == 0) = true := beq_iff_eq.mpr c4
            have c4b1 : (((rd_T37 l0 x4_1).f0) != 0) = false := bne_eq_false_iff_eq.mpr c4
            clear c4
            have H' := Aside0.mk H
            clear H
            have p232 : 0 ≤ (x4_1 : Int) := of_decide_eq_true (by first | (with_reducible assumption) | assumption)
            have q232 : x4_1 < (l0.length : Int) := of_decide_eq_true (by first | (with_reducible assumption) | assumption)
            obtain ⟨ad232, A232_3, c232_3, A232_4, c232_4, e232, hx232_0, hx232_1, hx232_2, hx232_3, hx232_4, hl232_3, hi232_3, hl232_4, hi232_4⟩ := at_T37 HR0.out x4_1 p232 q232
            cases e232
            have HR232_3 := Aside0.mk hi232_3
            have HC232_3 := Aside0.mk hl232_3
            clear hi232_3 hl232_3
            have HR232_4 := Aside0.mk hi232_4
            have HC232_4 := Aside0.mk hl232_4
            clear hi232_4 hl232_4
            replace p232 := eq_true p232
            replace q232 := eq_true q232
            go_wp2
            go_roundg k1
            case measure => have := HK1.out; omega
            case rel => exact ⟨(x3_1), (wrap64 (x4_1 + 1)), (by first | rfl | (simp; done) | (simp [*]; done)), (by first | rfl | (simp; done) | (simp [*]; done)), H', ⟨by have := HK1.out; omega⟩, by repeat (first | exact Drawn0.refl _ | apply Drawn0.step)⟩
          · rw [if_neg c4] at H
            have c4b0 : (((rd_T37 l0 x4_1).f0) == 0) = false := beq_eq_false_iff_ne.mpr c4
            have c4b1 : (((rd_T37 l0 x4_1).f0) != 0) = true := bne_iff_ne.mpr c4
            have H' := Aside0.mk H
            clear H
            have p232 : 0 ≤ (x4_1 : Int) := of_decide_eq_true (by first | (with_reducible assumption) | assumption)
            have q232 : x4_1 < (l0.length : Int) := of_decide_eq_true (by first | (with_reducible assumption) | assumption)
            obtain ⟨ad232, A232_3, c232_3, A232_4, c232_4, e232, hx232_0, hx232_1, hx232_2, hx232_3, hx232_4, hl232_3, hi232_3, hl232_4, hi232_4⟩ := at_T37 HR0.out x4_1 p232 q232
            cases e232
            have HR232_3 := Aside0.mk hi232_3
            have HC232_3 := Aside0.mk hl232_3
            clear hi232_3 hl232_3
            have HR232_4 := Aside0.mk hi232_4
            have HC232_4 := Aside0.mk hl232_4
            clear hi232_4 hl232_4
            replace p232 := eq_true p232
            replace q232 := eq_true q232
            go_wp2
            go_roundg k1
            case measure => have := HK1.out; omega
            case rel => exact ⟨(wrap64 (x4_1 + 1)), (wrap64 (x4_1 + 1)), (by first | rfl | (simp; done) | (simp [*]; done)), (by first | rfl | (simp; done) | (simp [*]; done)), H', ⟨by have := HK1.out; omega⟩, by repeat (first | exact Drawn0.refl _ | apply Drawn0.step)⟩
        · rw [if_neg c3] at H
          exact absurd H (by simp)
      · rw [if_neg c2] at H
        have c2b0 : decide (x4_1 < (l0.length : Int)) = false := decide_eq_false c2
        clear c2
        obtain rfl := Option.some.inj H
        go_wp2
        go_ret
        exact ⟨by first | rfl | (simp; done) | (simp [*]; done), by repeat (first | exact Drawn0.refl _ | apply Drawn0.step)⟩
mutual
def capnpref11_Trim.j0 : Nat → Int → Int → Int → Int → Int → List Int → List (S37) → Option (Int × Int × Int × List Int × (List (S37)))
  | 0, _, _, _, _, _, _, _ => none
  | k + 1, x3, x4, x234000, x234001, x234002, x234003, x234004 => capnpref11_Trim.l0 k x3 x4 0 x234000 x234001 x234002 x234003 x234004 x234000 x234001 x234002 ([] : List Int)
def capnpref11_Trim.l0 : Nat → Int → Int → Int → Int → Int → Int → List Int → List (S37) → Int → Int → Int → List Int → Option (Int × Int × Int × List Int × (List (S37)))
  | 0, _, _, _, _, _, _, _, _, _, _, _, _ => none
  | k + 1, x3, x4, x6, x234000, x234001, x234002, x234003, x234004, x238000, x238001, x238002, x238003 => if x6 < x3 then (if 0 ≤ x6 then (if x6 < (x234003.length : Int) then (if x238003.length < 140737488355328 then (capnpref11_Trim.l0 k x3 x4 (wrap64 (x6 + 1)) x234000 x234001 x234002 x234003 x234004 x238000 x238001 x238002 (x238003 ++ [rd x234003 x6])) else (none)) else (none)) else (none)) else (capnpref11_Trim.l1 k x4 0 x234000 x234001 x234002 x234003 x234004 x238000 x238001 x238002 x238003 ([] : List (S37)))
def capnpref11_Trim.l1 : Nat → Int → Int → Int → Int → Int → List Int → List (S37) → Int → Int → Int → List Int → List (S37) → Option (Int × Int × Int × List Int × (List (S37)))
  | 0, _, _, _, _, _, _, _, _, _, _, _, _ => none
  | k + 1, x4, x7, x234000, x234001, x234002, x234003, x234004, x238000, x238001, x238002, x238003, x238004 => if x7 < x4 then (if 0 ≤ x7 then (if x7 < (x234004.length : Int) then ((capnpref11_Trim.f k ((rd_T37 x234004 x7).f0) ((rd_T37 x234004 x7).f1) ((rd_T37 x234004 x7).f2) ((rd_T37 x234004 x7).f3) ((rd_T37 x234004 x7).f4)).bind fun bt243 => (if x238004.length < 1954687338268 then (capnpref11_Trim.l1 k x4 (wrap64 (x7 + 1)) x234000 x234001 x234002 x234003 x234004 x238000 x238001 x238002 x238003 (x238004 ++ [(⟨bt243.1, bt243.2.1, bt243.2.2.1, bt243.2.2.2.1, bt243.2.2.2.2⟩ : S37)])) else (none))) else (none)) else (none)) else (some (x238000, x238001, x238002, x238003, x238004))
def capnpref11_Trim.f : Nat → Int → Int → Int → List Int → List (S37) → Option (Int × Int × Int × List Int × (List (S37)))
  | 0, _, _, _, _, _ => none
  | k + 1, a0_0, a0_1, a0_2, l0_3, l0_4 => if a0_0 = 1 then ((capnpref11_Words.f k l0_3).bind fun t235 => ((capnpref11_Pointers.f k l0_4).bind fun t236 => (capnpref11_Trim.j0 k (wrap64 (8 * t235)) t236 a0_0 a0_1 a0_2 l0_3 l0_4))) else (capnpref11_Trim.j0 k (l0_3.length : Int) (l0_4.length : Int) a0_0 a0_1 a0_2 l0_3 l0_4)
end
def capnpref11_Trim.T13 : Bool × List (List Nat × List Nat) := (true, [([], []), ([0], [0]), ([], []), ([2], [2]), ([], []), ([3, 4], [3, 4]), ([5], [5]), ([6], [6]), ([1, 7], [1, 7]), ([0, 1, 2, 3, 4, 5, 6, 7, 8], []), ([9, 8, 8, 0, 1, 2, 3, 4, 5, 6, 7, 8], [8, 9])])
def capnpref11_Trim.B13 : List Nat := [0, 1, 0, 4, 0, 28, 60, 124, 255, 511, 1023]
theorem capnpref11_Trim.tab13 : rtab .any (opsOf Tryd.f29 13) = capnpref11_Trim.T13 := by kernel_rfl
theorem capnpref11_Trim.bits13 : waitsOk capnpref11_Trim.T13.2 capnpref11_Trim.B13 = true := by kernel_rfl
def capnpref11_Trim.T17 : Bool × List (List Nat × List Nat) := (true, [([], []), ([0], [0]), ([], []), ([2], [2]), ([], []), ([3, 4], [3, 4]), ([5], [5]), ([6], [6]), ([7], [7]), ([1, 8, 7], [1, 8]), ([0, 1, 2, 3, 4, 5, 6, 7, 8, 9], []), ([10, 9, 9, 0, 1, 2, 3, 4, 5, 6, 7, 8, 9], [9, 10])])
def capnpref11_Trim.B17 : List Nat := [0, 1, 0, 4, 0, 28, 60, 124, 252, 511, 1023, 2047]
theorem capnpref11_Trim.tab17 : rtab .any (opsOf Tryd.f29 17) = capnpref11_Trim.T17 := by kernel_rfl
theorem capnpref11_Trim.bits17 : waitsOk capnpref11_Trim.T17.2 capnpref11_Trim.B17 = true := by kernel_rfl
set_option maxHeartbeats 8000000 in
set_option maxRecDepth 100000 in
theorem capnpref11_Trim.calls (k : Nat) : ∀ (a0_0 : Int) (a0_1 : Int) (a0_2 : Int) (A0_3 : Option Addr) (c0_3 : Nat) (l0_3 : List Int) (A0_4 : Option Addr) (c0_4 : Nat) (l0_4 : List (S37)) (r1 : Int) (r2 : Int) (r3 : Int) (r4 : List Int) (r5 : List (S37)) (w : World) (hr0_3 : Kd.C (Kd.int .u8) w A0_3 l0_3.length l0_3) (hc0_3 : l0_3.length ≤ c0_3) (hr0_4 : Kd.C k37 w A0_4 l0_4.length l0_4) (hc0_4 : l0_4.length ≤ c0_4) (h : capnpref11_Trim.f k a0_0 a0_1 a0_2 l0_3 l0_4 = some (r1, r2, r3, r4, r5)),
    Calls Tryd.prog 29 #[.agg #[.int .i64 a0_0, .int .i64 a0_1, .int .i64 a0_2, .slice A0_3 l0_3.length c0_3, .slice A0_4 l0_4.length c0_4]] w fun e w' => ∃ v3_ v4_ : Value, e = .returned (.agg #[.int .i64 r1, .int .i64 r2, .int .i64 r3, v3_, v4_]) ∧ Kd.R (Kd.int .u8) 5 w' w.heap.size (fun _ => True) v3_ r4 ∧ Kd.R k37 37 w' w.heap.size (fun k_ => some k_ ≠ (v3_ : Value).ownBlock) v4_ r5 ∧ Below w.heap.size w w' := by
  induction k using Nat.strongRecOn with
  | _ k ih =>
  intro a0_0 a0_1 a0_2 A0_3 c0_3 l0_3 A0_4 c0_4 l0_4 r1 r2 r3 r4 r5 w hr0_3 hc0_3 hr0_4 hc0_4 h
  cases k with
  | zero => exact absurd h (by simp [capnpref11_Trim.f])
  | succ k =>
  simp only [capnpref11_Trim.f] at h
  have hu37 := Tryd.underlying37
  have HR0_3 := Aside0.mk hr0_3
  have HC0_3 := Aside0.mk hc0_3
  clear hr0_3 hc0_3
  have HR0_4 := Aside0.mk hr0_4
  have HC0_4 := Aside0.mk hc0_4
  clear hr0_4 hc0_4
  have HB := Aside0.mk (Below.refl w.heap.size w)
  have H : (if a0_0 = 1 then ((capnpref11_Words.f k l0_3).bind fun t235 => ((capnpref11_Pointers.f k l0_4).bind fun t236 => (capnpref11_Trim.j0 k (wrap64 (8 * t235)) t236 a0_0 a0_1 a0_2 l0_3 l0_4))) else (capnpref11_Trim.j0 k (l0_3.length : Int) (l0_4.length : Int) a0_0 a0_1 a0_2 l0_3 l0_4)) = some (r1, r2, r3, r4, r5) := h
  clear h
  have HC2 := Aside0.mk H
  clear H
  go_enter Tryd.func29, Tryd.ntmps29
  go_upto_if 16 with (first | ((with_reducible refine gate_dst (N := 1) rfl ?_); refine box_event ?hg (N := 1) ?hd (cs := #[.int .i64 a0_0, .int .i64 a0_1, .int .i64 a0_2, .slice A0_3 l0_3.length c0_3, .slice A0_4 l0_4.length c0_4]) (t := 37) ?hr ?_; (case hd => rfl); (case hg => rfl); (case hr => first | (go_simp; done) | (go_simp; rfl)); intro gb233 hg w3 hbox hb; have n0_ := Aside0.mk (below_step (by repeat (first | (with_reducible first | exact HB.out | apply below_alloc | apply pw_below_drewN | apply below_drew1) | exact HB.out)) hb); have n1_ := Aside0.mk (hbox); have n2_ := Aside0.mk ((by rw [hg]; exact (below_size (by repeat (first | (with_reducible first | exact HB.out | apply below_alloc | apply pw_below_drewN | apply below_drew1) | exact HB.out))) : w.heap.size ≤ gb233)); have n3_ := Aside0.mk ((by rw [hg]; exact (below_size (by repeat (first | (with_reducible first | exact HB.out | apply below_alloc | apply pw_below_drewN | apply below_drew1) | exact HB.out))) : w.heap.size ≤ gb233)); clear HB; have HB := n0_; have BK233 := n1_; have GW233 := n2_; have GE233 := n3_; clear n0_ n1_ n2_ n3_; clear hb hbox hg) | ((with_reducible refine gate_dst (N := 2) rfl ?_); refine box_event ?hg (N := 2) ?hd (cs := #[.int .i64 0, .int .i64 0, .int .i64 0, .slice none 0 0, .slice none 0 0]) (t := 37) ?hr ?_; (case hd => rfl); (case hg => rfl); (case hr => first | (go_simp; done) | (go_simp; rfl)); intro gb234 hg w4 hbox hb; have n0_ := Aside0.mk (blk_below (g := gb233) (o := .cells #[.int .i64 a0_0, .int .i64 a0_1, .int .i64 a0_2, .slice A0_3 l0_3.length c0_3, .slice A0_4 l0_4.length c0_4] 37 (0, 0)) (by (with_reducible repeat (first | refine blk_drewN ?_ _ | refine blk_drew ?_ | refine blk_alloc ?_ _)); exact BK233.out) hb); have n1_ := Aside0.mk (below_step (by repeat (first | (with_reducible first | exact HB.out | apply below_alloc | apply pw_below_drewN | apply below_drew1 | refine below_set ?_ GE233.out) | exact HB.out)) hb); have n2_ := Aside0.mk (hbox); have n3_ := Aside0.mk ((by rw [hg]; exact (below_size (by repeat (first | (with_reducible first | exact HB.out | apply below_alloc | apply pw_below_drewN | apply below_drew1 | refine below_set ?_ GE233.out) | exact HB.out))) : w.heap.size ≤ gb234)); have n4_ := Aside0.mk ((by rw [hg]; exact (below_size (by repeat (first | (with_reducible first | exact HB.out | apply below_alloc | apply pw_below_drewN | apply below_drew1 | refine below_set ?_ GE233.out) | exact HB.out))) : w.heap.size ≤ gb234)); have n5_ := Aside0.mk ((by rw [hg]; exact Nat.ne_of_lt (blk_lt (g := gb233) (o := .cells #[.int .i64 a0_0, .int .i64 a0_1, .int .i64 a0_2, .slice A0_3 l0_3.length c0_3, .slice A0_4 l0_4.length c0_4] 37 (0, 0)) (by (with_reducible repeat (first | refine blk_drewN ?_ _ | refine blk_drew ?_ | refine blk_alloc ?_ _)); exact BK233.out)) : gb233 ≠ gb234)); have n6_ := Aside0.mk ((by rw [hg]; exact Nat.ne_of_gt (blk_lt (g := gb233) (o := .cells #[.int .i64 a0_0, .int .i64 a0_1, .int .i64 a0_2, .slice A0_3 l0_3.length c0_3, .slice A0_4 l0_4.length c0_4] 37 (0, 0)) (by (with_reducible repeat (first | refine blk_drewN ?_ _ | refine blk_drew ?_ | refine blk_alloc ?_ _)); exact BK233.out)) : gb234 ≠ gb233)); clear BK233; clear HB; have BK233 := n0_; have HB := n1_; have BK234 := n2_; have GW234 := n3_; have GE234 := n4_; have NB233_234 := n5_; have NB234_233 := n6_; clear n0_ n1_ n2_ n3_ n4_ n5_ n6_; clear hb hbox hg; have hnb5 := NB233_234.out; have hnc5 := NB234_233.out; have hcz6_0 : w4.cell? ⟨gb233, 0, none⟩ = some (.int .i64 a0_0) := (blk_cell BK233.out 0).trans rfl; have hcz6_1 : w4.cell? ⟨gb233, 1, none⟩ = some (.int .i64 a0_1) := (blk_cell BK233.out 1).trans rfl; have hcz6_2 : w4.cell? ⟨gb233, 2, none⟩ = some (.int .i64 a0_2) := (blk_cell BK233.out 2).trans rfl; have hcz6_3 : w4.cell? ⟨gb233, 3, none⟩ = some (.slice A0_3 l0_3.length c0_3) := (blk_cell BK233.out 3).trans rfl; have hcz6_4 : w4.cell? ⟨gb233, 4, none⟩ = some (.slice A0_4 l0_4.length c0_4) := (blk_cell BK233.out 4).trans rfl; have hfz6_0 := blk_frozen BK233.out 0; have hfz6_1 := blk_frozen BK233.out 1; have hfz6_2 := blk_frozen BK233.out 2; have hfz6_3 := blk_frozen BK233.out 3; have hfz6_4 := blk_frozen BK233.out 4))
  (try simp only [Act.put, List.setIfInBounds_toArray, List.set_cons_zero, List.set_cons_succ])
  go_cut [3, 4] (fun v3 v4 wc => ∃ (kq : Nat) (x3_1 : Int) (x4_1 : Int), v3 = .int .i64 x3_1 ∧ v4 = .int .i64 x4_1 ∧ Aside0 (capnpref11_Trim.j0 kq x3_1 x4_1 a0_0 a0_1 a0_2 l0_3 l0_4 = some (r1, r2, r3, r4, r5)) ∧ Aside0 (kq ≤ k) ∧ Aside0 (wc.heap[gb233]? = some (.cells #[.int .i64 a0_0, .int .i64 a0_1, .int .i64 a0_2, (.slice A0_3 l0_3.length c0_3), (.slice A0_4 l0_4.length c0_4)] 37 (0, 0))) ∧ Aside0 (wc.heap[gb234]? = some (.cells #[.int .i64 0, .int .i64 0, .int .i64 0, (.slice none 0 0), (.slice none 0 0)] 37 (0, 0))) ∧ Aside0 (Below w.heap.size w wc))
  case first =>
    have H := HC2.out
    clear HC2
    by_cases c7 : a0_0 = 1
    · rw [if_pos c7] at H
      have c7b0 : (a0_0 == 1) = true := beq_iff_eq.mpr c7
      have c7b1 : (a0_0 != 1) = false := bne_eq_false_iff_eq.mpr c7
      clear c7
      (first | rw [c7b0] | (simp only [i64_w, i32_w]; rw [c7b0]) | skip)
      replace H := Option.bind_eq_some_iff.mp H
      obtain ⟨t235, A80, H⟩ := H
      replace H : ((capnpref11_Pointers.f k l0_4).bind fun t236 => (capnpref11_Trim.j0 k (wrap64 (8 * t235)) t236 a0_0 a0_1 a0_2 l0_3 l0_4)) = some (r1, r2, r3, r4, r5) := H
      have A8 := Aside0.mk A80
      clear A80
      replace H := Option.bind_eq_some_iff.mp H
      obtain ⟨t236, A90, H⟩ := H
      replace H : (capnpref11_Trim.j0 k (wrap64 (8 * t235)) t236 a0_0 a0_1 a0_2 l0_3 l0_4) = some (r1, r2, r3, r4, r5) := H
      have A9 := Aside0.mk A90
      clear A90
      have H' := Aside0.mk H
      clear H
      have hnb10 := NB233_234.out
      have hnc10 := NB234_233.out
      have hcz11_0 : w4.cell? ⟨gb233, 0, none⟩ = some (.int .i64 a0_0) := (blk_cell BK233.out 0).trans rfl
      have hcz11_1 : w4.cell? ⟨gb233, 1, none⟩ = some (.int .i64 a0_1) := (blk_cell BK233.out 1).trans rfl
      have hcz11_2 : w4.cell? ⟨gb233, 2, none⟩ = some (.int .i64 a0_2) := (blk_cell BK233.out 2).trans rfl
      have hcz11_3 : w4.cell? ⟨gb233, 3, none⟩ = some (.slice A0_3 l0_3.length c0_3) := (blk_cell BK233.out 3).trans rfl
      have hcz11_4 : w4.cell? ⟨gb233, 4, none⟩ = some (.slice A0_4 l0_4.length c0_4) := (blk_cell BK233.out 4).trans rfl
      have hfz11_0 := blk_frozen BK233.out 0
      have hfz11_1 := blk_frozen BK233.out 1
      have hfz11_2 := blk_frozen BK233.out 2
      have hfz11_3 := blk_frozen BK233.out 3
      have hfz11_4 := blk_frozen BK233.out 4
      go_wp2_with (first | ((with_reducible refine gate_callee (f := 46) rfl ?_); refine goesL_ (some 19) rfl rfl Tryd.func46 (by kernel_rfl) rfl #[.slice A0_3 l0_3.length c0_3] rfl (by (try simp only [List.map_toArray, List.map_cons, List.map_nil]); first | done | rfl | (simp only [List.length_drop, List.length_take]; rfl)) ?_; (with_reducible refine (capnpref11_Words.calls k _ _ l0_3 t235 _ ?side1 ?side2 A8.out).mono ?_); (case side1 => repeat (first | exact (Kd.C_below HR0_3.out HB.out) | (with_reducible refine Kd.C_alloc ?_ _) | (with_reducible refine Kd.C_drewN ?_ _) | (with_reducible refine Kd.C_drew ?_))); (case side2 => exact HC0_3.out); rintro e w' ⟨rfl, ⟨nd, rfl⟩⟩; refine ⟨_, rfl, ?_⟩) | ((with_reducible refine gate_callee (f := 47) rfl ?_); refine goesL_ (some 23) rfl rfl Tryd.func47 (by kernel_rfl) rfl #[.slice A0_4 l0_4.length c0_4] rfl (by (try simp only [List.map_toArray, List.map_cons, List.map_nil]); first | done | rfl | (simp only [List.length_drop, List.length_take]; rfl)) ?_; (with_reducible refine (capnpref11_Pointers.calls k _ _ l0_4 t236 _ ?side1 ?side2 A9.out).mono ?_); (case side1 => repeat (first | exact (Kd.C_below HR0_4.out (by repeat (first | (with_reducible first | exact HB.out | apply below_alloc | apply pw_below_drewN | apply below_drew1 | refine below_set ?_ GE233.out | refine below_set ?_ GE234.out) | exact HB.out))) | (with_reducible refine Kd.C_alloc ?_ _) | (with_reducible refine Kd.C_drewN ?_ _) | (with_reducible refine Kd.C_drew ?_))); (case side2 => exact HC0_4.out); rintro e w' ⟨rfl, ⟨nd, rfl⟩⟩; refine ⟨_, rfl, ?_⟩))
      go_meet
      case rel => exact ⟨_, (wrap64 (8 * t235)), (t236), (by first | rfl | (simp; done) | (simp [*]; done)), (by first | rfl | (simp; done) | (simp [*]; done)), H', ⟨by first | omega | exact Nat.le_refl _⟩, ⟨by (with_reducible repeat (first | refine blk_drewN ?_ _ | refine blk_drew ?_ | refine blk_alloc ?_ _)); exact BK233.out⟩, ⟨by (with_reducible repeat (first | refine blk_drewN ?_ _ | refine blk_drew ?_ | refine blk_alloc ?_ _)); exact BK234.out⟩, ⟨by repeat (first | (with_reducible first | exact HB.out | apply below_alloc | apply pw_below_drewN | apply below_drew1 | refine below_set ?_ GE233.out | refine below_set ?_ GE234.out) | exact HB.out)⟩⟩
    · rw [if_neg c7] at H
      have c7b0 : (a0_0 == 1) = false := beq_eq_false_iff_ne.mpr c7
      have c7b1 : (a0_0 != 1) = true := bne_iff_ne.mpr c7
      (first | rw [c7b0] | (simp only [i64_w, i32_w]; rw [c7b0]) | skip)
      have H' := Aside0.mk H
      clear H
      go_wp2
      go_meet
      case rel => exact ⟨_, ((l0_3.length : Int)), ((l0_4.length : Int)), (by first | rfl | (simp; done) | (simp [*]; done)), (by first | rfl | (simp; done) | (simp [*]; done)), H', ⟨by first | omega | exact Nat.le_refl _⟩, ⟨by (with_reducible repeat (first | refine blk_drewN ?_ _ | refine blk_drew ?_ | refine blk_alloc ?_ _)); exact BK233.out⟩, ⟨by (with_reducible repeat (first | refine blk_drewN ?_ _ | refine blk_drew ?_ | refine blk_alloc ?_ _)); exact BK234.out⟩, ⟨by repeat (first | (with_reducible first | exact HB.out | apply below_alloc | apply pw_below_drewN | apply below_drew1 | refine below_set ?_ GE233.out | refine below_set ?_ GE234.out) | exact HB.out)⟩⟩
  case rest =>
    clear HC2
    try clear c1
    try clear c2
    try clear p2
    try clear c4
    try clear c5
    try clear p6
    try clear c7
    try clear c7b0
    try clear c7b1
    try clear c10
    try clear hcz11_0
    try clear hcz11_1
    try clear hcz11_2
    try clear hcz11_3
    try clear hcz11_4
    try clear hcz6_0
    try clear hcz6_1
    try clear hcz6_2
    try clear hcz6_3
    try clear hcz6_4
    try clear hfz11_0
    try clear hfz11_1
    try clear hfz11_2
    try clear hfz11_3
    try clear hfz11_4
    try clear hfz6_0
    try clear hfz6_1
    try clear hfz6_2
    try clear hfz6_3
    try clear hfz6_4
    obtain ⟨kq, x3_1, x4_1, rfl, rfl, HA, HJ1, BK233, BK234, HB⟩ := hcut
    cases kq with
    | zero => exact absurd HA.out (by simp [capnpref11_Trim.j0])
    | succ kj1 =>
      have H := HA.out
      clear HA
      simp only [capnpref11_Trim.j0] at H
      have H' := Aside0.mk H
      clear H
      go_wp2_with (first | ((with_reducible refine gate_dst (N := 5) rfl ?_); refine box_event ?hg (N := 5) ?hd (cs := #[.int .i64 0, .int .i64 0, .int .i64 0, .slice none 0 0, .slice none 0 0]) (t := 37) ?hr ?_; (case hd => rfl); (case hg => rfl); (case hr => first | (go_simp; done) | (go_simp; rfl)); intro gb237 hg w12 hbox hb; have n0_ := Aside0.mk (blk_below (g := gb233) (o := .cells #[.int .i64 a0_0, .int .i64 a0_1, .int .i64 a0_2, .slice A0_3 l0_3.length c0_3, .slice A0_4 l0_4.length c0_4] 37 (0, 0)) (by (with_reducible repeat (first | refine blk_drewN ?_ _ | refine blk_drew ?_ | refine blk_alloc ?_ _)); exact BK233.out) hb); have n1_ := Aside0.mk (blk_below (g := gb234) (o := .cells #[.int .i64 0, .int .i64 0, .int .i64 0, .slice none 0 0, .slice none 0 0] 37 (0, 0)) (by (with_reducible repeat (first | refine blk_drewN ?_ _ | refine blk_drew ?_ | refine blk_alloc ?_ _)); exact BK234.out) hb); have n2_ := Aside0.mk (below_step (by repeat (first | (with_reducible first | exact HB.out | apply below_alloc | apply pw_below_drewN | apply below_drew1 | refine below_set ?_ GE233.out | refine below_set ?_ GE234.out) | exact HB.out)) hb); have n3_ := Aside0.mk (hbox); have n4_ := Aside0.mk ((by rw [hg]; exact (below_size (by repeat (first | (with_reducible first | exact HB.out | apply below_alloc | apply pw_below_drewN | apply below_drew1 | refine below_set ?_ GE233.out | refine below_set ?_ GE234.out) | exact HB.out))) : w.heap.size ≤ gb237)); have n5_ := Aside0.mk ((by rw [hg]; exact (below_size (by repeat (first | (with_reducible first | exact HB.out | apply below_alloc | apply pw_below_drewN | apply below_drew1 | refine below_set ?_ GE233.out | refine below_set ?_ GE234.out) | exact HB.out))) : w.heap.size ≤ gb237)); have n6_ := Aside0.mk ((by rw [hg]; exact Nat.ne_of_lt (blk_lt (g := gb233) (o := .cells #[.int .i64 a0_0, .int .i64 a0_1, .int .i64 a0_2, .slice A0_3 l0_3.length c0_3, .slice A0_4 l0_4.length c0_4] 37 (0, 0)) (by (with_reducible repeat (first | refine blk_drewN ?_ _ | refine blk_drew ?_ | refine blk_alloc ?_ _)); exact BK233.out)) : gb233 ≠ gb237)); have n7_ := Aside0.mk ((by rw [hg]; exact Nat.ne_of_gt (blk_lt (g := gb233) (o := .cells #[.int .i64 a0_0, .int .i64 a0_1, .int .i64 a0_2, .slice A0_3 l0_3.length c0_3, .slice A0_4 l0_4.length c0_4] 37 (0, 0)) (by (with_reducible repeat (first | refine blk_drewN ?_ _ | refine blk_drew ?_ | refine blk_alloc ?_ _)); exact BK233.out)) : gb237 ≠ gb233)); have n8_ := Aside0.mk ((by rw [hg]; exact Nat.ne_of_lt (blk_lt (g := gb234) (o := .cells #[.int .i64 0, .int .i64 0, .int .i64 0, .slice none 0 0, .slice none 0 0] 37 (0, 0)) (by (with_reducible repeat (first | refine blk_drewN ?_ _ | refine blk_drew ?_ | refine blk_alloc ?_ _)); exact BK234.out)) : gb234 ≠ gb237)); have n9_ := Aside0.mk ((by rw [hg]; exact Nat.ne_of_gt (blk_lt (g := gb234) (o := .cells #[.int .i64 0, .int .i64 0, .int .i64 0, .slice none 0 0, .slice none 0 0] 37 (0, 0)) (by (with_reducible repeat (first | refine blk_drewN ?_ _ | refine blk_drew ?_ | refine blk_alloc ?_ _)); exact BK234.out)) : gb237 ≠ gb234)); clear BK233; clear BK234; clear HB; have BK233 := n0_; have BK234 := n1_; have HB := n2_; have BK237 := n3_; have GW237 := n4_; have GE237 := n5_; have NB233_237 := n6_; have NB237_233 := n7_; have NB234_237 := n8_; have NB237_234 := n9_; clear n0_ n1_ n2_ n3_ n4_ n5_ n6_ n7_ n8_ n9_; clear hb hbox hg; have hnb13 := NB233_234.out; have hnc13 := NB234_233.out; have hnb14 := NB233_237.out; have hnc14 := NB237_233.out; have hcz15_0 : w12.cell? ⟨gb233, 0, none⟩ = some (.int .i64 a0_0) := (blk_cell BK233.out 0).trans rfl; have hcz15_1 : w12.cell? ⟨gb233, 1, none⟩ = some (.int .i64 a0_1) := (blk_cell BK233.out 1).trans rfl; have hcz15_2 : w12.cell? ⟨gb233, 2, none⟩ = some (.int .i64 a0_2) := (blk_cell BK233.out 2).trans rfl; have hcz15_3 : w12.cell? ⟨gb233, 3, none⟩ = some (.slice A0_3 l0_3.length c0_3) := (blk_cell BK233.out 3).trans rfl; have hcz15_4 : w12.cell? ⟨gb233, 4, none⟩ = some (.slice A0_4 l0_4.length c0_4) := (blk_cell BK233.out 4).trans rfl; have hfz15_0 := blk_frozen BK233.out 0; have hfz15_1 := blk_frozen BK233.out 1; have hfz15_2 := blk_frozen BK233.out 2; have hfz15_3 := blk_frozen BK233.out 3; have hfz15_4 := blk_frozen BK233.out 4; have hnb16 := NB237_234.out; have hnc16 := NB234_237.out; have hcz17_0 : w12.cell? ⟨gb237, 0, none⟩ = some (.int .i64 0) := (blk_cell BK237.out 0).trans rfl; have hcz17_1 : w12.cell? ⟨gb237, 1, none⟩ = some (.int .i64 0) := (blk_cell BK237.out 1).trans rfl; have hcz17_2 : w12.cell? ⟨gb237, 2, none⟩ = some (.int .i64 0) := (blk_cell BK237.out 2).trans rfl; have hcz17_3 : w12.cell? ⟨gb237, 3, none⟩ = some (.slice none 0 0) := (blk_cell BK237.out 3).trans rfl; have hcz17_4 : w12.cell? ⟨gb237, 4, none⟩ = some (.slice none 0 0) := (blk_cell BK237.out 4).trans rfl; have hfz17_0 := blk_frozen BK237.out 0; have hfz17_1 := blk_frozen BK237.out 1; have hfz17_2 := blk_frozen BK237.out 2; have hfz17_3 := blk_frozen BK237.out 3; have hfz17_4 := blk_frozen BK237.out 4))
      go_loopg [6] kj1 (fun kq v6 w' => ∃ (x6_2 : Int) (x238003_2 : List Int) (u238003 : Value), v6 = .int .i64 x6_2 ∧ Aside0 (capnpref11_Trim.l0 kq x3_1 x4_1 x6_2 a0_0 a0_1 a0_2 l0_3 l0_4 a0_0 a0_1 a0_2 x238003_2 = some (r1, r2, r3, r4, r5)) ∧ Aside0 (kq ≤ kj1) ∧ Aside0 (Kd.R (Kd.int .u8) 5 w' w.heap.size (fun _ => True) u238003 x238003_2) ∧ Aside0 (w'.heap[gb233]? = some (.cells #[.int .i64 a0_0, .int .i64 a0_1, .int .i64 a0_2, (.slice A0_3 l0_3.length c0_3), (.slice A0_4 l0_4.length c0_4)] 37 (0, 0))) ∧ Aside0 (w'.heap[gb234]? = some (.cells #[.int .i64 0, .int .i64 0, .int .i64 0, (.slice none 0 0), (.slice none 0 0)] 37 (0, 0))) ∧ Aside0 (w'.heap[gb237]? = some (.cells #[.int .i64 a0_0, .int .i64 a0_1, .int .i64 a0_2, u238003, (.slice none 0 0)] 37 (0, 0))) ∧ Aside0 (Below w.heap.size w w'))
      case atStart => exact ⟨(0), (([] : List Int)), (.slice none 0 0), (by first | rfl | (simp; done) | (simp [*]; done)), H', ⟨Nat.le_refl _⟩, ⟨by first | exact Kd.R_nil _ _ _ _ _ | exact Kd.N_nil _ _ _ _ _ | exact Kd.V_nil _ _ _ _ _ | exact Kd.Q_nil _ _ _ _ _ | exact Kd.S_nil _ _ _ _ _⟩, ⟨by (with_reducible repeat (first | refine blk_drewN ?_ _ | refine blk_drew ?_ | refine blk_alloc ?_ _)); refine blk_far ?_ NB233_237.out _; (with_reducible repeat (first | refine blk_drewN ?_ _ | refine blk_drew ?_ | refine blk_alloc ?_ _)); refine blk_far ?_ NB233_237.out _; (with_reducible repeat (first | refine blk_drewN ?_ _ | refine blk_drew ?_ | refine blk_alloc ?_ _)); refine blk_far ?_ NB233_237.out _; (with_reducible repeat (first | refine blk_drewN ?_ _ | refine blk_drew ?_ | refine blk_alloc ?_ _)); exact BK233.out⟩, ⟨by (with_reducible repeat (first | refine blk_drewN ?_ _ | refine blk_drew ?_ | refine blk_alloc ?_ _)); refine blk_far ?_ NB234_237.out _; (with_reducible repeat (first | refine blk_drewN ?_ _ | refine blk_drew ?_ | refine blk_alloc ?_ _)); refine blk_far ?_ NB234_237.out _; (with_reducible repeat (first | refine blk_drewN ?_ _ | refine blk_drew ?_ | refine blk_alloc ?_ _)); refine blk_far ?_ NB234_237.out _; (with_reducible repeat (first | refine blk_drewN ?_ _ | refine blk_drew ?_ | refine blk_alloc ?_ _)); exact BK234.out⟩, ⟨by (with_reducible repeat (first | refine blk_drewN ?_ _ | refine blk_drew ?_ | refine blk_alloc ?_ _)); refine blk_put (cs := #[.int .i64 a0_0, .int .i64 a0_1, .int .i64 0, .slice none 0 0, .slice none 0 0]) ?_ 2 _ rfl; (with_reducible repeat (first | refine blk_drewN ?_ _ | refine blk_drew ?_ | refine blk_alloc ?_ _)); refine blk_put (cs := #[.int .i64 a0_0, .int .i64 0, .int .i64 0, .slice none 0 0, .slice none 0 0]) ?_ 1 _ rfl; (with_reducible repeat (first | refine blk_drewN ?_ _ | refine blk_drew ?_ | refine blk_alloc ?_ _)); refine blk_put (cs := #[.int .i64 0, .int .i64 0, .int .i64 0, .slice none 0 0, .slice none 0 0]) ?_ 0 _ rfl; (with_reducible repeat (first | refine blk_drewN ?_ _ | refine blk_drew ?_ | refine blk_alloc ?_ _)); exact BK237.out⟩, ⟨by repeat (first | (with_reducible first | exact HB.out | apply below_alloc | apply pw_below_drewN | apply below_drew1 | refine below_set ?_ GE233.out | refine below_set ?_ GE234.out | refine below_set ?_ GE237.out) | exact HB.out)⟩⟩
      case round =>
        clear H'
        try clear c1
        try clear c2
        try clear p2
        try clear c4
        try clear c5
        try clear p6
        try clear c7
        try clear c7b0
        try clear c7b1
        try clear c10
        try clear c13
        try clear c14
        try clear c16
        try clear hcz11_0
        try clear hcz11_1
        try clear hcz11_2
        try clear hcz11_3
        try clear hcz11_4
        try clear hcz15_0
        try clear hcz15_1
        try clear hcz15_2
        try clear hcz15_3
        try clear hcz15_4
        try clear hcz17_0
        try clear hcz17_1
        try clear hcz17_2
        try clear hcz17_3
        try clear hcz17_4
        try clear hcz6_0
        try clear hcz6_1
        try clear hcz6_2
        try clear hcz6_3
        try clear hcz6_4
        try clear hfz11_0
        try clear hfz11_1
        try clear hfz11_2
        try clear hfz11_3
        try clear hfz11_4
        try clear hfz15_0
        try clear hfz15_1
        try clear hfz15_2
        try clear hfz15_3
        try clear hfz15_4
        try clear hfz17_0
        try clear hfz17_1
        try clear hfz17_2
        try clear hfz17_3
        try clear hfz17_4
        try clear hfz6_0
        try clear hfz6_1
        try clear hfz6_2
        try clear hfz6_3
        try clear hfz6_4
        try clear p2
        try clear p6
        try clear BK233
        try clear BK234
        try clear BK237
        obtain ⟨x6_2, x238003_2, u238003, rfl, HA, HK2, HO_238003, BK233, BK234, BK237, HB⟩ := hrel
        cases gk with
        | zero => exact absurd HA.out (by simp [capnpref11_Trim.l0])
        | succ k2 =>
          have H := HA.out
          clear HA
          simp only [capnpref11_Trim.l0] at H
          by_cases c18 : x6_2 < x3_1
          · rw [if_pos c18] at H
            have c18b0 : decide (x6_2 < x3_1) = true := decide_eq_true c18
            clear c18
            by_cases c19 : 0 ≤ x6_2
            · rw [if_pos c19] at H
              have c19b0 : decide (0 ≤ x6_2) = true := decide_eq_true c19
              clear c19
              by_cases c20 : x6_2 < (l0_3.length : Int)
              · rw [if_pos c20] at H
                have c20b0 : decide (x6_2 < (l0_3.length : Int)) = true := decide_eq_true c20
                clear c20
                by_cases c21 : x238003_2.length < 140737488355328
                · rw [if_pos c21] at H
                  have LMc21 := Aside0.mk c21
                  clear c21
                  obtain ⟨y239, hy239⟩ : ∃ y_ : List Int, y_ = (x238003_2 ++ [rd l0_3 x6_2]) := ⟨_, rfl⟩
                  replace H : (capnpref11_Trim.l0 k2 x3_1 x4_1 (wrap64 (x6_2 + 1)) a0_0 a0_1 a0_2 l0_3 l0_4 a0_0 a0_1 a0_2 y239) = some (r1, r2, r3, r4, r5) := by first | (rw [hy239]; with_reducible exact H) | (have H2_ := (Option.bind_some _ _).symm.trans H; rw [hy239]; with_reducible exact H2_) | (have H2_ := (Option.bind_some _ _).symm.trans H; with_reducible exact H2_) | with_reducible exact H | (rw [hy239]; exact H) | exact H
                  have Ny239 := Aside0.mk hy239
                  clear hy239
                  have H' := Aside0.mk H
                  clear H
                  try go_wp2
                  have n0_ := Aside0.mk (Kd.R_drew HO_238003.out)
                  have n1_ := Aside0.mk (blk_drew BK233.out)
                  have n2_ := Aside0.mk (blk_drew BK234.out)
                  have n3_ := Aside0.mk (blk_drew BK237.out)
                  have n4_ := Aside0.mk (below_drew1 HB.out)
                  clear HO_238003
                  clear BK233
                  clear BK234
                  clear BK237
                  clear HB
                  have HO_238003 := n0_
                  have BK233 := n1_
                  have BK234 := n2_
                  have BK237 := n3_
                  have HB := n4_
                  clear n0_ n1_ n2_ n3_ n4_
                  have p238 : 0 ≤ (x6_2 : Int) := of_decide_eq_true (by first | (with_reducible assumption) | assumption)
                  have q238 : x6_2 < (l0_3.length : Int) := of_decide_eq_true (by first | (with_reducible assumption) | assumption)
                  obtain ⟨ad238, e238, hx238_0⟩ := Kd.at_int HR0_3.out x6_2 p238 q238
                  have hw238_0 := hx238_0
                  cases e238
                  replace hx238_0 := (HB.out.cell (World.block_lt_of_cell? w _ hx238_0)).trans hx238_0
                  replace p238 := eq_true p238
                  replace q238 := eq_true q238
                  refine start_ (n := 11) (S := fun w' => w'.cell? ⟨gb237, 0, none⟩ = some (.int .i64 a0_0) ∧ w'.cell? ⟨gb237, 1, none⟩ = some (.int .i64 a0_1) ∧ w'.cell? ⟨gb237, 2, none⟩ = some (.int .i64 a0_2) ∧ w'.cell? ⟨gb237, 3, none⟩ = some (u238003) ∧ w'.cell? ⟨gb237, 4, none⟩ = some (.slice none 0 0) ∧ w'.cell? ⟨gb233, 0, none⟩ = some (.int .i64 a0_0) ∧ w'.cell? ⟨gb233, 1, none⟩ = some (.int .i64 a0_1) ∧ w'.cell? ⟨gb233, 2, none⟩ = some (.int .i64 a0_2) ∧ w'.cell? ⟨gb233, 3, none⟩ = some (.slice (some ad238) l0_3.length c0_3) ∧ w'.cell? ⟨gb233, 4, none⟩ = some (.slice A0_4 l0_4.length c0_4) ∧ w'.cell? (ad238.add (x6_2).toNat) = some (.int .u8 (rd l0_3 x6_2))) (ds := [10]) #[false, false, false, false, false, false, false, false, false, false, false] (by kernel_rfl) rfl rfl ⟨(blk_cell BK237.out 0).trans rfl, (blk_cell BK237.out 1).trans rfl, (blk_cell BK237.out 2).trans rfl, (blk_cell BK237.out 3).trans rfl, (blk_cell BK237.out 4).trans rfl, (blk_cell BK233.out 0).trans rfl, (blk_cell BK233.out 1).trans rfl, (blk_cell BK233.out 2).trans rfl, (blk_cell BK233.out 3).trans rfl, (blk_cell BK233.out 4).trans rfl, ((HB.out.cell (World.block_lt_of_cell? w _ hw238_0)).trans hw238_0)⟩ (fun hHeld => ?_); refine with_tabW capnpref11_Trim.tab13 capnpref11_Trim.bits13 (fun HT_ HW_ => ?_)
                  generalize wr.drew = w22 at HO_238003 BK233 BK234 BK237 HB hx238_0 hHeld ⊢
                  refine pure_ (i := 0) (N := some 38) (v := ?_) (a' := ?_) #[true, false, false, false, false, false, false, false, false, false, false] rfl rfl (any_of HT_.out (by kernel_rfl)) (fun _ _ _ h => h) (Or.inl ⟨by rfl, ?_⟩) ?_ ?_
                  rotate_left
                  · intro w'
                    go_simp
                    with_reducible rfl
                  rotate_left
                  · simp only [Act.put, List.setIfInBounds_toArray, List.set_cons_zero, List.set_cons_succ, i64_w, i32_w]
                    rfl
                  refine pure_ (i := 2) (N := some 40) (v := ?_) (a' := ?_) #[true, false, true, false, false, false, false, false, false, false, false] rfl rfl (any_of HT_.out (by kernel_rfl)) (fun _ _ _ h => h) (Or.inl ⟨by rfl, ?_⟩) ?_ ?_
                  rotate_left
                  · intro w'
                    go_simp
                    with_reducible rfl
                  rotate_left
                  · simp only [Act.put, List.setIfInBounds_toArray, List.set_cons_zero, List.set_cons_succ, i64_w, i32_w]
                    rfl
                  refine pure_ (i := 4) (N := some 42) (v := ?_) (a' := ?_) #[true, false, true, false, true, false, false, false, false, false, false] rfl rfl (any_of HT_.out (by kernel_rfl)) (fun _ _ _ h => h) (Or.inl ⟨by rfl, ?_⟩) ?_ ?_
                  rotate_left
                  · intro w'
                    go_simp
                    with_reducible rfl
                  rotate_left
                  · simp only [Act.put, List.setIfInBounds_toArray, List.set_cons_zero, List.set_cons_succ, i64_w, i32_w]
                    rfl
                  refine take_ (i := 1) (N := some 39) (v := ?_) (a' := ?_) #[true, true, true, false, true, false, false, false, false, false, false] rfl rfl (take_ofW HT_.out HW_.out (by kernel_rfl)) (fun _ _ _ h => h) (Or.inl ⟨by rfl, ?_⟩) hHeld ?_ ?_
                  rotate_left
                  · rintro w' ⟨s0, s1, s2, s3, s4, s5, s6, s7, s8, s9, s10⟩
                    go_simp
                    with_reducible rfl
                  rotate_left
                  · simp only [Act.put, List.setIfInBounds_toArray, List.set_cons_zero, List.set_cons_succ, i64_w, i32_w]
                    rfl
                  refine take_ (i := 3) (N := some 41) (v := ?_) (a' := ?_) #[true, true, true, true, true, false, false, false, false, false, false] rfl rfl (take_ofW HT_.out HW_.out (by kernel_rfl)) (fun _ _ _ h => h) (Or.inl ⟨by rfl, ?_⟩) hHeld ?_ ?_
                  rotate_left
                  · rintro w' ⟨s0, s1, s2, s3, s4, s5, s6, s7, s8, s9, s10⟩
                    go_simp
                    with_reducible rfl
                  rotate_left
                  · simp only [Act.put, List.setIfInBounds_toArray, List.set_cons_zero, List.set_cons_succ, i64_w, i32_w]
                    rfl
                  refine pure_ (i := 5) (N := some 43) (v := ?_) (a' := ?_) #[true, true, true, true, true, true, false, false, false, false, false] rfl rfl (any_of HT_.out (by kernel_rfl)) (fun _ _ _ h => h) (Or.inl ⟨by rfl, ?_⟩) ?_ ?_
                  rotate_left
                  · intro w'
                    go_simp
                    with_reducible rfl
                  rotate_left
                  · simp only [Act.put, List.setIfInBounds_toArray, List.set_cons_zero, List.set_cons_succ, i64_w, i32_w]
                    rfl
                  refine take_ (i := 6) (N := some 44) (v := ?_) (a' := ?_) #[true, true, true, true, true, true, true, false, false, false, false] rfl rfl (take_ofW HT_.out HW_.out (by kernel_rfl)) (fun _ _ _ h => h) (Or.inl ⟨by rfl, ?_⟩) hHeld ?_ ?_
                  rotate_left
                  · rintro w' ⟨s0, s1, s2, s3, s4, s5, s6, s7, s8, s9, s10⟩
                    go_simp
                    with_reducible rfl
                  rotate_left
                  · simp only [Act.put, List.setIfInBounds_toArray, List.set_cons_zero, List.set_cons_succ, i64_w, i32_w]
                    rfl
                  refine one_ (i := 7) (N := some 45) #[true, true, true, true, true, true, true, true, false, false, false] rfl rfl (one_of HT_.out (by kernel_rfl)) (by decide) (fun K hK => ?_)
                  refine value_ (w1 := ?_) (v := ?_) (by rfl) rfl ?_ ?_
                  rotate_left 2
                  · go_simp
                    constructor
                    · rfl
                    · rfl
                  refine hK.out _ _ ⟨(blk_cell (blk_alloc BK237.out _) 0).trans rfl, (blk_cell (blk_alloc BK237.out _) 1).trans rfl, (blk_cell (blk_alloc BK237.out _) 2).trans rfl, (blk_cell (blk_alloc BK237.out _) 3).trans rfl, (blk_cell (blk_alloc BK237.out _) 4).trans rfl, (blk_cell (blk_alloc BK233.out _) 0).trans rfl, (blk_cell (blk_alloc BK233.out _) 1).trans rfl, (blk_cell (blk_alloc BK233.out _) 2).trans rfl, (blk_cell (blk_alloc BK233.out _) 3).trans rfl, (blk_cell (blk_alloc BK233.out _) 4).trans rfl, (World.cell?_alloc_lt _ _ _ (World.block_lt_of_cell? _ _ (((HB.out.cell (World.block_lt_of_cell? w _ hw238_0)).trans hw238_0)))).trans (((HB.out.cell (World.block_lt_of_cell? w _ hw238_0)).trans hw238_0))⟩ (fun hHeld => ?_)
                  clear hK K
                  refine norm_ (a' := ?_) ?_ ?_
                  rotate_left
                  · show Act.put _ (some 45) _ = _
                    simp only [Act.put, List.setIfInBounds_toArray, List.set_cons_zero, List.set_cons_succ, i64_w, i32_w]
                    rfl
                  refine one_ (i := 8) (N := some 46) #[true, true, true, true, true, true, true, true, true, false, false] rfl rfl (one_of HT_.out (by kernel_rfl)) (by decide) (fun K hK => ?_)
                  refine Kd.R_append_step (Kd.int .u8) (w0 := w) w.heap.size (by rfl) (.tmp 39) (.tmp 45) 34 5 (.int .u8 0) 1 rfl Tryd.underlying34 info5 rfl (by decide) (by omega) u238003 x238003_2 (rd l0_3 x6_2) [.int .u8 (rd l0_3 x6_2)] (fun _ => True) (fun _ => False) rfl rfl ?aP (fun _ hk => hk.elim) ?aF ?aO ?aB ?aS ?aL ?_
                  (case aP => exact rfl)
                  (case aB => exact (by repeat (first | (with_reducible first | exact HB.out | apply below_alloc | apply pw_below_drewN | apply below_drew1 | refine below_set ?_ GE233.out | refine below_set ?_ GE234.out | refine below_set ?_ GE237.out) | exact HB.out)))
                  (case aF => exact (fun _ _ => trivial))
                  (case aO => exact (by (with_reducible repeat (first | apply Kd.R_alloc | apply Kd.R_drewN | apply Kd.R_drew)); exact HO_238003.out))
                  (case aS => exact (below_size (by repeat (first | (with_reducible first | exact HB.out | apply below_alloc | apply pw_below_drewN | apply below_drew1 | refine below_set ?_ GE233.out | refine below_set ?_ GE234.out | refine below_set ?_ GE237.out) | exact HB.out))))
                  (case aL => have := LMc21.out; omega)
                  intro v240 w23 ho hb hg hat
                  rw [← Ny239.out] at ho
                  have n0_ := Aside0.mk (blk_grown (g := gb233) (o := .cells #[.int .i64 a0_0, .int .i64 a0_1, .int .i64 a0_2, .slice (some ad238) l0_3.length c0_3, .slice A0_4 l0_4.length c0_4] 37 (0, 0)) (by (with_reducible repeat (first | refine blk_drewN ?_ _ | refine blk_drew ?_ | refine blk_alloc ?_ _)); exact BK233.out) hg (Kd.R_ne HO_238003.out BK233.out (by decide)))
                  have n1_ := Aside0.mk (blk_grown (g := gb234) (o := .cells #[.int .i64 0, .int .i64 0, .int .i64 0, .slice none 0 0, .slice none 0 0] 37 (0, 0)) (by (with_reducible repeat (first | refine blk_drewN ?_ _ | refine blk_drew ?_ | refine blk_alloc ?_ _)); exact BK234.out) hg (Kd.R_ne HO_238003.out BK234.out (by decide)))
                  have n2_ := Aside0.mk (blk_grown (g := gb237) (o := .cells #[.int .i64 a0_0, .int .i64 a0_1, .int .i64 a0_2, u238003, .slice none 0 0] 37 (0, 0)) (by (with_reducible repeat (first | refine blk_drewN ?_ _ | refine blk_drew ?_ | refine blk_alloc ?_ _)); exact BK237.out) hg (Kd.R_ne HO_238003.out BK237.out (by decide)))
                  have n3_ := Aside0.mk (hb)
                  have n4_ := Aside0.mk (ho)
                  clear BK233
                  clear BK234
                  clear BK237
                  clear HB
                  clear HO_238003
                  have BK233 := n0_
                  have BK234 := n1_
                  have BK237 := n2_
                  have HB := n3_
                  have HO241 := n4_
                  clear n0_ n1_ n2_ n3_ n4_
                  clear ho hb hg hat
                  obtain ⟨Ao24, co24, eo24⟩ := Kd.R_slice HO241.out
                  (first | subst eo24 | (injection eo24 with f1_ f2_ f3_; have f4_ := f1_.symm; have f5_ := f3_.symm; clear f1_ f2_ f3_; subst f4_; subst f5_))
                  refine hK.out _ _ ⟨(blk_cell BK237.out 0).trans rfl, (blk_cell BK237.out 1).trans rfl, (blk_cell BK237.out 2).trans rfl, (blk_cell BK237.out 3).trans rfl, (blk_cell BK237.out 4).trans rfl, (blk_cell BK233.out 0).trans rfl, (blk_cell BK233.out 1).trans rfl, (blk_cell BK233.out 2).trans rfl, (blk_cell BK233.out 3).trans rfl, (blk_cell BK233.out 4).trans rfl, ((HB.out.cell (World.block_lt_of_cell? w _ hw238_0)).trans hw238_0)⟩ (fun hHeld => ?_)
                  clear hK K
                  refine norm_ (a' := ?_) ?_ ?_
                  rotate_left
                  · show Act.put _ (some 46) _ = _
                    simp only [Act.put, List.setIfInBounds_toArray, List.set_cons_zero, List.set_cons_succ, i64_w, i32_w]
                    rfl
                  refine pure_ (i := 9) (N := some 47) (v := ?_) (a' := ?_) #[true, true, true, true, true, true, true, true, true, true, false] rfl rfl (any_of HT_.out (by kernel_rfl)) (fun _ _ _ h => h) (Or.inl ⟨by rfl, ?_⟩) ?_ ?_
                  rotate_left
                  · intro w'
                    go_simp
                    with_reducible rfl
                  rotate_left
                  · simp only [Act.put, List.setIfInBounds_toArray, List.set_cons_zero, List.set_cons_succ, i64_w, i32_w]
                    rfl
                  refine last_ (i := 10) (N := none) #[true, true, true, true, true, true, true, true, true, true, true] rfl rfl (one_of HT_.out (by kernel_rfl)) (by decide) (fun K hK => ?_)
                  have hs25 : w23.cell? ⟨gb237, 3, none⟩ = some (u238003) := (blk_cell BK237.out 3).trans rfl
                  have hfs25 := blk_frozen BK237.out 3
                  have hns25_0 := NB233_237.out
                  have hns25_1 := NB234_237.out
                  have hms25_0 := NB237_233.out
                  have hms25_1 := NB237_234.out
                  refine skip_ (w1 := ?_) (by rfl) rfl ?_ ?_
                  rotate_left
                  · go_simp
                    rfl
                  refine hK.out _ _ ?_
                  clear hK K
                  refine done_ (done_of HT_.out (by kernel_rfl)) ?_
                  try go_wp2
                  go_roundg k2
                  case measure => have := HJ1.out; have := HK2.out; omega
                  case rel => exact ⟨(wrap64 (x6_2 + 1)), (y239), (.slice Ao24 y239.length co24), (by first | rfl | (simp; done) | (simp [*]; done)), H', ⟨by have := HJ1.out; have := HK2.out; omega⟩, ⟨by (with_reducible repeat (first | apply Kd.R_alloc | apply Kd.R_drewN | apply Kd.R_drew)); exact Kd.R_mono (Kd.R_far (p := ⟨gb237, 3, none⟩) (Kd.R_types HO241.out BK237.out (by decide)) (fun _ hk => hk.2) (.slice Ao24 y239.length co24)) (fun _ hk => trivial)⟩, ⟨by (with_reducible repeat (first | refine blk_drewN ?_ _ | refine blk_drew ?_ | refine blk_alloc ?_ _)); refine blk_far ?_ NB233_237.out _; (with_reducible repeat (first | refine blk_drewN ?_ _ | refine blk_drew ?_ | refine blk_alloc ?_ _)); exact BK233.out⟩, ⟨by (with_reducible repeat (first | refine blk_drewN ?_ _ | refine blk_drew ?_ | refine blk_alloc ?_ _)); refine blk_far ?_ NB234_237.out _; (with_reducible repeat (first | refine blk_drewN ?_ _ | refine blk_drew ?_ | refine blk_alloc ?_ _)); exact BK234.out⟩, ⟨by (with_reducible repeat (first | refine blk_drewN ?_ _ | refine blk_drew ?_ | refine blk_alloc ?_ _)); refine blk_put (cs := #[.int .i64 a0_0, .int .i64 a0_1, .int .i64 a0_2, u238003, .slice none 0 0]) ?_ 3 _ rfl; (with_reducible repeat (first | refine blk_drewN ?_ _ | refine blk_drew ?_ | refine blk_alloc ?_ _)); exact BK237.out⟩, ⟨by repeat (first | (with_reducible first | exact HB.out | apply below_alloc | apply pw_below_drewN | apply below_drew1 | refine below_set ?_ GE233.out | refine below_set ?_ GE234.out | refine below_set ?_ GE237.out) | exact HB.out)⟩⟩
                · rw [if_neg c21] at H
                  exact absurd H (by simp)
              · rw [if_neg c20] at H
                exact absurd H (by simp)
            · rw [if_neg c19] at H
              exact absurd H (by simp)
          · rw [if_neg c18] at H
            have c18b0 : decide (x6_2 < x3_1) = false := decide_eq_false c18
            clear c18
            have H' := Aside0.mk H
            clear H
            go_wp2
            go_loopg [7] k2 (fun kq v7 w' => ∃ (x7_3 : Int) (x238004_3 : List (S37)) (u238004 : Value), v7 = .int .i64 x7_3 ∧ Aside0 (capnpref11_Trim.l1 kq x4_1 x7_3 a0_0 a0_1 a0_2 l0_3 l0_4 a0_0 a0_1 a0_2 x238003_2 x238004_3 = some (r1, r2, r3, r4, r5)) ∧ Aside0 (kq ≤ k2) ∧ Aside0 (Kd.R (Kd.int .u8) 5 w' w.heap.size (fun _ => True) u238003 x238003_2) ∧ Aside0 (Kd.R k37 37 w' w.heap.size (fun k_ => some k_ ≠ (u238003 : Value).ownBlock ∧ k_ ≠ gb233 ∧ k_ ≠ gb234 ∧ k_ ≠ gb237) u238004 x238004_3) ∧ Aside0 (w'.heap[gb233]? = some (.cells #[.int .i64 a0_0, .int .i64 a0_1, .int .i64 a0_2, (.slice A0_3 l0_3.length c0_3), (.slice A0_4 l0_4.length c0_4)] 37 (0, 0))) ∧ Aside0 (w'.heap[gb234]? = some (.cells #[.int .i64 0, .int .i64 0, .int .i64 0, (.slice none 0 0), (.slice none 0 0)] 37 (0, 0))) ∧ Aside0 (w'.heap[gb237]? = some (.cells #[.int .i64 a0_0, .int .i64 a0_1, .int .i64 a0_2, u238003, u238004] 37 (0, 0))) ∧ Aside0 (Below w.heap.size w w'))
            case atStart => exact ⟨(0), (([] : List (S37))), (.slice none 0 0), (by first | rfl | (simp; done) | (simp [*]; done)), H', ⟨Nat.le_refl _⟩, ⟨by (with_reducible repeat (first | apply Kd.R_alloc | apply Kd.R_drewN | apply Kd.R_drew)); exact HO_238003.out⟩, ⟨by first | exact Kd.R_nil _ _ _ _ _ | exact Kd.N_nil _ _ _ _ _ | exact Kd.V_nil _ _ _ _ _ | exact Kd.Q_nil _ _ _ _ _ | exact Kd.S_nil _ _ _ _ _⟩, ⟨by (with_reducible repeat (first | refine blk_drewN ?_ _ | refine blk_drew ?_ | refine blk_alloc ?_ _)); exact BK233.out⟩, ⟨by (with_reducible repeat (first | refine blk_drewN ?_ _ | refine blk_drew ?_ | refine blk_alloc ?_ _)); exact BK234.out⟩, ⟨by (with_reducible repeat (first | refine blk_drewN ?_ _ | refine blk_drew ?_ | refine blk_alloc ?_ _)); exact BK237.out⟩, ⟨by repeat (first | (with_reducible first | exact HB.out | apply below_alloc | apply pw_below_drewN | apply below_drew1 | refine below_set ?_ GE233.out | refine below_set ?_ GE234.out | refine below_set ?_ GE237.out) | exact HB.out)⟩⟩
            case round =>
              clear H'
              try clear c1
              try clear c2
              try clear p2
              try clear q2
              try clear hx2
              try clear c4
              try clear c5
              try clear p6
              try clear c7
              try clear c7b0
              try clear c7b1
              try clear c10
              try clear c13
              try clear c14
              try clear c16
              try clear c18
              try clear c18b0
              try clear c19
              try clear c19b0
              try clear c20
              try clear c20b0
              try clear c21
              try clear p23
              try clear q23
              try clear hx23
              try clear hcz11_0
              try clear hcz11_1
              try clear hcz11_2
              try clear hcz11_3
              try clear hcz11_4
              try clear hcz15_0
              try clear hcz15_1
              try clear hcz15_2
              try clear hcz15_3
              try clear hcz15_4
              try clear hcz17_0
              try clear hcz17_1
              try clear hcz17_2
              try clear hcz17_3
              try clear hcz17_4
              try clear hcz6_0
              try clear hcz6_1
              try clear hcz6_2
              try clear hcz6_3
              try clear hcz6_4
              try clear hfz11_0
              try clear hfz11_1
              try clear hfz11_2
              try clear hfz11_3
              try clear hfz11_4
              try clear hfz15_0
              try clear hfz15_1
              try clear hfz15_2
              try clear hfz15_3
              try clear hfz15_4
              try clear hfz17_0
              try clear hfz17_1
              try clear hfz17_2
              try clear hfz17_3
              try clear hfz17_4
              try clear hfz6_0
              try clear hfz6_1
              try clear hfz6_2
              try clear hfz6_3
              try clear hfz6_4
              try clear hx238_0
              try clear p2
              try clear p238
              try clear p6
              try clear q238
              try clear BK233
              try clear BK234
              try clear BK237
              obtain ⟨x7_3, x238004_3, u238004, rfl, HA, HK3, HO_238003, HO_238004, BK233, BK234, BK237, HB⟩ := hrel
              cases gk with
              | zero => exact absurd HA.out (by simp [capnpref11_Trim.l1])
              | succ k3 =>
                have H := HA.out
                clear HA
                simp only [capnpref11_Trim.l1] at H
                by_cases c26 : x7_3 < x4_1
                · rw [if_pos c26] at H
                  have c26b0 : decide (x7_3 < x4_1) = true := decide_eq_true c26
                  clear c26
                  by_cases c27 : 0 ≤ x7_3
                  · rw [if_pos c27] at H
                    have c27b0 : decide (0 ≤ x7_3) = true := decide_eq_true c27
                    clear c27
                    by_cases c28 : x7_3 < (l0_4.length : Int)
                    · rw [if_pos c28] at H
                      have c28b0 : decide (x7_3 < (l0_4.length : Int)) = true := decide_eq_true c28
                      clear c28
                      replace H := Option.bind_eq_some_iff.mp H
                      obtain ⟨⟨t243, t244, t245, t246, t249⟩, A290, H⟩ := H
                      replace H : (if x238004_3.length < 1954687338268 then (capnpref11_Trim.l1 k3 x4_1 (wrap64 (x7_3 + 1)) a0_0 a0_1 a0_2 l0_3 l0_4 a0_0 a0_1 a0_2 x238003_2 (x238004_3 ++ [(⟨t243, t244, t245, t246, t249⟩ : S37)])) else (none)) = some (r1, r2, r3, r4, r5) := H
                      have A29 := Aside0.mk A290
                      clear A290
                      by_cases c30 : x238004_3.length < 1954687338268
                      · rw [if_pos c30] at H
                        have LMc30 := Aside0.mk c30
                        clear c30
                        obtain ⟨y252, hy252⟩ : ∃ y_ : List (S37), y_ = (x238004_3 ++ [(⟨t243, t244, t245, t246, t249⟩ : S37)]) := ⟨_, rfl⟩
                        replace H : (capnpref11_Trim.l1 k3 x4_1 (wrap64 (x7_3 + 1)) a0_0 a0_1 a0_2 l0_3 l0_4 a0_0 a0_1 a0_2 x238003_2 y252) = some (r1, r2, r3, r4, r5) := by first | (rw [hy252]; with_reducible exact H) | (have H2_ := (Option.bind_some _ _).symm.trans H; rw [hy252]; with_reducible exact H2_) | (have H2_ := (Option.bind_some _ _).symm.trans H; with_reducible exact H2_) | with_reducible exact H | (rw [hy252]; exact H) | exact H
                        have Ny252 := Aside0.mk hy252
                        clear hy252
                        have H' := Aside0.mk H
                        clear H
                        try go_wp2
                        have n0_ := Aside0.mk (Kd.R_drew HO_238003.out)
                        have n1_ := Aside0.mk (Kd.R_drew HO_238004.out)
                        have n2_ := Aside0.mk (blk_drew BK233.out)
                        have n3_ := Aside0.mk (blk_drew BK234.out)
                        have n4_ := Aside0.mk (blk_drew BK237.out)
                        have n5_ := Aside0.mk (below_drew1 HB.out)
                        clear HO_238003
                        clear HO_238004
                        clear BK233
                        clear BK234
                        clear BK237
                        clear HB
                        have HO_238003 := n0_
                        have HO_238004 := n1_
                        have BK233 := n2_
                        have BK234 := n3_
                        have BK237 := n4_
                        have HB := n5_
                        clear n0_ n1_ n2_ n3_ n4_ n5_
                        have p242 : 0 ≤ (x7_3 : Int) := of_decide_eq_true (by first | (with_reducible assumption) | assumption)
                        have q242 : x7_3 < (l0_4.length : Int) := of_decide_eq_true (by first | (with_reducible assumption) | assumption)
                        obtain ⟨ad242, A242_3, c242_3, A242_4, c242_4, e242, hx242_0, hx242_1, hx242_2, hx242_3, hx242_4, hl242_3, hi242_3, hl242_4, hi242_4⟩ := at_T37 HR0_4.out x7_3 p242 q242
                        have hw242_4 := hx242_4
                        have hw242_3 := hx242_3
                        have hw242_2 := hx242_2
                        have hw242_1 := hx242_1
                        have hw242_0 := hx242_0
                        cases e242
                        replace hx242_0 := (HB.out.cell (World.block_lt_of_cell? w _ hx242_0)).trans hx242_0
                        replace hx242_1 := (HB.out.cell (World.block_lt_of_cell? w _ hx242_1)).trans hx242_1
                        replace hx242_2 := (HB.out.cell (World.block_lt_of_cell? w _ hx242_2)).trans hx242_2
                        replace hx242_3 := (HB.out.cell (World.block_lt_of_cell? w _ hx242_3)).trans hx242_3
                        replace hx242_4 := (HB.out.cell (World.block_lt_of_cell? w _ hx242_4)).trans hx242_4
                        have HR242_3 := Aside0.mk hi242_3
                        have HC242_3 := Aside0.mk hl242_3
                        clear hi242_3 hl242_3
                        have HR242_4 := Aside0.mk hi242_4
                        have HC242_4 := Aside0.mk hl242_4
                        clear hi242_4 hl242_4
                        replace p242 := eq_true p242
                        replace q242 := eq_true q242
                        refine start_ (n := 12) (S := fun w' => w'.cell? ⟨gb237, 0, none⟩ = some (.int .i64 a0_0) ∧ w'.cell? ⟨gb237, 1, none⟩ = some (.int .i64 a0_1) ∧ w'.cell? ⟨gb237, 2, none⟩ = some (.int .i64 a0_2) ∧ w'.cell? ⟨gb237, 3, none⟩ = some (u238003) ∧ w'.cell? ⟨gb237, 4, none⟩ = some (u238004) ∧ w'.cell? ⟨gb233, 0, none⟩ = some (.int .i64 a0_0) ∧ w'.cell? ⟨gb233, 1, none⟩ = some (.int .i64 a0_1) ∧ w'.cell? ⟨gb233, 2, none⟩ = some (.int .i64 a0_2) ∧ w'.cell? ⟨gb233, 3, none⟩ = some (.slice A0_3 l0_3.length c0_3) ∧ w'.cell? ⟨gb233, 4, none⟩ = some (.slice (some ad242) l0_4.length c0_4) ∧ w'.cell? (ad242.add ((x7_3).toNat * 5)) = some (.int .i64 ((rd_T37 l0_4 x7_3).f0)) ∧ w'.cell? ⟨(ad242.add ((x7_3).toNat * 5)).block, (ad242.add ((x7_3).toNat * 5)).off + 1, none⟩ = some (.int .i64 ((rd_T37 l0_4 x7_3).f1)) ∧ w'.cell? ⟨(ad242.add ((x7_3).toNat * 5)).block, (ad242.add ((x7_3).toNat * 5)).off + 2, none⟩ = some (.int .i64 ((rd_T37 l0_4 x7_3).f2)) ∧ w'.cell? ⟨(ad242.add ((x7_3).toNat * 5)).block, (ad242.add ((x7_3).toNat * 5)).off + 3, none⟩ = some (.slice A242_3 ((rd_T37 l0_4 x7_3).f3).length c242_3) ∧ w'.cell? ⟨(ad242.add ((x7_3).toNat * 5)).block, (ad242.add ((x7_3).toNat * 5)).off + 4, none⟩ = some (.slice A242_4 ((rd_T37 l0_4 x7_3).f4).length c242_4)) (ds := [11]) #[false, false, false, false, false, false, false, false, false, false, false, false] (by kernel_rfl) rfl rfl ⟨(blk_cell BK237.out 0).trans rfl, (blk_cell BK237.out 1).trans rfl, (blk_cell BK237.out 2).trans rfl, (blk_cell BK237.out 3).trans rfl, (blk_cell BK237.out 4).trans rfl, (blk_cell BK233.out 0).trans rfl, (blk_cell BK233.out 1).trans rfl, (blk_cell BK233.out 2).trans rfl, (blk_cell BK233.out 3).trans rfl, (blk_cell BK233.out 4).trans rfl, ((HB.out.cell (World.block_lt_of_cell? w _ hw242_0)).trans hw242_0), ((HB.out.cell (World.block_lt_of_cell? w _ hw242_1)).trans hw242_1), ((HB.out.cell (World.block_lt_of_cell? w _ hw242_2)).trans hw242_2), ((HB.out.cell (World.block_lt_of_cell? w _ hw242_3)).trans hw242_3), ((HB.out.cell (World.block_lt_of_cell? w _ hw242_4)).trans hw242_4)⟩ (fun hHeld => ?_); refine with_tabW capnpref11_Trim.tab17 capnpref11_Trim.bits17 (fun HT_ HW_ => ?_)
                        generalize wr.drew = w31 at HO_238003 HO_238004 BK233 BK234 BK237 HB HR242_3 HR242_4 hx242_0 hx242_1 hx242_2 hx242_3 hx242_4 hHeld ⊢
                        refine pure_ (i := 0) (N := some 53) (v := ?_) (a' := ?_) #[true, false, false, false, false, false, false, false, false, false, false, false] rfl rfl (any_of HT_.out (by kernel_rfl)) (fun _ _ _ h => h) (Or.inl ⟨by rfl, ?_⟩) ?_ ?_
                        rotate_left
                        · intro w'
                          go_simp
                          with_reducible rfl
                        rotate_left
                        · simp only [Act.put, List.setIfInBounds_toArray, List.set_cons_zero, List.set_cons_succ, i64_w, i32_w]
                          rfl
                        refine pure_ (i := 2) (N := some 55) (v := ?_) (a' := ?_) #[true, false, true, false, false, false, false, false, false, false, false, false] rfl rfl (any_of HT_.out (by kernel_rfl)) (fun _ _ _ h => h) (Or.inl ⟨by rfl, ?_⟩) ?_ ?_
                        rotate_left
                        · intro w'
                          go_simp
                          with_reducible rfl
                        rotate_left
                        · simp only [Act.put, List.setIfInBounds_toArray, List.set_cons_zero, List.set_cons_succ, i64_w, i32_w]
                          rfl
                        refine pure_ (i := 4) (N := some 57) (v := ?_) (a' := ?_) #[true, false, true, false, true, false, false, false, false, false, false, false] rfl rfl (any_of HT_.out (by kernel_rfl)) (fun _ _ _ h => h) (Or.inl ⟨by rfl, ?_⟩) ?_ ?_
                        rotate_left
                        · intro w'
                          go_simp
                          with_reducible rfl
                        rotate_left
                        · simp only [Act.put, List.setIfInBounds_toArray, List.set_cons_zero, List.set_cons_succ, i64_w, i32_w]
                          rfl
                        refine take_ (i := 1) (N := some 54) (v := ?_) (a' := ?_) #[true, true, true, false, true, false, false, false, false, false, false, false] rfl rfl (take_ofW HT_.out HW_.out (by kernel_rfl)) (fun _ _ _ h => h) (Or.inl ⟨by rfl, ?_⟩) hHeld ?_ ?_
                        rotate_left
                        · rintro w' ⟨s0, s1, s2, s3, s4, s5, s6, s7, s8, s9, s10, s11, s12, s13, s14⟩
                          go_simp
                          with_reducible rfl
                        rotate_left
                        · simp only [Act.put, List.setIfInBounds_toArray, List.set_cons_zero, List.set_cons_succ, i64_w, i32_w]
                          rfl
                        refine take_ (i := 3) (N := some 56) (v := ?_) (a' := ?_) #[true, true, true, true, true, false, false, false, false, false, false, false] rfl rfl (take_ofW HT_.out HW_.out (by kernel_rfl)) (fun _ _ _ h => h) (Or.inl ⟨by rfl, ?_⟩) hHeld ?_ ?_
                        rotate_left
                        · rintro w' ⟨s0, s1, s2, s3, s4, s5, s6, s7, s8, s9, s10, s11, s12, s13, s14⟩
                          go_simp
                          with_reducible rfl
                        rotate_left
                        · simp only [Act.put, List.setIfInBounds_toArray, List.set_cons_zero, List.set_cons_succ, i64_w, i32_w]
                          rfl
                        refine pure_ (i := 5) (N := some 58) (v := ?_) (a' := ?_) #[true, true, true, true, true, true, false, false, false, false, false, false] rfl rfl (any_of HT_.out (by kernel_rfl)) (fun _ _ _ h => h) (Or.inl ⟨by rfl, ?_⟩) ?_ ?_
                        rotate_left
                        · intro w'
                          go_simp
                          with_reducible rfl
                        rotate_left
                        · simp only [Act.put, List.setIfInBounds_toArray, List.set_cons_zero, List.set_cons_succ, i64_w, i32_w]
                          rfl
                        refine take_ (i := 6) (N := some 59) (v := ?_) (a' := ?_) #[true, true, true, true, true, true, true, false, false, false, false, false] rfl rfl (take_ofW HT_.out HW_.out (by kernel_rfl)) (fun _ _ _ h => h) (Or.inl ⟨by rfl, ?_⟩) hHeld ?_ ?_
                        rotate_left
                        · rintro w' ⟨s0, s1, s2, s3, s4, s5, s6, s7, s8, s9, s10, s11, s12, s13, s14⟩
                          go_simp
                          with_reducible rfl
                        rotate_left
                        · simp only [Act.put, List.setIfInBounds_toArray, List.set_cons_zero, List.set_cons_succ, i64_w, i32_w]
                          rfl
                        refine one_ (i := 7) (N := some 60) #[true, true, true, true, true, true, true, true, false, false, false, false] rfl rfl (one_of HT_.out (by kernel_rfl)) (by decide) (fun K hK => ?_)
                        refine goes_ Tryd.func29 (by kernel_rfl) rfl #[.agg #[.int .i64 ((rd_T37 l0_4 x7_3).f0), .int .i64 ((rd_T37 l0_4 x7_3).f1), .int .i64 ((rd_T37 l0_4 x7_3).f2), .slice A242_3 ((rd_T37 l0_4 x7_3).f3).length c242_3, .slice A242_4 ((rd_T37 l0_4 x7_3).f4).length c242_4]] (by rfl) rfl rfl (by (try simp only [List.map_toArray, List.map_cons, List.map_nil]); first | done | rfl | (simp only [List.length_drop, List.length_take]; rfl)) ?_
                        with_reducible refine (ih k3 (by have := HJ1.out; have := HK2.out; have := HK3.out; omega) ((rd_T37 l0_4 x7_3).f0) ((rd_T37 l0_4 x7_3).f1) ((rd_T37 l0_4 x7_3).f2) _ _ ((rd_T37 l0_4 x7_3).f3) _ _ ((rd_T37 l0_4 x7_3).f4) t243 t244 t245 t246 t249 _ ?side1 ?side2 ?side3 ?side4 A29.out).mono ?_
                        (case side1 => repeat (first | exact (Kd.C_below HR242_3.out HB.out) | (with_reducible refine Kd.C_alloc ?_ _) | (with_reducible refine Kd.C_drewN ?_ _) | (with_reducible refine Kd.C_drew ?_)))
                        (case side2 => exact HC242_3.out)
                        (case side3 => repeat (first | exact (Kd.C_below HR242_4.out HB.out) | (with_reducible refine Kd.C_alloc ?_ _) | (with_reducible refine Kd.C_drewN ?_ _) | (with_reducible refine Kd.C_drew ?_)))
                        (case side4 => exact HC242_4.out)
                        rintro e w32 ⟨v247, v250, rfl, ho0, ho1, hb⟩
                        refine ⟨_, rfl, ?_⟩
                        have n0_ := Aside0.mk (Kd.R_elder' (by (with_reducible repeat (first | apply Kd.R_alloc | apply Kd.R_drewN | apply Kd.R_drew)); exact HO_238003.out) (Kd.R_base ho0) hb)
                        have n1_ := Aside0.mk (Kd.R_mono (Kd.R_told (Kd.R_told (Kd.R_old (by (with_reducible repeat (first | apply Kd.R_alloc | apply Kd.R_drewN | apply Kd.R_drew)); exact HO_238004.out) hb) (Kd.R_base ho0)) (Kd.R_base ho1)) (fun _ h_ => h_.1))
                        have n2_ := Aside0.mk (Kd.R_lower (Kd.R_new' ho0 (Kd.R_lt (by (with_reducible repeat (first | apply Kd.R_alloc | apply Kd.R_drewN | apply Kd.R_drew)); exact HO_238003.out))) (below_size (by repeat (first | (with_reducible first | exact HB.out | apply below_alloc | apply pw_below_drewN | apply below_drew1 | refine below_set ?_ GE233.out | refine below_set ?_ GE234.out | refine below_set ?_ GE237.out) | exact HB.out))))
                        have n3_ := Aside0.mk (Kd.R_lower (Kd.R_newB (Kd.R_newB (Kd.R_newB (Kd.R_new' (Kd.R_new' ho1 (Kd.R_lt (by (with_reducible repeat (first | apply Kd.R_alloc | apply Kd.R_drewN | apply Kd.R_drew)); exact HO_238003.out))) (Kd.R_lt (by (with_reducible repeat (first | apply Kd.R_alloc | apply Kd.R_drewN | apply Kd.R_drew)); exact HO_238004.out))) (g := gb233) (o := .cells #[.int .i64 a0_0, .int .i64 a0_1, .int .i64 a0_2, .slice A0_3 l0_3.length c0_3, .slice (some ad242) l0_4.length c0_4] 37 (0, 0)) (by (with_reducible repeat (first | refine blk_drewN ?_ _ | refine blk_drew ?_ | refine blk_alloc ?_ _)); exact BK233.out)) (g := gb234) (o := .cells #[.int .i64 0, .int .i64 0, .int .i64 0, .slice none 0 0, .slice none 0 0] 37 (0, 0)) (by (with_reducible repeat (first | refine blk_drewN ?_ _ | refine blk_drew ?_ | refine blk_alloc ?_ _)); exact BK234.out)) (g := gb237) (o := .cells #[.int .i64 a0_0, .int .i64 a0_1, .int .i64 a0_2, u238003, u238004] 37 (0, 0)) (by (with_reducible repeat (first | refine blk_drewN ?_ _ | refine blk_drew ?_ | refine blk_alloc ?_ _)); exact BK237.out)) (below_size (by repeat (first | (with_reducible first | exact HB.out | apply below_alloc | apply pw_below_drewN | apply below_drew1 | refine below_set ?_ GE233.out | refine below_set ?_ GE234.out | refine below_set ?_ GE237.out) | exact HB.out))))
                        have n4_ := Aside0.mk (blk_below (g := gb233) (o := .cells #[.int .i64 a0_0, .int .i64 a0_1, .int .i64 a0_2, .slice A0_3 l0_3.length c0_3, .slice (some ad242) l0_4.length c0_4] 37 (0, 0)) (by (with_reducible repeat (first | refine blk_drewN ?_ _ | refine blk_drew ?_ | refine blk_alloc ?_ _)); exact BK233.out) hb)
                        have n5_ := Aside0.mk (blk_below (g := gb234) (o := .cells #[.int .i64 0, .int .i64 0, .int .i64 0, .slice none 0 0, .slice none 0 0] 37 (0, 0)) (by (with_reducible repeat (first | refine blk_drewN ?_ _ | refine blk_drew ?_ | refine blk_alloc ?_ _)); exact BK234.out) hb)
                        have n6_ := Aside0.mk (blk_below (g := gb237) (o := .cells #[.int .i64 a0_0, .int .i64 a0_1, .int .i64 a0_2, u238003, u238004] 37 (0, 0)) (by (with_reducible repeat (first | refine blk_drewN ?_ _ | refine blk_drew ?_ | refine blk_alloc ?_ _)); exact BK237.out) hb)
                        have n7_ := Aside0.mk (below_step (by repeat (first | (with_reducible first | exact HB.out | apply below_alloc | apply pw_below_drewN | apply below_drew1 | refine below_set ?_ GE233.out | refine below_set ?_ GE234.out | refine below_set ?_ GE237.out) | exact HB.out)) hb)
                        clear HO_238003
                        clear HO_238004
                        clear BK233
                        clear BK234
                        clear BK237
                        clear HB
                        have HO_238003 := n0_
                        have HO_238004 := n1_
                        have HO248 := n2_
                        have HO251 := n3_
                        have BK233 := n4_
                        have BK234 := n5_
                        have BK237 := n6_
                        have HB := n7_
                        clear n0_ n1_ n2_ n3_ n4_ n5_ n6_ n7_
                        (try clear hb)
                        (try clear hb2)
                        (try clear hk)
                        (try clear hi)
                        (try clear ho0)
                        (try clear ho1)
                        obtain ⟨Ao34, co34, eo34⟩ := Kd.R_slice HO248.out
                        (first | subst eo34 | (injection eo34 with f1_ f2_ f3_; have f4_ := f1_.symm; have f5_ := f3_.symm; clear f1_ f2_ f3_; subst f4_; subst f5_))
                        obtain ⟨Ao35, co35, eo35⟩ := Kd.R_slice HO251.out
                        (first | subst eo35 | (injection eo35 with f1_ f2_ f3_; have f4_ := f1_.symm; have f5_ := f3_.symm; clear f1_ f2_ f3_; subst f4_; subst f5_))
                        refine hK.out _ _ ⟨(blk_cell BK237.out 0).trans rfl, (blk_cell BK237.out 1).trans rfl, (blk_cell BK237.out 2).trans rfl, (blk_cell BK237.out 3).trans rfl, (blk_cell BK237.out 4).trans rfl, (blk_cell BK233.out 0).trans rfl, (blk_cell BK233.out 1).trans rfl, (blk_cell BK233.out 2).trans rfl, (blk_cell BK233.out 3).trans rfl, (blk_cell BK233.out 4).trans rfl, ((HB.out.cell (World.block_lt_of_cell? w _ hw242_0)).trans hw242_0), ((HB.out.cell (World.block_lt_of_cell? w _ hw242_1)).trans hw242_1), ((HB.out.cell (World.block_lt_of_cell? w _ hw242_2)).trans hw242_2), ((HB.out.cell (World.block_lt_of_cell? w _ hw242_3)).trans hw242_3), ((HB.out.cell (World.block_lt_of_cell? w _ hw242_4)).trans hw242_4)⟩ (fun hHeld => ?_)
                        clear hK K
                        refine norm_ (a' := ?_) ?_ ?_
                        rotate_left
                        · show Act.put _ (some 60) _ = _
                          simp only [Act.put, List.setIfInBounds_toArray, List.set_cons_zero, List.set_cons_succ, i64_w, i32_w]
                          rfl
                        refine one_ (i := 8) (N := some 61) #[true, true, true, true, true, true, true, true, true, false, false, false] rfl rfl (one_of HT_.out (by kernel_rfl)) (by decide) (fun K hK => ?_)
                        refine value_ (w1 := ?_) (v := ?_) (by rfl) rfl ?_ ?_
                        rotate_left 2
                        · go_simp
                          constructor
                          · rfl
                          · rfl
                        refine hK.out _ _ ⟨(blk_cell (blk_alloc BK237.out _) 0).trans rfl, (blk_cell (blk_alloc BK237.out _) 1).trans rfl, (blk_cell (blk_alloc BK237.out _) 2).trans rfl, (blk_cell (blk_alloc BK237.out _) 3).trans rfl, (blk_cell (blk_alloc BK237.out _) 4).trans rfl, (blk_cell (blk_alloc BK233.out _) 0).trans rfl, (blk_cell (blk_alloc BK233.out _) 1).trans rfl, (blk_cell (blk_alloc BK233.out _) 2).trans rfl, (blk_cell (blk_alloc BK233.out _) 3).trans rfl, (blk_cell (blk_alloc BK233.out _) 4).trans rfl, (World.cell?_alloc_lt _ _ _ (World.block_lt_of_cell? _ _ (((HB.out.cell (World.block_lt_of_cell? w _ hw242_0)).trans hw242_0)))).trans (((HB.out.cell (World.block_lt_of_cell? w _ hw242_0)).trans hw242_0)), (World.cell?_alloc_lt _ _ _ (World.block_lt_of_cell? _ _ (((HB.out.cell (World.block_lt_of_cell? w _ hw242_1)).trans hw242_1)))).trans (((HB.out.cell (World.block_lt_of_cell? w _ hw242_1)).trans hw242_1)), (World.cell?_alloc_lt _ _ _ (World.block_lt_of_cell? _ _ (((HB.out.cell (World.block_lt_of_cell? w _ hw242_2)).trans hw242_2)))).trans (((HB.out.cell (World.block_lt_of_cell? w _ hw242_2)).trans hw242_2)), (World.cell?_alloc_lt _ _ _ (World.block_lt_of_cell? _ _ (((HB.out.cell (World.block_lt_of_cell? w _ hw242_3)).trans hw242_3)))).trans (((HB.out.cell (World.block_lt_of_cell? w _ hw242_3)).trans hw242_3)), (World.cell?_alloc_lt _ _ _ (World.block_lt_of_cell? _ _ (((HB.out.cell (World.block_lt_of_cell? w _ hw242_4)).trans hw242_4)))).trans (((HB.out.cell (World.block_lt_of_cell? w _ hw242_4)).trans hw242_4))⟩ (fun hHeld => ?_)
                        clear hK K
                        refine norm_ (a' := ?_) ?_ ?_
                        rotate_left
                        · show Act.put _ (some 61) _ = _
                          simp only [Act.put, List.setIfInBounds_toArray, List.set_cons_zero, List.set_cons_succ, i64_w, i32_w]
                          rfl
                        refine one_ (i := 9) (N := some 62) #[true, true, true, true, true, true, true, true, true, true, false, false] rfl rfl (one_of HT_.out (by kernel_rfl)) (by decide) (fun K hK => ?_)
                        refine Kd.R_append_step k37 (w0 := w) w.heap.size (by rfl) (.tmp 54) (.tmp 61) 35 37 (.agg #[(.int .i64 0), (.int .i64 0), (.int .i64 0), (.slice none 0 0), (.slice none 0 0)]) 72 rfl Tryd.underlying35 info37 rfl (by decide) (by omega) u238004 x238004_3 (⟨t243, t244, t245, t246, t249⟩ : S37) [.int .i64 t243, .int .i64 t244, .int .i64 t245, .slice Ao34 t246.length co34, .slice Ao35 t249.length co35] (fun k_ => some k_ ≠ (u238003 : Value).ownBlock ∧ k_ ≠ gb233 ∧ k_ ≠ gb234 ∧ k_ ≠ gb237) (fun k_ => ((fun k_ => some k_ ≠ (u238003 : Value).ownBlock ∧ k_ ≠ gb233 ∧ k_ ≠ gb234 ∧ k_ ≠ gb237)) k_ ∧ some k_ ≠ (u238004 : Value).ownBlock) rfl rfl ?aP (fun _ hk => hk) ?aF ?aO ?aB ?aS ?aL ?_
                        (case aP => exact k37_mkM _ _ _ (⟨t243, t244, t245, t246, t249⟩ : S37) (Kd.R_mono (Kd.R_types (Kd.R_types (Kd.R_types (Kd.R_apart' (HO248.out) (Kd.R_typed HO_238004.out) (by decide)) BK233.out (by decide)) BK234.out (by decide)) BK237.out (by decide)) (fun k_ hk => ⟨⟨hk.1.1.1.1.2, ⟨hk.1.1.2, ⟨hk.1.2, hk.2⟩⟩⟩, hk.1.1.1.2⟩)) (Kd.R_mono (HO251.out) (fun k_ hk => ⟨⟨hk.1.1.1.1.2, ⟨hk.1.1.2, ⟨hk.1.2, hk.2⟩⟩⟩, hk.1.1.1.2⟩)))
                        (case aB => exact (by repeat (first | (with_reducible first | exact HB.out | apply below_alloc | apply pw_below_drewN | apply below_drew1 | refine below_set ?_ GE233.out | refine below_set ?_ GE234.out | refine below_set ?_ GE237.out) | exact HB.out)))
                        (case aF => exact (fun k_ hk => ⟨Kd.fresh' (Kd.R_lt (by (with_reducible repeat (first | apply Kd.R_alloc | apply Kd.R_drewN | apply Kd.R_drew)); exact HO_238003.out)) k_ hk, Kd.freshB (g := gb233) (o := .cells #[.int .i64 a0_0, .int .i64 a0_1, .int .i64 a0_2, .slice A0_3 l0_3.length c0_3, .slice (some ad242) l0_4.length c0_4] 37 (0, 0)) (by (with_reducible repeat (first | refine blk_drewN ?_ _ | refine blk_drew ?_ | refine blk_alloc ?_ _)); exact BK233.out) k_ hk, Kd.freshB (g := gb234) (o := .cells #[.int .i64 0, .int .i64 0, .int .i64 0, .slice none 0 0, .slice none 0 0] 37 (0, 0)) (by (with_reducible repeat (first | refine blk_drewN ?_ _ | refine blk_drew ?_ | refine blk_alloc ?_ _)); exact BK234.out) k_ hk, Kd.freshB (g := gb237) (o := .cells #[.int .i64 a0_0, .int .i64 a0_1, .int .i64 a0_2, u238003, u238004] 37 (0, 0)) (by (with_reducible repeat (first | refine blk_drewN ?_ _ | refine blk_drew ?_ | refine blk_alloc ?_ _)); exact BK237.out) k_ hk⟩))
                        (case aO => exact (by (with_reducible repeat (first | apply Kd.R_alloc | apply Kd.R_drewN | apply Kd.R_drew)); exact Kd.R_mono HO_238004.out (fun _ hk => ⟨hk.1.1.1, ⟨hk.1.1.2.1, ⟨hk.1.1.2.2.1, hk.1.1.2.2.2⟩⟩⟩)))
                        (case aS => exact (below_size (by repeat (first | (with_reducible first | exact HB.out | apply below_alloc | apply pw_below_drewN | apply below_drew1 | refine below_set ?_ GE233.out | refine below_set ?_ GE234.out | refine below_set ?_ GE237.out) | exact HB.out))))
                        (case aL => have := LMc30.out; omega)
                        intro v253 w33 ho hb hg hat
                        rw [← Ny252.out] at ho
                        have n0_ := Aside0.mk (Kd.R_over' (by (with_reducible repeat (first | apply Kd.R_alloc | apply Kd.R_drewN | apply Kd.R_drew)); exact HO_238003.out) (Kd.R_typed (by (with_reducible repeat (first | apply Kd.R_alloc | apply Kd.R_drewN | apply Kd.R_drew)); exact HO_238004.out)) (by decide) hg)
                        have n1_ := Aside0.mk (blk_grown (g := gb233) (o := .cells #[.int .i64 a0_0, .int .i64 a0_1, .int .i64 a0_2, .slice A0_3 l0_3.length c0_3, .slice (some ad242) l0_4.length c0_4] 37 (0, 0)) (by (with_reducible repeat (first | refine blk_drewN ?_ _ | refine blk_drew ?_ | refine blk_alloc ?_ _)); exact BK233.out) hg (Kd.R_away HO_238004.out (fun _ hk => hk.1.1.2.1)))
                        have n2_ := Aside0.mk (blk_grown (g := gb234) (o := .cells #[.int .i64 0, .int .i64 0, .int .i64 0, .slice none 0 0, .slice none 0 0] 37 (0, 0)) (by (with_reducible repeat (first | refine blk_drewN ?_ _ | refine blk_drew ?_ | refine blk_alloc ?_ _)); exact BK234.out) hg (Kd.R_away HO_238004.out (fun _ hk => hk.1.1.2.2.1)))
                        have n3_ := Aside0.mk (blk_grown (g := gb237) (o := .cells #[.int .i64 a0_0, .int .i64 a0_1, .int .i64 a0_2, u238003, u238004] 37 (0, 0)) (by (with_reducible repeat (first | refine blk_drewN ?_ _ | refine blk_drew ?_ | refine blk_alloc ?_ _)); exact BK237.out) hg (Kd.R_away HO_238004.out (fun _ hk => hk.1.1.2.2.2)))
                        have n4_ := Aside0.mk (hb)
                        have n5_ := Aside0.mk (ho)
                        clear HO_238003
                        clear BK233
                        clear BK234
                        clear BK237
                        clear HB
                        clear HO_238004
                        clear HO248
                        clear HO251
                        have HO_238003 := n0_
                        have BK233 := n1_
                        have BK234 := n2_
                        have BK237 := n3_
                        have HB := n4_
                        have HO254 := n5_
                        clear n0_ n1_ n2_ n3_ n4_ n5_
                        clear ho hb hg hat
                        obtain ⟨Ao36, co36, eo36⟩ := Kd.R_slice HO254.out
                        (first | subst eo36 | (injection eo36 with f1_ f2_ f3_; have f4_ := f1_.symm; have f5_ := f3_.symm; clear f1_ f2_ f3_; subst f4_; subst f5_))
                        refine hK.out _ _ ⟨(blk_cell BK237.out 0).trans rfl, (blk_cell BK237.out 1).trans rfl, (blk_cell BK237.out 2).trans rfl, (blk_cell BK237.out 3).trans rfl, (blk_cell BK237.out 4).trans rfl, (blk_cell BK233.out 0).trans rfl, (blk_cell BK233.out 1).trans rfl, (blk_cell BK233.out 2).trans rfl, (blk_cell BK233.out 3).trans rfl, (blk_cell BK233.out 4).trans rfl, ((HB.out.cell (World.block_lt_of_cell? w _ hw242_0)).trans hw242_0), ((HB.out.cell (World.block_lt_of_cell? w _ hw242_1)).trans hw242_1), ((HB.out.cell (World.block_lt_of_cell? w _ hw242_2)).trans hw242_2), ((HB.out.cell (World.block_lt_of_cell? w _ hw242_3)).trans hw242_3), ((HB.out.cell (World.block_lt_of_cell? w _ hw242_4)).trans hw242_4)⟩ (fun hHeld => ?_)
                        clear hK K
                        refine norm_ (a' := ?_) ?_ ?_
                        rotate_left
                        · show Act.put _ (some 62) _ = _
                          simp only [Act.put, List.setIfInBounds_toArray, List.set_cons_zero, List.set_cons_succ, i64_w, i32_w]
                          rfl
                        refine pure_ (i := 10) (N := some 63) (v := ?_) (a' := ?_) #[true, true, true, true, true, true, true, true, true, true, true, false] rfl rfl (any_of HT_.out (by kernel_rfl)) (fun _ _ _ h => h) (Or.inl ⟨by rfl, ?_⟩) ?_ ?_
                        rotate_left
                        · intro w'
                          go_simp
                          with_reducible rfl
                        rotate_left
                        · simp only [Act.put, List.setIfInBounds_toArray, List.set_cons_zero, List.set_cons_succ, i64_w, i32_w]
                          rfl
                        refine last_ (i := 11) (N := none) #[true, true, true, true, true, true, true, true, true, true, true, true] rfl rfl (one_of HT_.out (by kernel_rfl)) (by decide) (fun K hK => ?_)
                        have hs37 : w33.cell? ⟨gb237, 4, none⟩ = some (u238004) := (blk_cell BK237.out 4).trans rfl
                        have hfs37 := blk_frozen BK237.out 4
                        have hns37_0 := NB233_237.out
                        have hns37_1 := NB234_237.out
                        have hms37_0 := NB237_233.out
                        have hms37_1 := NB237_234.out
                        refine skip_ (w1 := ?_) (by rfl) rfl ?_ ?_
                        rotate_left
                        · go_simp
                          rfl
                        refine hK.out _ _ ?_
                        clear hK K
                        refine done_ (done_of HT_.out (by kernel_rfl)) ?_
                        try go_wp2
                        go_roundg k3
                        case measure => have := HJ1.out; have := HK2.out; have := HK3.out; omega
                        case rel => exact ⟨(wrap64 (x7_3 + 1)), (y252), (.slice Ao36 y252.length co36), (by first | rfl | (simp; done) | (simp [*]; done)), H', ⟨by have := HJ1.out; have := HK2.out; have := HK3.out; omega⟩, ⟨by (with_reducible repeat (first | apply Kd.R_alloc | apply Kd.R_drewN | apply Kd.R_drew)); exact Kd.R_mono (Kd.R_far (p := ⟨gb237, 4, none⟩) (Kd.R_types HO_238003.out BK237.out (by decide)) (fun _ hk => hk.2) (.slice Ao36 y252.length co36)) (fun _ hk => trivial)⟩, ⟨by (with_reducible repeat (first | apply Kd.R_alloc | apply Kd.R_drewN | apply Kd.R_drew)); exact Kd.R_mono (Kd.R_far (p := ⟨gb237, 4, none⟩) (Kd.R_mono HO254.out (fun k_ hk => (⟨hk, hk.2.2.2⟩ : _ ∧ k_ ≠ gb237))) (fun _ hk => hk.2) (.slice Ao36 y252.length co36)) (fun _ hk => ⟨hk.1.1, ⟨hk.1.2.1, ⟨hk.1.2.2.1, hk.1.2.2.2⟩⟩⟩)⟩, ⟨by (with_reducible repeat (first | refine blk_drewN ?_ _ | refine blk_drew ?_ | refine blk_alloc ?_ _)); refine blk_far ?_ NB233_237.out _; (with_reducible repeat (first | refine blk_drewN ?_ _ | refine blk_drew ?_ | refine blk_alloc ?_ _)); exact BK233.out⟩, ⟨by (with_reducible repeat (first | refine blk_drewN ?_ _ | refine blk_drew ?_ | refine blk_alloc ?_ _)); refine blk_far ?_ NB234_237.out _; (with_reducible repeat (first | refine blk_drewN ?_ _ | refine blk_drew ?_ | refine blk_alloc ?_ _)); exact BK234.out⟩, ⟨by (with_reducible repeat (first | refine blk_drewN ?_ _ | refine blk_drew ?_ | refine blk_alloc ?_ _)); refine blk_put (cs := #[.int .i64 a0_0, .int .i64 a0_1, .int .i64 a0_2, u238003, u238004]) ?_ 4 _ rfl; (with_reducible repeat (first | refine blk_drewN ?_ _ | refine blk_drew ?_ | refine blk_alloc ?_ _)); exact BK237.out⟩, ⟨by repeat (first | (with_reducible first | exact HB.out | apply below_alloc | apply pw_below_drewN | apply below_drew1 | refine below_set ?_ GE233.out | refine below_set ?_ GE234.out | refine below_set ?_ GE237.out) | exact HB.out)⟩⟩
                      · rw [if_neg c30] at H
                        exact absurd H (by simp)
                    · rw [if_neg c28] at H
                      exact absurd H (by simp)
                  · rw [if_neg c27] at H
                    exact absurd H (by simp)
                · rw [if_neg c26] at H
                  have c26b0 : decide (x7_3 < x4_1) = false := decide_eq_false c26
                  clear c26
                  simp only [Option.some.injEq, Prod.mk.injEq] at H
                  obtain ⟨rfl, rfl, rfl, rfl, rfl⟩ := H
                  have hnb38 := NB237_233.out
                  have hnc38 := NB233_237.out
                  have hnb39 := NB237_234.out
                  have hnc39 := NB234_237.out
                  have hcz40_0 : wr.cell? ⟨gb237, 0, none⟩ = some (.int .i64 a0_0) := (blk_cell BK237.out 0).trans rfl
                  have hcz40_1 : wr.cell? ⟨gb237, 1, none⟩ = some (.int .i64 a0_1) := (blk_cell BK237.out 1).trans rfl
                  have hcz40_2 : wr.cell? ⟨gb237, 2, none⟩ = some (.int .i64 a0_2) := (blk_cell BK237.out 2).trans rfl
                  have hcz40_3 : wr.cell? ⟨gb237, 3, none⟩ = some (u238003) := (blk_cell BK237.out 3).trans rfl
                  have hcz40_4 : wr.cell? ⟨gb237, 4, none⟩ = some (u238004) := (blk_cell BK237.out 4).trans rfl
                  have hfz40_0 := blk_frozen BK237.out 0
                  have hfz40_1 := blk_frozen BK237.out 1
                  have hfz40_2 := blk_frozen BK237.out 2
                  have hfz40_3 := blk_frozen BK237.out 3
                  have hfz40_4 := blk_frozen BK237.out 4
                  have hnb41 := NB234_233.out
                  have hnc41 := NB233_234.out
                  have hcz42_0 : wr.cell? ⟨gb234, 0, none⟩ = some (.int .i64 0) := (blk_cell BK234.out 0).trans rfl
                  have hcz42_1 : wr.cell? ⟨gb234, 1, none⟩ = some (.int .i64 0) := (blk_cell BK234.out 1).trans rfl
                  have hcz42_2 : wr.cell? ⟨gb234, 2, none⟩ = some (.int .i64 0) := (blk_cell BK234.out 2).trans rfl
                  have hcz42_3 : wr.cell? ⟨gb234, 3, none⟩ = some (.slice none 0 0) := (blk_cell BK234.out 3).trans rfl
                  have hcz42_4 : wr.cell? ⟨gb234, 4, none⟩ = some (.slice none 0 0) := (blk_cell BK234.out 4).trans rfl
                  have hfz42_0 := blk_frozen BK234.out 0
                  have hfz42_1 := blk_frozen BK234.out 1
                  have hfz42_2 := blk_frozen BK234.out 2
                  have hfz42_3 := blk_frozen BK234.out 3
                  have hfz42_4 := blk_frozen BK234.out 4
                  obtain ⟨Ao43, co43, eo43⟩ := Kd.R_slice HO_238003.out
                  subst eo43
                  obtain ⟨Ao44, co44, eo44⟩ := Kd.R_slice HO_238004.out
                  subst eo44
                  go_wp2
                  refine bodyPost_ret (results_cell_row rfl _ _ gb234 37 #[.int .i64 a0_0, .int .i64 a0_1, .int .i64 a0_2, .slice Ao43 x238003_2.length co43, .slice Ao44 x238004_3.length co44] (0, 0) _ rfl (by (with_reducible repeat (first | refine blk_drewN ?_ _ | refine blk_drew ?_ | refine blk_alloc ?_ _)); refine blk_put (cs := #[.int .i64 a0_0, .int .i64 a0_1, .int .i64 a0_2, .slice Ao43 x238003_2.length co43, .slice none 0 0]) ?_ 4 _ rfl; (with_reducible repeat (first | refine blk_drewN ?_ _ | refine blk_drew ?_ | refine blk_alloc ?_ _)); refine blk_put (cs := #[.int .i64 a0_0, .int .i64 a0_1, .int .i64 a0_2, .slice none 0 0, .slice none 0 0]) ?_ 3 _ rfl; (with_reducible repeat (first | refine blk_drewN ?_ _ | refine blk_drew ?_ | refine blk_alloc ?_ _)); refine blk_put (cs := #[.int .i64 a0_0, .int .i64 a0_1, .int .i64 0, .slice none 0 0, .slice none 0 0]) ?_ 2 _ rfl; (with_reducible repeat (first | refine blk_drewN ?_ _ | refine blk_drew ?_ | refine blk_alloc ?_ _)); refine blk_put (cs := #[.int .i64 a0_0, .int .i64 0, .int .i64 0, .slice none 0 0, .slice none 0 0]) ?_ 1 _ rfl; (with_reducible repeat (first | refine blk_drewN ?_ _ | refine blk_drew ?_ | refine blk_alloc ?_ _)); refine blk_put (cs := #[.int .i64 0, .int .i64 0, .int .i64 0, .slice none 0 0, .slice none 0 0]) ?_ 0 _ rfl; (with_reducible repeat (first | refine blk_drewN ?_ _ | refine blk_drew ?_ | refine blk_alloc ?_ _)); exact BK234.out) Tryd.underlying37 rfl (by kernel_rfl)) rfl ?_
                  exact ⟨_, _, by first | rfl | (simp [errW_none, errW_some] <;> rfl) | (simp [*, errW_none, errW_some] <;> rfl), by (with_reducible repeat (first | apply Kd.R_alloc | apply Kd.R_drewN | apply Kd.R_drew)); exact Kd.R_mono (Kd.R_far (p := ⟨gb234, 4, none⟩) (Kd.R_far (p := ⟨gb234, 3, none⟩) (Kd.R_far (p := ⟨gb234, 2, none⟩) (Kd.R_far (p := ⟨gb234, 1, none⟩) (Kd.R_far (p := ⟨gb234, 0, none⟩) (Kd.R_types HO_238003.out BK234.out (by decide)) (fun _ hk => hk.2) (.int .i64 a0_0)) (fun _ hk => hk.2) (.int .i64 a0_1)) (fun _ hk => hk.2) (.int .i64 a0_2)) (fun _ hk => hk.2) (.slice Ao43 x238003_2.length co43)) (fun _ hk => hk.2) (.slice Ao44 x238004_3.length co44)) (fun _ hk => trivial), by (with_reducible repeat (first | apply Kd.R_alloc | apply Kd.R_drewN | apply Kd.R_drew)); exact Kd.R_mono (Kd.R_far (p := ⟨gb234, 4, none⟩) (Kd.R_far (p := ⟨gb234, 3, none⟩) (Kd.R_far (p := ⟨gb234, 2, none⟩) (Kd.R_far (p := ⟨gb234, 1, none⟩) (Kd.R_far (p := ⟨gb234, 0, none⟩) (Kd.R_mono HO_238004.out (fun k_ hk => (⟨hk, hk.2.2.1⟩ : _ ∧ k_ ≠ gb234))) (fun _ hk => hk.2) (.int .i64 a0_0)) (fun _ hk => hk.2) (.int .i64 a0_1)) (fun _ hk => hk.2) (.int .i64 a0_2)) (fun _ hk => hk.2) (.slice Ao43 x238003_2.length co43)) (fun _ hk => hk.2) (.slice Ao44 x238004_3.length co44)) (fun _ hk => hk.1.1), by repeat (first | (with_reducible first | exact HB.out | apply below_alloc | apply pw_below_drewN | apply below_drew1 | refine below_set ?_ GE233.out | refine below_set ?_ GE234.out | refine below_set ?_ GE237.out) | exact HB.out)⟩
end Go.Proofs.YtidglmocekghmaaDoor.Pr
end
section
namespace Go.Proofs.YtidglmocekghmaaDoor.Pr
open Go.RowKit Go.Proofs.YtidglmocekghmaaDoorW.PrintWords Go.Proofs.YtidglmocekghmaaDoorW.PrintLast Go.Proofs.YtidglmocekghmaaDoorW.PrintMore
set_option linter.unusedVariables false
set_option linter.unusedSimpArgs false
def keptN {α : Type} (p : α → Bool) (l : List α) : Nat := (l.reverse.dropWhile p).length
theorem keptN_snoc {α : Type} (p : α → Bool) (l : List α) (x : α) : keptN p (l ++ [x]) = if p x then keptN p l else l.length + 1 := by
  unfold keptN
  rw [List.reverse_append]
  simp only [List.reverse_cons, List.reverse_nil, List.nil_append, List.singleton_append, List.dropWhile_cons]
  split <;> simp
theorem keptN_le {α : Type} (p : α → Bool) (l : List α) : keptN p l ≤ l.length := by
  unfold keptN
  have := (List.dropWhile_suffix (p := p) (l := l.reverse)).length_le
  simpa using this
def zeroB (x : Int) : Bool := x == 0
def nullN (x : S37) : Bool := x.f0 == 0
theorem w64 {x : Int} (h0 : -9223372036854775808 ≤ x) (h1 : x ≤ 9223372036854775807) : wrap64 x = x := IntWalk.wrap64_in _ ⟨h0, h1⟩
theorem rd_at (l : List Int) (j : Nat) (h : j < l.length) : rd l (j : Int) = l[j] := by
  unfold rd; simp [List.getD_eq_getElem?_getD, List.getElem?_eq_getElem h]
theorem rdT_at (l : List S37) (j : Nat) (h : j < l.length) : rd_T37 l (j : Int) = l[j] := by
  unfold rd_T37; simp [List.getD_eq_getElem?_getD, List.getElem?_eq_getElem h]
theorem S37.ind {P : S37 → Prop} (h : ∀ a : S37, (∀ x ∈ a.f4, P x) → P a) (a : S37) : P a :=
  S37.rec (motive_1 := P) (motive_2 := fun l => ∀ x ∈ l, P x) (fun k e n d l ih => h ⟨k, e, n, d, l⟩ ih) (fun _ hx => by cases hx) (fun y l hy hl x hx => by
    rcases List.mem_cons.1 hx with rfl | hx
    · exact hy
    · exact hl x hx) a
theorem take_one {α : Type} (l : List α) (j : Nat) (h : j < l.length) : l.take (j + 1) = l.take j ++ [l[j]] := List.take_succ_eq_append_getElem h
inductive AllT (p : S37 → Prop) : S37 → Prop
  | mk {a : S37} (h : p a) (hk : ∀ x ∈ a.f4, AllT p x) : AllT p a
theorem AllT.here {p : S37 → Prop} {a : S37} (h : AllT p a) : p a := by cases h; assumption
theorem AllT.kids {p : S37 → Prop} {a : S37} (h : AllT p a) : ∀ x ∈ a.f4, AllT p x := by cases h; assumption
mutual
def tsize : S37 → Nat
  | ⟨_, _, _, d, l⟩ => 1 + d.length + tsizes l
def tsizes : List S37 → Nat
  | [] => 0
  | k :: l => tsize k + tsizes l
end
theorem tsize_eq (a : S37) : tsize a = 1 + a.f3.length + tsizes a.f4 := by cases a; rfl
theorem length_tsizes : ∀ l : List S37, l.length ≤ tsizes l
  | [] => by simp
  | k :: l => by
    have := length_tsizes l
    have := tsize_eq k
    simp [tsizes]; omega
theorem tsize_mem {l : List S37} {x : S37} (h : x ∈ l) : tsize x ≤ tsizes l := by
  induction l with
  | nil => cases h
  | cons k l ih =>
    simp only [tsizes]
    rcases List.mem_cons.1 h with rfl | h
    · omega
    · have := ih h; omega
theorem tsize_kid {a x : S37} (h : x ∈ a.f4) : tsize x < tsize a := by
  have := tsize_mem h
  have := tsize_eq a
  omega
def twords (d : List Int) : Nat := (keptN zeroB d + 7) / 8
def cutD (a : S37) : List Int := if a.f0 = 1 then a.f3.take (8 * twords a.f3) else a.f3
def cutK (a : S37) : List S37 := if a.f0 = 1 then a.f4.take (keptN nullN a.f4) else a.f4
mutual
def ttrim : S37 → S37
  | ⟨k, e, n, d, l⟩ => ⟨k, e, n, if k = 1 then d.take (8 * twords d) else d, if k = 1 then (ttrims l).take (keptN nullN l) else ttrims l⟩
def ttrims : List S37 → List S37
  | [] => []
  | x :: l => ttrim x :: ttrims l
end
theorem ttrims_eq : ∀ l : List S37, ttrims l = l.map ttrim
  | [] => rfl
  | x :: l => by simp [ttrims, ttrims_eq l]
theorem ttrim_eq (a : S37) : ttrim a = ⟨a.f0, a.f1, a.f2, cutD a, (cutK a).map ttrim⟩ := by
  cases a with
  | mk k e n d l =>
    simp only [ttrim, cutD, cutK, ttrims_eq]
    split <;> simp [List.map_take]
def wordsT : S37 → Prop := AllT fun a => a.f0 = 1 → a.f3.length % 8 = 0
theorem twords_le (d : List Int) (h : d.length % 8 = 0) : 8 * twords d ≤ d.length := by
  have := keptN_le zeroB d
  unfold twords; omega
theorem rwords_ev (d : List Int) (h : d.length ≤ 1000000000000) : Ev (fun k => capnpref11_Words.f k d) (twords d : Int) := by
  unfold capnpref11_Words.f
  have loop : ∀ n j : Nat, d.length - j = n → j ≤ d.length → Ev (fun k => capnpref11_Words.l0 k d (twords (d.take j) : Int) (j : Int)) (twords d : Int) := by
    intro n
    induction n with
    | zero =>
      intro j hd hj
      refine Ev.step (f := fun _ => some (twords d : Int)) (fun k => ?_) (Ev.now _)
      simp only [capnpref11_Words.l0]
      rw [if_neg (by omega), List.take_of_length_le (by omega)]
    | succ n ih =>
      intro j hd hj
      have hlt : j < d.length := by omega
      have hn := ih (j + 1) (by omega) (by omega)
      have e2 : ((j + 1 : Nat) : Int) = (j : Int) + 1 := by omega
      rw [e2] at hn
      have hk := keptN_snoc zeroB (d.take j) d[j]
      rw [← take_one d j hlt] at hk
      have hjl : (d.take j).length = j := by simp; omega
      by_cases h0 : d[j] = 0
      · rw [if_pos (by simp [zeroB, h0])] at hk
        have : twords (d.take (j + 1)) = twords (d.take j) := by unfold twords; rw [hk]
        rw [this] at hn
        refine Ev.step (f := fun k => capnpref11_Words.l0 k d (twords (d.take j) : Int) (wrap64 ((j : Int) + 1))) (fun k => ?_) (by rw [w64 (by omega) (by omega)]; exact hn)
        simp only [capnpref11_Words.l0]
        rw [if_pos (by omega), if_pos (by omega), rd_at _ _ hlt, if_pos h0]
      · rw [if_neg (by simp [zeroB, h0]), hjl] at hk
        have : (twords (d.take (j + 1)) : Int) = (j : Int) / 8 + 1 := by unfold twords; rw [hk]; omega
        rw [this] at hn
        refine Ev.step (f := fun k => capnpref11_Words.l0 k d (wrap64 (wrap64 (Int.tdiv (j : Int) 8) + 1)) (wrap64 ((j : Int) + 1))) (fun k => ?_) ?_
        · simp only [capnpref11_Words.l0]
          rw [if_pos (by omega), if_pos (by omega), rd_at _ _ hlt, if_neg h0]
        · rw [Int.tdiv_eq_ediv_of_nonneg (by omega), w64 (x := (j : Int) / 8) (by omega) (by omega), w64 (x := (j : Int) / 8 + 1) (by omega) (by omega), w64 (x := (j : Int) + 1) (by omega) (by omega)]
          exact hn
  have h0 := loop d.length 0 (by omega) (by omega)
  rw [show (twords (d.take 0) : Int) = 0 by rw [List.take_zero]; rfl] at h0
  exact h0
theorem rptrs_ev (l : List S37) (h : l.length ≤ 1000000000000) : Ev (fun k => capnpref11_Pointers.f k l) (keptN nullN l : Int) := by
  unfold capnpref11_Pointers.f
  have loop : ∀ n j : Nat, l.length - j = n → j ≤ l.length → Ev (fun k => capnpref11_Pointers.l0 k l (keptN nullN (l.take j) : Int) (j : Int)) (keptN nullN l : Int) := by
    intro n
    induction n with
    | zero =>
      intro j hd hj
      refine Ev.step (f := fun _ => some (keptN nullN l : Int)) (fun k => ?_) (Ev.now _)
      simp only [capnpref11_Pointers.l0]
      rw [if_neg (by omega), List.take_of_length_le (by omega)]
    | succ n ih =>
      intro j hd hj
      have hlt : j < l.length := by omega
      have hn := ih (j + 1) (by omega) (by omega)
      have e2 : ((j + 1 : Nat) : Int) = (j : Int) + 1 := by omega
      have hk := keptN_snoc nullN (l.take j) l[j]
      rw [← take_one l j hlt] at hk
      have hjl : (l.take j).length = j := by simp; omega
      by_cases h0 : l[j].f0 = 0
      · rw [if_pos (by simp [nullN, h0])] at hk
        rw [hk, e2] at hn
        refine Ev.step (f := fun k => capnpref11_Pointers.l0 k l (keptN nullN (l.take j) : Int) (wrap64 ((j : Int) + 1))) (fun k => ?_) (by rw [w64 (by omega) (by omega)]; exact hn)
        simp only [capnpref11_Pointers.l0]
        rw [if_pos (by omega), if_pos (by omega), rdT_at _ _ hlt, if_pos h0]
      · rw [if_neg (by simp [nullN, h0]), hjl] at hk
        rw [hk, e2] at hn
        refine Ev.step (f := fun k => capnpref11_Pointers.l0 k l (wrap64 ((j : Int) + 1)) (wrap64 ((j : Int) + 1))) (fun k => ?_) (by rw [w64 (by omega) (by omega)]; exact hn)
        simp only [capnpref11_Pointers.l0]
        rw [if_pos (by omega), if_pos (by omega), rdT_at _ _ hlt, if_neg h0]
  have h0 := loop l.length 0 (by omega) (by omega)
  rw [show (keptN nullN (l.take 0) : Int) = 0 by rw [List.take_zero]; rfl] at h0
  exact h0
def cellsT (a : S37) : Int × Int × Int × List Int × (List S37) := (a.f0, a.f1, a.f2, a.f3, a.f4)
theorem mkT (a : S37) : (⟨(cellsT a).1, (cellsT a).2.1, (cellsT a).2.2.1, (cellsT a).2.2.2.1, (cellsT a).2.2.2.2⟩ : S37) = a := by cases a; rfl
theorem take_map {α β : Type} (f : α → β) (l : List α) (j : Nat) (h : j < l.length) : (l.take j).map f ++ [f l[j]] = (l.take (j + 1)).map f := by
  rw [take_one l j h, List.map_append]; rfl
theorem rtrim_ev (a : S37) : wordsT a → tsize a ≤ 1000000000000 → Ev (fun k => capnpref11_Trim.f k a.f0 a.f1 a.f2 a.f3 a.f4) (cellsT (ttrim a)) := by
  refine S37.ind (P := fun a => wordsT a → tsize a ≤ 1000000000000 → Ev (fun k => capnpref11_Trim.f k a.f0 a.f1 a.f2 a.f3 a.f4) (cellsT (ttrim a))) (fun a ih hw hs => ?_) a
  have he := tsize_eq a
  have hl := length_tsizes a.f4
  have hm : ∀ x ∈ a.f4, Ev (fun k => capnpref11_Trim.f k x.f0 x.f1 x.f2 x.f3 x.f4) (cellsT (ttrim x)) := fun x hx => ih x hx (AllT.kids hw x hx) (by have := tsize_kid hx; omega)
  have hc : cellsT (ttrim a) = (a.f0, a.f1, a.f2, cutD a, (cutK a).map ttrim) := by unfold cellsT; rw [ttrim_eq]
  have body : ∀ D K : Nat, D ≤ a.f3.length → K ≤ a.f4.length → Ev (fun k => capnpref11_Trim.j0 k (D : Int) (K : Int) a.f0 a.f1 a.f2 a.f3 a.f4) (a.f0, a.f1, a.f2, a.f3.take D, (a.f4.take K).map ttrim) := by
    intro D K hD hK
    have kids : ∀ d j : Nat, K - j = d → j ≤ K → Ev (fun k => capnpref11_Trim.l1 k (K : Int) (j : Int) a.f0 a.f1 a.f2 a.f3 a.f4 a.f0 a.f1 a.f2 (a.f3.take D) ((a.f4.take j).map ttrim)) (a.f0, a.f1, a.f2, a.f3.take D, (a.f4.take K).map ttrim) := by
      intro d
      induction d with
      | zero =>
        intro j hd hj
        obtain rfl : j = K := by omega
        refine Ev.step (f := fun _ => some (a.f0, a.f1, a.f2, a.f3.take D, (a.f4.take j).map ttrim)) (fun k => ?_) (Ev.now _)
        simp only [capnpref11_Trim.l1]
        rw [if_neg (by omega)]
      | succ d ihd =>
        intro j hd hj
        have hlt : j < a.f4.length := by omega
        have hn := ihd (j + 1) (by omega) (by omega)
        rw [← take_map _ _ _ hlt, show ((j + 1 : Nat) : Int) = (j : Int) + 1 by omega] at hn
        refine Ev.step (f := fun k => (capnpref11_Trim.f k a.f4[j].f0 a.f4[j].f1 a.f4[j].f2 a.f4[j].f3 a.f4[j].f4).bind fun bt => if ((a.f4.take j).map ttrim).length < 1954687338268 then capnpref11_Trim.l1 k (K : Int) (wrap64 ((j : Int) + 1)) a.f0 a.f1 a.f2 a.f3 a.f4 a.f0 a.f1 a.f2 (a.f3.take D) ((a.f4.take j).map ttrim ++ [(⟨bt.1, bt.2.1, bt.2.2.1, bt.2.2.2.1, bt.2.2.2.2⟩ : S37)]) else none) (fun k => ?_) ?_
        · simp only [capnpref11_Trim.l1]
          rw [if_pos (by omega), if_pos (by omega), if_pos (by omega), rdT_at _ _ hlt]
        · refine Ev.bind (hm _ (List.getElem_mem hlt)) ?_
          rw [w64 (by omega) (by omega)]
          exact Ev.congr (fun k => by rw [if_pos (by simp; omega), mkT]) hn
    have data : ∀ d j : Nat, D - j = d → j ≤ D → Ev (fun k => capnpref11_Trim.l0 k (D : Int) (K : Int) (j : Int) a.f0 a.f1 a.f2 a.f3 a.f4 a.f0 a.f1 a.f2 (a.f3.take j)) (a.f0, a.f1, a.f2, a.f3.take D, (a.f4.take K).map ttrim) := by
      intro d
      induction d with
      | zero =>
        intro j hd hj
        obtain rfl : j = D := by omega
        refine Ev.step (f := fun k => capnpref11_Trim.l1 k (K : Int) 0 a.f0 a.f1 a.f2 a.f3 a.f4 a.f0 a.f1 a.f2 (a.f3.take j) []) (fun k => ?_) (kids K 0 (by omega) (by omega))
        simp only [capnpref11_Trim.l0]
        rw [if_neg (by omega)]
      | succ d ihd =>
        intro j hd hj
        have hlt : j < a.f3.length := by omega
        have hn := ihd (j + 1) (by omega) (by omega)
        rw [take_one _ _ hlt] at hn
        refine Ev.step (f := fun k => capnpref11_Trim.l0 k (D : Int) (K : Int) (wrap64 ((j : Int) + 1)) a.f0 a.f1 a.f2 a.f3 a.f4 a.f0 a.f1 a.f2 (a.f3.take j ++ [a.f3[j]])) (fun k => ?_) (by rw [w64 (by omega) (by omega)]; exact hn)
        simp only [capnpref11_Trim.l0]
        rw [if_pos (by omega), if_pos (by omega), if_pos (by omega), if_pos (by simp; omega), rd_at _ _ hlt]
    refine Ev.step (f := fun k => capnpref11_Trim.l0 k (D : Int) (K : Int) 0 a.f0 a.f1 a.f2 a.f3 a.f4 a.f0 a.f1 a.f2 []) (fun k => by simp only [capnpref11_Trim.j0]) (data D 0 (by omega) (by omega))
  rw [hc]
  by_cases h0 : a.f0 = 1
  · have hlen := AllT.here hw h0
    have hwl := twords_le a.f3 hlen
    have hkl := keptN_le nullN a.f4
    refine Ev.step (f := fun k => (capnpref11_Words.f k a.f3).bind fun t => (capnpref11_Pointers.f k a.f4).bind fun u => capnpref11_Trim.j0 k (wrap64 (8 * t)) u a.f0 a.f1 a.f2 a.f3 a.f4) (fun k => by simp only [capnpref11_Trim.f]; rw [if_pos h0]) ?_
    refine Ev.bind (rwords_ev _ (by omega)) (Ev.bind (rptrs_ev _ (by omega)) ?_)
    rw [w64 (by omega) (by omega)]
    have := body (8 * twords a.f3) (keptN nullN a.f4) hwl hkl
    have e1 : ((8 * twords a.f3 : Nat) : Int) = 8 * (twords a.f3 : Int) := by omega
    rw [e1] at this
    unfold cutD cutK
    rw [if_pos h0, if_pos h0]
    exact this
  · refine Ev.step (f := fun k => capnpref11_Trim.j0 k (a.f3.length : Int) (a.f4.length : Int) a.f0 a.f1 a.f2 a.f3 a.f4) (fun k => by simp only [capnpref11_Trim.f]; rw [if_neg h0]) ?_
    have := body a.f3.length a.f4.length (Nat.le_refl _) (Nat.le_refl _)
    unfold cutD cutK
    rw [if_neg h0, if_neg h0]
    rwa [List.take_length, List.take_length] at this
theorem trim_any (a : S37) (hw : wordsT a) (hs : tsize a ≤ 1000000000000) (w : World) {A3 A4 : Option Addr} {c3 c4 : Nat} (h : k37.K w a [.int .i64 a.f0, .int .i64 a.f1, .int .i64 a.f2, .slice A3 a.f3.length c3, .slice A4 a.f4.length c4]) :
    Calls Tryd.prog 29 #[.agg #[.int .i64 a.f0, .int .i64 a.f1, .int .i64 a.f2, .slice A3 a.f3.length c3, .slice A4 a.f4.length c4]] w fun r w' => ∃ v3 v4, r = .returned (.agg #[.int .i64 (ttrim a).f0, .int .i64 (ttrim a).f1, .int .i64 (ttrim a).f2, v3, v4]) ∧ k37.M w' w.heap.size (fun _ => True) (ttrim a) [.int .i64 (ttrim a).f0, .int .i64 (ttrim a).f1, .int .i64 (ttrim a).f2, v3, v4] ∧ Below w.heap.size w w' := by
  obtain ⟨k, hk⟩ := (rtrim_ev a hw hs).rounds
  obtain ⟨B3, d3, B4, d4, e, l3, g3, l4, g4⟩ := k37_open h
  simp only [List.cons.injEq, Value.slice.injEq, true_and, and_true] at e
  obtain ⟨⟨rfl, rfl⟩, rfl, rfl⟩ := e
  refine (capnpref11_Trim.calls k a.f0 a.f1 a.f2 A3 c3 a.f3 A4 c4 a.f4 _ _ _ _ _ w g3 l3 g4 l4 hk).mono ?_
  rintro r w' ⟨v3, v4, rfl, h3, h4, hb⟩
  exact ⟨v3, v4, rfl, k37_mkM w' _ _ (ttrim a) h3 (Kd.R_mono h4 (fun _ _ => trivial)), hb⟩
end Go.Proofs.YtidglmocekghmaaDoor.Pr
end
section
namespace Go.Proofs.YtidglmocekghmaaDoor.Pr
def Good (k : Int) (q : Tr) (m : Int) : Prop := q.2.2 = 0 → (tsize q.1 : Int) ≤ k + 9 * (m - q.2.1) ∧ wordsT q.1
theorem kidsR_good {v : Int → Int → Tr} (hs : Sinks v) (k : Int) (hv : ∀ a m, 0 ≤ m → Good k (v a m) m) : ∀ (n : Nat) (a m : Int), 0 ≤ m → (kidsR v n a m).2.2 = 0 → (tsizes (kidsR v n a m).1 : Int) ≤ n * k + 9 * (m - (kidsR v n a m).2.1) ∧ ∀ x ∈ (kidsR v n a m).1, wordsT x
  | 0, a, m, hm, h => by simp [kidsR, tsizes]
  | n + 1, a, m, hm, h => by
    revert h
    unfold kidsR
    split
    · rename_i he
      intro h
      exact (he h).elim
    · rename_i he
      have he : (v a m).2.2 = 0 := by omega
      intro h
      have h1 := hv a m hm he
      have h2 := kidsR_good hs k hv n (a + 1) (v a m).2.1 (hs a m hm).1 h
      have h3 : ((n + 1 : Nat) : Int) * k = n * k + k := by rw [Int.natCast_add, Int.add_mul]; simp
      dsimp only
      rw [tsizes]
      refine ⟨by rw [h3]; omega, fun x hx => ?_⟩
      rcases List.mem_cons.1 hx with rfl | hx
      · exact h1.2
      · exact h2.2 x hx
theorem ndZ_good (k m : Int) (e : Int) (h : 1 ≤ k) (hw : wordsT ndZ) : Good k (ndZ, m, e) m := fun _ => ⟨by rw [tsize_eq]; simp [ndZ, tsizes]; omega, hw⟩
theorem ndZ_words : wordsT ndZ := .mk (by intro h; simp [ndZ] at h) (by intro x hx; simp [ndZ] at hx)
theorem cutG_length_le (G : List (List Int)) (s a : Int) (n : Int) (h : 0 ≤ n) : ((cutG G s a n).length : Int) ≤ n := by
  unfold cutG
  rw [List.length_take]
  omega
theorem strR_good (G : List (List Int)) {v : Int → Int → Int → Tr} (hs : ∀ sg, Sinks (v sg)) (hv : ∀ sg a m, 0 ≤ m → Good 1 (v sg a m) m) (o : Ob) (m : Int) (hm : 0 ≤ m) (d0 : 0 ≤ o.d) (p0 : 0 ≤ o.p) : Good (1 + 8 * o.d + o.p) (strR G v o m) m := by
  intro h
  have hk := kidsR_good (hs o.sg) 1 (hv o.sg) o.p.toNat (o.ad + o.d) m hm
  have hc := cutG_length_le G o.sg o.ad o.d d0
  revert h
  unfold strR
  split
  · rename_i he
    intro h
    exact (he h).elim
  · rename_i he
    intro h
    obtain ⟨h1, h2⟩ := hk (by omega)
    refine ⟨?_, .mk (fun _ => ?_) h2⟩
    · rw [tsize_eq, bytesL_length]
      dsimp only
      omega
    · rw [bytesL_length]
      omega
theorem trimE_len_le (e c : Int) (b : List Int) : (trimE e c b).length ≤ b.length := by
  unfold trimE
  split
  · rw [List.length_set, List.length_take]; omega
  · rw [List.length_take]; omega
theorem obj_c (G : List (List Int)) (s a : Int) (h : (objG G s a).2 = 0) (he : (folM G s a).2.2.2 = 0) (hx : (folM G s a).1 ≠ 0) : ((objG G s a).1.kd = 1 → (objG G s a).1.c = (objG G s a).1.d + (objG G s a).1.p) ∧ ((objG G s a).1.kd = 2 → (objG G s a).1.e = 7 → (objG G s a).1.n * ((objG G s a).1.d + (objG G s a).1.p) ≤ (objG G s a).1.c ∧ ((objG G s a).1.d + (objG G s a).1.p = 0 → (objG G s a).1.n ≤ (objG G s a).1.c)) := by
  revert h
  unfold objG
  rw [if_neg (by simpa using he), if_neg hx]
  generalize folM G s a = q
  obtain ⟨x, sg, ba, er⟩ := q
  dsimp only
  have q1 := pD_bd x
  have q2 := pP_bd x
  have q3 := pE_bd x
  have q4 := pC_bd x
  unfold desM
  split
  · split
    · intro h; cases h
    · intro h; cases h
  split
  · split
    · rename_i hi
      intro _
      exact ⟨fun _ => rfl, fun h => by simp at h⟩
    · intro h; cases h
  split
  · intro h; cases h
  rename_i hi
  have hi : inG G sg (ba + pO x) (wordsE (pE x) (pC x)) = true := by
    cases hh : inG G sg (ba + pO x) (wordsE (pE x) (pC x)) with
    | true => rfl
    | false => exact (hi hh).elim
  split
  · intro _
    exact ⟨fun h => by simp at h, fun _ h7 => by dsimp only at h7; omega⟩
  rename_i he7
  have he7 : pE x = 7 := by omega
  have hw : wordsE (pE x) (pC x) = pC x + 1 := by rw [he7]; rfl
  have t1 := pO_bd (wdG G sg (ba + pO x))
  have t2 := pD_bd (wdG G sg (ba + pO x))
  have t3 := pP_bd (wdG G sg (ba + pO x))
  generalize wdG G sg (ba + pO x) = t at *
  rw [hw] at hi ⊢
  unfold tagM
  split
  · intro h; cases h
  split
  · intro h; cases h
  split
  · intro h; cases h
  rename_i h1 h2 h3
  have hC := inG_sub (b := ba + pO x + 1) (k := pC x) hi (by omega) q4.1 (by omega)
  split
  all_goals
    intro _
    exact ⟨fun h => by simp at h, fun _ _ => ⟨by dsimp only; omega, fun hz => by dsimp only at hz ⊢; omega⟩⟩
theorem valR_good (G : List (List Int)) : ∀ f sg a m, 0 ≤ m → Good 1 (valR G f sg a m) m
  | f, sg, a, m => by
    intro hm
    induction f generalizing sg a m with
    | zero =>
      rw [valR]
      split
      · exact ndZ_good _ _ _ (by omega) ndZ_words
      split
      · exact ndZ_good _ _ _ (by omega) ndZ_words
      · exact ndZ_good _ _ _ (by omega) ndZ_words
    | succ f ih =>
      rw [valR]
      split
      · exact ndZ_good _ _ _ (by omega) ndZ_words
      rename_i he
      split
      · exact ndZ_good _ _ _ (by omega) ndZ_words
      rename_i hx
      split
      · exact ndZ_good _ _ _ (by omega) ndZ_words
      rename_i ho
      have hK := obj_ok G sg a (by omega) (by omega) hx
      have hC := obj_c G sg a (by omega) (by omega) hx
      generalize objG G sg a = q at *
      obtain ⟨o, _⟩ := q
      dsimp only at hK hC ⊢
      split
      · exact ndZ_good _ _ _ (by omega) ndZ_words
      have hs := valR_sinks G f
      have hst := fun (o : Ob) m => strR_good G hs (fun sg a m hm => ih sg a m hm) o m
      have hc0 := hK.c0
      have hm1 : 0 ≤ m - o.c := by omega
      unfold bodR
      rcases hK.is with ⟨hk, hi, d0, d1, p0, p1⟩ | ⟨hk, e0, e6, n0, n1, hw, hi⟩ | ⟨hk, e7, n0, n1, d0, d1, p0, p1, C, hi, hCC⟩
      · rw [if_pos hk]
        intro h
        have := hst o (m - o.c) hm1 d0 p0 h
        have hcc := hC.1 hk
        exact ⟨by omega, this.2⟩
      · rw [if_neg (by omega)]
        by_cases he6 : o.e < 6
        · rw [if_pos he6]
          intro _
          have h1 := trimE_len_le o.e o.n (bytesL (cutG G o.sg o.ad o.c))
          rw [bytesL_length] at h1
          have h2 := cutG_length_le G o.sg o.ad o.c hc0
          refine ⟨?_, .mk (fun h => by simp at h) (fun x hx => by simp at hx)⟩
          rw [tsize_eq]
          dsimp only
          rw [tsizes]
          omega
        · have he6 : o.e = 6 := by omega
          rw [if_neg (by omega), if_pos he6]
          have hwn : o.c = o.n := by rw [hw, he6]; unfold wordsE bitsE; simp; omega
          have hk := kidsR_good (hs o.sg) 1 (fun a m hm => ih o.sg a m hm) o.n.toNat o.ad (m - o.c) hm1
          split
          · rename_i hh
            intro h
            exact (hh h).elim
          · rename_i hh
            intro _
            obtain ⟨h1, h2⟩ := hk (by omega)
            refine ⟨?_, .mk (fun h => by simp at h) h2⟩
            rw [tsize_eq]
            dsimp only [List.length_nil]
            omega
      · rw [if_neg (by omega), if_neg (by omega), if_neg (by omega), elsR_kids]
        have hkk := kidsR_good (v := fun i m => strR G (valR G f) (elG o i) m) (fun i m h => strR_sinks G hs (elG o i) m h) (1 + 8 * o.d + o.p) (fun i m hm => hst (elG o i) m hm d0 p0) o.n.toNat 0 (m - o.c) hm1
        split
        · rename_i hh
          intro h
          exact (hh h).elim
        · rename_i hh
          intro _
          obtain ⟨h1, h2⟩ := hkk (by omega)
          refine ⟨?_, .mk (fun h => by simp at h) h2⟩
          rw [tsize_eq]
          dsimp only [List.length_nil]
          obtain ⟨c1, c2⟩ := hC.2 hk e7
          rw [show ((o.n.toNat : Nat) : Int) = o.n by omega] at h1
          have y : o.n * (1 + 8 * o.d + o.p) ≤ 9 * o.c := by
            by_cases hz : o.d + o.p = 0
            · have := c2 hz
              rw [show 1 + 8 * o.d + o.p = 1 by omega]
              omega
            · have y1 : o.n * (1 + 8 * o.d + o.p) ≤ o.n * (9 * (o.d + o.p)) := Int.mul_le_mul_of_nonneg_left (by omega) n0
              rw [Int.mul_left_comm] at y1
              omega
          generalize o.n * (1 + 8 * o.d + o.p) = z at *
          omega
end Go.Proofs.YtidglmocekghmaaDoor.Pr
end
section
namespace Go.Proofs.YtidglmocekghmaaDoor.Pr
open Go.RowKit Go.Proofs.YtidglmocekghmaaDoorW.PrintWords Go.Proofs.YtidglmocekghmaaDoorW.PrintLast Go.Proofs.YtidglmocekghmaaDoorW.PrintMore
set_option linter.unusedVariables false
set_option linter.unusedSimpArgs false
def visI : Option Nat → Int
  | none => -1
  | some r => r
abbrev AtS (w : World) (ad : Addr) (i : Nat) (x : Int) : Prop := w.cell? (ad.add i) = some (.int .u64 x)
abbrev Vi (ad : Addr) (n cp : Nat) (nx a : Nat) (w : World) (r : Int) : Prop := Calls Tryd.prog 22 #[.slice (some ad) n cp, .int .i64 nx, .int .i64 a] w fun e w' => e = .returned (.int .i64 r) ∧ Below w.heap.size w w'
abbrev Vs (ad : Addr) (n cp : Nat) (w : World) (e i k : Nat) (r : Int) : Prop := ∀ (e' i' k' : Int) w', Below w.heap.size w w' → e' = e → i' = i → k' = k → Hid (Calls Tryd.prog 37 #[.slice (some ad) n cp, .int .i64 e', .int .i64 i', .int .i64 k'] w' fun e w1 => e = .returned (.int .i64 r) ∧ Below w'.heap.size w' w1)
set_option maxRecDepth 100000 in
set_option maxHeartbeats 4000000 in
theorem vis_1 (ad : Addr) (n cp nx a : Nat) (w : World) (x : Int) (hv : AtS w ad a x) (ha : a < n) (hn : n ≤ 17592186040320) (hx0 : 0 ≤ x) (hx1 : x < 18446744073709551616) (hnx : nx ≤ n) (hx : x = 0) : Vi ad n cp nx a w nx := by
  have S := Sep.start w
  have D1 := fun w => Lib.hid (rdec_lit x w hx0 hx1)
  clear hx0 hx1
  subst hx
  go_enter Tryd.func22, Tryd.ntmps22
  go_wp2_with (first | go_skip | ((with_reducible refine wl ?_); first | refine sn S (fun g w1 S => ?_) | refine ss S (fun w1 S => ?_) | refine sl S ?_ | refine sa S ?_) | ((with_reducible refine (D1 _).out.mono ?_); rintro r w' ⟨rfl, hb⟩; replace S := S.call hb))
  exact rt S ⟨rfl, S.below⟩
set_option maxRecDepth 100000 in
set_option maxHeartbeats 4000000 in
theorem vis_2 (ad : Addr) (n cp nx a : Nat) (w : World) (x : Int) (hv : AtS w ad a x) (ha : a < n) (hn : n ≤ 17592186040320) (hx0 : 0 ≤ x) (hx1 : x < 18446744073709551616) (hnx : nx ≤ n) (hx : x ≠ 0) (hk : 1 < kindW x) : Vi ad n cp nx a w (-1) := by
  have S := Sep.start w
  have D1 := fun w => Lib.hid (rdec_lit x w hx0 hx1)
  clear hx0 hx1
  have tx : (x == 0) = false := beq_eq_false_iff_ne.2 hx
  clear hx
  have tk : decide (1 < kindW x) = true := decide_eq_true hk
  clear hk
  go_enter Tryd.func22, Tryd.ntmps22
  go_wp2_with (first | go_skip | ((with_reducible refine wl ?_); first | refine sn S (fun g w1 S => ?_) | refine ss S (fun w1 S => ?_) | refine sl S ?_ | refine sa S ?_) | ((with_reducible refine (D1 _).out.mono ?_); rintro r w' ⟨rfl, hb⟩; replace S := S.call hb))
  exact rt S ⟨rfl, S.below⟩
set_option maxRecDepth 100000 in
set_option maxHeartbeats 4000000 in
theorem vis_3 (ad : Addr) (n cp nx a : Nat) (w : World) (x : Int) (d p : Nat) (hv : AtS w ad a x) (ha : a < n) (hn : n ≤ 17592186040320) (hx0 : 0 ≤ x) (hx1 : x < 18446744073709551616) (hnx : nx ≤ n) (hx : x ≠ 0) (hk : kindW x = 0) (hd0 : dataW x = d) (hp0 : ptrsW x = p) (hz : d + p = 0) (hoff : offW x ≠ -1) : Vi ad n cp nx a w (-1) := by
  have S := Sep.start w
  have D1 := fun w => Lib.hid (rdec_lit x w hx0 hx1)
  clear hx0 hx1
  have tx : (x == 0) = false := beq_eq_false_iff_ne.2 hx
  clear hx
  have hpo := offW_bd x
  have ho : pO x = offW x := by unfold pO; rw [if_pos (by omega)]
  have hd : pD x = d := by unfold pD; rw [if_pos hk, hd0]
  have hp : pP x = p := by unfold pP; rw [if_pos hk, hp0]
  have hdb := (dataW_bd x).2
  have hpb := (ptrsW_bd x).2
  rw [hd0] at hdb
  rw [hp0] at hpb
  rw [ho, hd, hp, hk] at D1
  clear hk hd0 hp0 ho hd hp
  generalize pE x = pe at *
  generalize pC x = pc at *
  generalize pB x = pb at *
  generalize pF x = pf at *
  generalize pS x = ps at *
  generalize pL x = pl at *
  generalize offW x = o at *
  obtain rfl : d = 0 := by omega
  obtain rfl : p = 0 := by omega
  have tof : (o != -1) = true := bne_iff_ne.2 hoff
  clear hoff hz
  go_enter Tryd.func22, Tryd.ntmps22
  go_wp2_with (first | go_skip | ((with_reducible refine wl ?_); first | refine sn S (fun g w1 S => ?_) | refine ss S (fun w1 S => ?_) | refine sl S ?_ | refine sa S ?_) | ((with_reducible refine (D1 _).out.mono ?_); rintro r w' ⟨rfl, hb⟩; replace S := S.call hb))
  exact rt S ⟨rfl, S.below⟩
set_option maxRecDepth 100000 in
set_option maxHeartbeats 4000000 in
theorem vis_4 (ad : Addr) (n cp nx a : Nat) (w : World) (x : Int) (d p : Nat) (hv : AtS w ad a x) (ha : a < n) (hn : n ≤ 17592186040320) (hx0 : 0 ≤ x) (hx1 : x < 18446744073709551616) (hnx : nx ≤ n) (hx : x ≠ 0) (hk : kindW x = 0) (hd0 : dataW x = d) (hp0 : ptrsW x = p) (hz : d + p = 0) (hoff : offW x = -1) : Vi ad n cp nx a w nx := by
  have S := Sep.start w
  have D1 := fun w => Lib.hid (rdec_lit x w hx0 hx1)
  clear hx0 hx1
  have tx : (x == 0) = false := beq_eq_false_iff_ne.2 hx
  clear hx
  have hpo := offW_bd x
  have ho : pO x = offW x := by unfold pO; rw [if_pos (by omega)]
  have hd : pD x = d := by unfold pD; rw [if_pos hk, hd0]
  have hp : pP x = p := by unfold pP; rw [if_pos hk, hp0]
  have hdb := (dataW_bd x).2
  have hpb := (ptrsW_bd x).2
  rw [hd0] at hdb
  rw [hp0] at hpb
  rw [ho, hd, hp, hk] at D1
  clear hk hd0 hp0 ho hd hp
  generalize pE x = pe at *
  generalize pC x = pc at *
  generalize pB x = pb at *
  generalize pF x = pf at *
  generalize pS x = ps at *
  generalize pL x = pl at *
  generalize offW x = o at *
  obtain rfl : d = 0 := by omega
  obtain rfl : p = 0 := by omega
  subst hoff
  clear hz
  go_enter Tryd.func22, Tryd.ntmps22
  go_wp2_with (first | go_skip | ((with_reducible refine wl ?_); first | refine sn S (fun g w1 S => ?_) | refine ss S (fun w1 S => ?_) | refine sl S ?_ | refine sa S ?_) | ((with_reducible refine (D1 _).out.mono ?_); rintro r w' ⟨rfl, hb⟩; replace S := S.call hb))
  exact rt S ⟨rfl, S.below⟩
set_option maxRecDepth 100000 in
set_option maxHeartbeats 4000000 in
theorem vis_5 (ad : Addr) (n cp nx a : Nat) (w : World) (x : Int) (d p : Nat) (hv : AtS w ad a x) (ha : a < n) (hn : n ≤ 17592186040320) (hx0 : 0 ≤ x) (hx1 : x < 18446744073709551616) (hnx : nx ≤ n) (hx : x ≠ 0) (hk : kindW x = 0) (hd0 : dataW x = d) (hp0 : ptrsW x = p) (hz : d + p ≠ 0) (hst : (a : Int) + 1 + offW x ≠ nx) : Vi ad n cp nx a w (-1) := by
  have S := Sep.start w
  have D1 := fun w => Lib.hid (rdec_lit x w hx0 hx1)
  clear hx0 hx1
  have tx : (x == 0) = false := beq_eq_false_iff_ne.2 hx
  clear hx
  have hpo := offW_bd x
  have ho : pO x = offW x := by unfold pO; rw [if_pos (by omega)]
  have hd : pD x = d := by unfold pD; rw [if_pos hk, hd0]
  have hp : pP x = p := by unfold pP; rw [if_pos hk, hp0]
  have hdb := (dataW_bd x).2
  have hpb := (ptrsW_bd x).2
  rw [hd0] at hdb
  rw [hp0] at hpb
  rw [ho, hd, hp, hk] at D1
  clear hk hd0 hp0 ho hd hp
  generalize pE x = pe at *
  generalize pC x = pc at *
  generalize pB x = pb at *
  generalize pF x = pf at *
  generalize pS x = ps at *
  generalize pL x = pl at *
  generalize offW x = o at *
  have tz : ((d : Int) + p == 0) = false := beq_eq_false_iff_ne.2 (by omega)
  clear hz
  have ts : ((a : Int) + 1 + o != nx) = true := bne_iff_ne.2 hst
  clear hst
  go_enter Tryd.func22, Tryd.ntmps22
  go_wp2_with (first | go_skip | ((with_reducible refine wl ?_); first | refine sn S (fun g w1 S => ?_) | refine ss S (fun w1 S => ?_) | refine sl S ?_ | refine sa S ?_) | ((with_reducible refine (D1 _).out.mono ?_); rintro r w' ⟨rfl, hb⟩; replace S := S.call hb))
  exact rt S ⟨rfl, S.below⟩
set_option maxRecDepth 100000 in
set_option maxHeartbeats 4000000 in
theorem vis_6 (ad : Addr) (n cp nx a : Nat) (w : World) (x : Int) (d p : Nat) (hv : AtS w ad a x) (ha : a < n) (hn : n ≤ 17592186040320) (hx0 : 0 ≤ x) (hx1 : x < 18446744073709551616) (hnx : nx ≤ n) (hx : x ≠ 0) (hk : kindW x = 0) (hd0 : dataW x = d) (hp0 : ptrsW x = p) (hst : (a : Int) + 1 + offW x = nx) (hin : nx + (d + p) ≤ n) (hz : d + p ≠ 0) (h1 : 0 < d) (y : Int) (hy : AtS w ad (nx + d - 1) y) (hy0 : y = 0) : Vi ad n cp nx a w (-1) := by
  have S := Sep.start w
  have D1 := fun w => Lib.hid (rdec_lit x w hx0 hx1)
  clear hx0 hx1
  have tx : (x == 0) = false := beq_eq_false_iff_ne.2 hx
  clear hx
  have hpo := offW_bd x
  have ho : pO x = offW x := by unfold pO; rw [if_pos (by omega)]
  have hd : pD x = d := by unfold pD; rw [if_pos hk, hd0]
  have hp : pP x = p := by unfold pP; rw [if_pos hk, hp0]
  have hdb := (dataW_bd x).2
  have hpb := (ptrsW_bd x).2
  rw [hd0] at hdb
  rw [hp0] at hpb
  rw [ho, hd, hp, hk] at D1
  clear hk hd0 hp0 ho hd hp
  generalize pE x = pe at *
  generalize pC x = pc at *
  generalize pB x = pb at *
  generalize pF x = pf at *
  generalize pS x = ps at *
  generalize pL x = pl at *
  generalize offW x = o at *
  have tz : ((d : Int) + p == 0) = false := beq_eq_false_iff_ne.2 (by omega)
  clear hz
  have ts : ((a : Int) + 1 + o != nx) = false := bne_eq_false_iff_eq.2 hst
  subst hy0
  have td : decide ((d : Int) > 0) = true := decide_eq_true (by omega)
  go_enter Tryd.func22, Tryd.ntmps22
  go_wp2_with (first | go_skip | ((with_reducible refine wl ?_); first | refine sn S (fun g w1 S => ?_) | refine ss S (fun w1 S => ?_) | refine sl S ?_ | refine sa S ?_ | refine sx S hy ?_) | ((with_reducible refine (D1 _).out.mono ?_); rintro r w' ⟨rfl, hb⟩; replace S := S.call hb))
  exact rt S ⟨rfl, S.below⟩
set_option maxRecDepth 100000 in
set_option maxHeartbeats 4000000 in
theorem vis_7a (ad : Addr) (n cp nx a : Nat) (w : World) (x : Int) (d p : Nat) (hv : AtS w ad a x) (ha : a < n) (hn : n ≤ 17592186040320) (hx0 : 0 ≤ x) (hx1 : x < 18446744073709551616) (hnx : nx ≤ n) (hx : x ≠ 0) (hk : kindW x = 0) (hd0 : dataW x = d) (hp0 : ptrsW x = p) (hst : (a : Int) + 1 + offW x = nx) (hin : nx + (d + p) ≤ n) (hz : d + p ≠ 0) (h1 : 0 < d) (y : Int) (hy : AtS w ad (nx + d - 1) y) (hy0 : y ≠ 0) (h2 : 0 < p) (z : Int) (hz2 : AtS w ad (nx + (d + p) - 1) z) (hz0 : z = 0) : Vi ad n cp nx a w (-1) := by
  have S := Sep.start w
  have D1 := fun w => Lib.hid (rdec_lit x w hx0 hx1)
  clear hx0 hx1
  have tx : (x == 0) = false := beq_eq_false_iff_ne.2 hx
  clear hx
  have hpo := offW_bd x
  have ho : pO x = offW x := by unfold pO; rw [if_pos (by omega)]
  have hd : pD x = d := by unfold pD; rw [if_pos hk, hd0]
  have hp : pP x = p := by unfold pP; rw [if_pos hk, hp0]
  have hdb := (dataW_bd x).2
  have hpb := (ptrsW_bd x).2
  rw [hd0] at hdb
  rw [hp0] at hpb
  rw [ho, hd, hp, hk] at D1
  clear hk hd0 hp0 ho hd hp
  generalize pE x = pe at *
  generalize pC x = pc at *
  generalize pB x = pb at *
  generalize pF x = pf at *
  generalize pS x = ps at *
  generalize pL x = pl at *
  generalize offW x = o at *
  have tz : ((d : Int) + p == 0) = false := beq_eq_false_iff_ne.2 (by omega)
  clear hz
  have ts : ((a : Int) + 1 + o != nx) = false := bne_eq_false_iff_eq.2 hst
  have td : decide ((d : Int) > 0) = true := decide_eq_true (by omega)
  have ty : (y == 0) = false := beq_eq_false_iff_ne.2 hy0
  clear hy0
  have tp : decide ((p : Int) > 0) = true := decide_eq_true (by omega)
  subst hz0
  go_enter Tryd.func22, Tryd.ntmps22
  go_wp2_with (first | go_skip | ((with_reducible refine wl ?_); first | refine sn S (fun g w1 S => ?_) | refine ss S (fun w1 S => ?_) | refine sl S ?_ | refine sa S ?_ | refine sx S hy ?_ | refine sx S hz2 ?_) | ((with_reducible refine (D1 _).out.mono ?_); rintro r w' ⟨rfl, hb⟩; replace S := S.call hb))
  exact rt S ⟨rfl, S.below⟩
set_option maxRecDepth 100000 in
set_option maxHeartbeats 4000000 in
theorem vis_7b (ad : Addr) (n cp nx a : Nat) (w : World) (x : Int) (d p : Nat) (hv : AtS w ad a x) (ha : a < n) (hn : n ≤ 17592186040320) (hx0 : 0 ≤ x) (hx1 : x < 18446744073709551616) (hnx : nx ≤ n) (hx : x ≠ 0) (hk : kindW x = 0) (hd0 : dataW x = d) (hp0 : ptrsW x = p) (hst : (a : Int) + 1 + offW x = nx) (hin : nx + (d + p) ≤ n) (hz : d + p ≠ 0) (h1 : d = 0) (h2 : 0 < p) (z : Int) (hz2 : AtS w ad (nx + (d + p) - 1) z) (hz0 : z = 0) : Vi ad n cp nx a w (-1) := by
  have S := Sep.start w
  have D1 := fun w => Lib.hid (rdec_lit x w hx0 hx1)
  clear hx0 hx1
  have tx : (x == 0) = false := beq_eq_false_iff_ne.2 hx
  clear hx
  have hpo := offW_bd x
  have ho : pO x = offW x := by unfold pO; rw [if_pos (by omega)]
  have hd : pD x = d := by unfold pD; rw [if_pos hk, hd0]
  have hp : pP x = p := by unfold pP; rw [if_pos hk, hp0]
  have hdb := (dataW_bd x).2
  have hpb := (ptrsW_bd x).2
  rw [hd0] at hdb
  rw [hp0] at hpb
  rw [ho, hd, hp, hk] at D1
  clear hk hd0 hp0 ho hd hp
  generalize pE x = pe at *
  generalize pC x = pc at *
  generalize pB x = pb at *
  generalize pF x = pf at *
  generalize pS x = ps at *
  generalize pL x = pl at *
  generalize offW x = o at *
  have tz : ((d : Int) + p == 0) = false := beq_eq_false_iff_ne.2 (by omega)
  clear hz
  have ts : ((a : Int) + 1 + o != nx) = false := bne_eq_false_iff_eq.2 hst
  have tp : decide ((p : Int) > 0) = true := decide_eq_true (by omega)
  subst hz0 h1
  go_enter Tryd.func22, Tryd.ntmps22
  go_wp2_with (first | go_skip | ((with_reducible refine wl ?_); first | refine sn S (fun g w1 S => ?_) | refine ss S (fun w1 S => ?_) | refine sl S ?_ | refine sa S ?_ | refine sx S hz2 ?_) | ((with_reducible refine (D1 _).out.mono ?_); rintro r w' ⟨rfl, hb⟩; replace S := S.call hb))
  exact rt S ⟨rfl, S.below⟩
set_option maxRecDepth 100000 in
set_option maxHeartbeats 4000000 in
theorem vis_8a (ad : Addr) (n cp nx a : Nat) (w : World) (x : Int) (d p : Nat) (hv : AtS w ad a x) (ha : a < n) (hn : n ≤ 17592186040320) (hx0 : 0 ≤ x) (hx1 : x < 18446744073709551616) (hnx : nx ≤ n) (hx : x ≠ 0) (hk : kindW x = 0) (hd0 : dataW x = d) (hp0 : ptrsW x = p) (hst : (a : Int) + 1 + offW x = nx) (hin : nx + (d + p) ≤ n) (hz : d + p ≠ 0) (h1 : 0 < d) (y : Int) (hy : AtS w ad (nx + d - 1) y) (hy0 : y ≠ 0) (h2 : 0 < p) (z : Int) (hz2 : AtS w ad (nx + (d + p) - 1) z) (hz0 : z ≠ 0) (r : Int) (HVS : Vs ad n cp w (nx + (d + p)) (nx + d) p r)  : Vi ad n cp nx a w r := by
  have S := Sep.start w
  have D1 := fun w => Lib.hid (rdec_lit x w hx0 hx1)
  clear hx0 hx1
  have tx : (x == 0) = false := beq_eq_false_iff_ne.2 hx
  clear hx
  have hpo := offW_bd x
  have ho : pO x = offW x := by unfold pO; rw [if_pos (by omega)]
  have hd : pD x = d := by unfold pD; rw [if_pos hk, hd0]
  have hp : pP x = p := by unfold pP; rw [if_pos hk, hp0]
  have hdb := (dataW_bd x).2
  have hpb := (ptrsW_bd x).2
  rw [hd0] at hdb
  rw [hp0] at hpb
  rw [ho, hd, hp, hk] at D1
  clear hk hd0 hp0 ho hd hp
  generalize pE x = pe at *
  generalize pC x = pc at *
  generalize pB x = pb at *
  generalize pF x = pf at *
  generalize pS x = ps at *
  generalize pL x = pl at *
  generalize offW x = o at *
  have tz : ((d : Int) + p == 0) = false := beq_eq_false_iff_ne.2 (by omega)
  clear hz
  have ts : ((a : Int) + 1 + o != nx) = false := bne_eq_false_iff_eq.2 hst
  have td : decide ((d : Int) > 0) = true := decide_eq_true (by omega)
  have ty : (y == 0) = false := beq_eq_false_iff_ne.2 hy0
  clear hy0
  have tp : decide ((p : Int) > 0) = true := decide_eq_true (by omega)
  have tzz : (z == 0) = false := beq_eq_false_iff_ne.2 hz0
  clear hz0
  go_enter Tryd.func22, Tryd.ntmps22
  go_wp2_with (first | go_skip | ((with_reducible refine wl ?_); first | refine sn S (fun g w1 S => ?_) | refine ss S (fun w1 S => ?_) | refine sl S ?_ | refine sa S ?_ | refine sx S hy ?_ | refine sx S hz2 ?_) | ((with_reducible refine (D1 _).out.mono ?_); rintro r w' ⟨rfl, hb⟩; replace S := S.call hb) | ((with_reducible refine (HVS _ _ _ _ S.below (by omega) (by omega) (by omega)).out.mono ?_); rintro r' w' ⟨rfl, hb⟩; replace S := S.call hb))
  exact rt S ⟨rfl, S.below⟩
set_option maxRecDepth 100000 in
set_option maxHeartbeats 4000000 in
theorem vis_8b (ad : Addr) (n cp nx a : Nat) (w : World) (x : Int) (d p : Nat) (hv : AtS w ad a x) (ha : a < n) (hn : n ≤ 17592186040320) (hx0 : 0 ≤ x) (hx1 : x < 18446744073709551616) (hnx : nx ≤ n) (hx : x ≠ 0) (hk : kindW x = 0) (hd0 : dataW x = d) (hp0 : ptrsW x = p) (hst : (a : Int) + 1 + offW x = nx) (hin : nx + (d + p) ≤ n) (hz : d + p ≠ 0) (h1 : d = 0) (h2 : 0 < p) (z : Int) (hz2 : AtS w ad (nx + (d + p) - 1) z) (hz0 : z ≠ 0) (r : Int) (HVS : Vs ad n cp w (nx + (d + p)) (nx + d) p r)  : Vi ad n cp nx a w r := by
  have S := Sep.start w
  have D1 := fun w => Lib.hid (rdec_lit x w hx0 hx1)
  clear hx0 hx1
  have tx : (x == 0) = false := beq_eq_false_iff_ne.2 hx
  clear hx
  have hpo := offW_bd x
  have ho : pO x = offW x := by unfold pO; rw [if_pos (by omega)]
  have hd : pD x = d := by unfold pD; rw [if_pos hk, hd0]
  have hp : pP x = p := by unfold pP; rw [if_pos hk, hp0]
  have hdb := (dataW_bd x).2
  have hpb := (ptrsW_bd x).2
  rw [hd0] at hdb
  rw [hp0] at hpb
  rw [ho, hd, hp, hk] at D1
  clear hk hd0 hp0 ho hd hp
  generalize pE x = pe at *
  generalize pC x = pc at *
  generalize pB x = pb at *
  generalize pF x = pf at *
  generalize pS x = ps at *
  generalize pL x = pl at *
  generalize offW x = o at *
  have tz : ((d : Int) + p == 0) = false := beq_eq_false_iff_ne.2 (by omega)
  clear hz
  have ts : ((a : Int) + 1 + o != nx) = false := bne_eq_false_iff_eq.2 hst
  have tp : decide ((p : Int) > 0) = true := decide_eq_true (by omega)
  have tzz : (z == 0) = false := beq_eq_false_iff_ne.2 hz0
  clear hz0
  subst h1
  go_enter Tryd.func22, Tryd.ntmps22
  go_wp2_with (first | go_skip | ((with_reducible refine wl ?_); first | refine sn S (fun g w1 S => ?_) | refine ss S (fun w1 S => ?_) | refine sl S ?_ | refine sa S ?_ | refine sx S hz2 ?_) | ((with_reducible refine (D1 _).out.mono ?_); rintro r w' ⟨rfl, hb⟩; replace S := S.call hb) | ((with_reducible refine (HVS _ _ _ _ S.below (by omega) (by omega) (by omega)).out.mono ?_); rintro r' w' ⟨rfl, hb⟩; replace S := S.call hb))
  exact rt S ⟨rfl, S.below⟩
set_option maxRecDepth 100000 in
set_option maxHeartbeats 4000000 in
theorem vis_8c (ad : Addr) (n cp nx a : Nat) (w : World) (x : Int) (d p : Nat) (hv : AtS w ad a x) (ha : a < n) (hn : n ≤ 17592186040320) (hx0 : 0 ≤ x) (hx1 : x < 18446744073709551616) (hnx : nx ≤ n) (hx : x ≠ 0) (hk : kindW x = 0) (hd0 : dataW x = d) (hp0 : ptrsW x = p) (hst : (a : Int) + 1 + offW x = nx) (hin : nx + (d + p) ≤ n) (hz : d + p ≠ 0) (h1 : 0 < d) (y : Int) (hy : AtS w ad (nx + d - 1) y) (hy0 : y ≠ 0) (h2 : p = 0) (r : Int) (HVS : Vs ad n cp w (nx + (d + p)) (nx + d) p r)  : Vi ad n cp nx a w r := by
  have S := Sep.start w
  have D1 := fun w => Lib.hid (rdec_lit x w hx0 hx1)
  clear hx0 hx1
  have tx : (x == 0) = false := beq_eq_false_iff_ne.2 hx
  clear hx
  have hpo := offW_bd x
  have ho : pO x = offW x := by unfold pO; rw [if_pos (by omega)]
  have hd : pD x = d := by unfold pD; rw [if_pos hk, hd0]
  have hp : pP x = p := by unfold pP; rw [if_pos hk, hp0]
  have hdb := (dataW_bd x).2
  have hpb := (ptrsW_bd x).2
  rw [hd0] at hdb
  rw [hp0] at hpb
  rw [ho, hd, hp, hk] at D1
  clear hk hd0 hp0 ho hd hp
  generalize pE x = pe at *
  generalize pC x = pc at *
  generalize pB x = pb at *
  generalize pF x = pf at *
  generalize pS x = ps at *
  generalize pL x = pl at *
  generalize offW x = o at *
  have tz : ((d : Int) + p == 0) = false := beq_eq_false_iff_ne.2 (by omega)
  clear hz
  have ts : ((a : Int) + 1 + o != nx) = false := bne_eq_false_iff_eq.2 hst
  have td : decide ((d : Int) > 0) = true := decide_eq_true (by omega)
  have ty : (y == 0) = false := beq_eq_false_iff_ne.2 hy0
  clear hy0
  subst h2
  go_enter Tryd.func22, Tryd.ntmps22
  go_wp2_with (first | go_skip | ((with_reducible refine wl ?_); first | refine sn S (fun g w1 S => ?_) | refine ss S (fun w1 S => ?_) | refine sl S ?_ | refine sa S ?_ | refine sx S hy ?_) | ((with_reducible refine (D1 _).out.mono ?_); rintro r w' ⟨rfl, hb⟩; replace S := S.call hb) | ((with_reducible refine (HVS _ _ _ _ S.below (by omega) (by omega) (by omega)).out.mono ?_); rintro r' w' ⟨rfl, hb⟩; replace S := S.call hb))
  exact rt S ⟨rfl, S.below⟩
set_option maxRecDepth 100000 in
set_option maxHeartbeats 4000000 in
theorem vis_9 (ad : Addr) (n cp nx a : Nat) (w : World) (x : Int) (c m : Nat) (hv : AtS w ad a x) (ha : a < n) (hn : n ≤ 17592186040320) (hx0 : 0 ≤ x) (hx1 : x < 18446744073709551616) (hnx : nx ≤ n) (hx : x ≠ 0) (hk : kindW x = 1) (hc0 : cntW x = c) (hw : wordsE (elemW x) c = m) (hst : (a : Int) + 1 + offW x ≠ nx) : Vi ad n cp nx a w (-1) := by
  have S := Sep.start w
  have D1 := fun w => Lib.hid (rdec_lit x w hx0 hx1)
  clear hx0 hx1
  have tx : (x == 0) = false := beq_eq_false_iff_ne.2 hx
  clear hx
  have hpo := offW_bd x
  have ho : pO x = offW x := by unfold pO; rw [if_pos (by omega)]
  have hd : pD x = 0 := by unfold pD; rw [if_neg (by omega)]
  have hp : pP x = 0 := by unfold pP; rw [if_neg (by omega)]
  have he : pE x = elemW x := by unfold pE; rw [if_pos hk]
  have hc : pC x = c := by unfold pC; rw [if_pos hk, hc0]
  have heb := elemW_bd x
  have hcb := (cntW_bd x).2
  rw [hc0] at hcb
  rw [ho, hd, hp, he, hc, hk] at D1
  have HM := fun w => Lib.hid (words_any6 (elemW x) c w (by omega) (by omega))
  obtain ⟨hm0, hm1⟩ := wordsE_bd (elemW x) c (by omega) hcb
  rw [hw] at HM hm0 hm1
  clear hk hc0 ho hd hp he hc hw
  generalize elemW x = e at *
  generalize pB x = pb at *
  generalize pF x = pf at *
  generalize pS x = ps at *
  generalize pL x = pl at *
  generalize offW x = o at *
  have ts : ((a : Int) + 1 + o != nx) = true := bne_iff_ne.2 hst
  clear hst
  go_enter Tryd.func22, Tryd.ntmps22
  go_wp2_with (first | go_skip | ((with_reducible refine wl ?_); first | refine sn S (fun g w1 S => ?_) | refine ss S (fun w1 S => ?_) | refine sl S ?_ | refine sa S ?_) | ((with_reducible refine (D1 _).out.mono ?_); rintro r w' ⟨rfl, hb⟩; replace S := S.call hb) | ((with_reducible refine (HM _).out.mono ?_); rintro r' w' ⟨rfl, rfl⟩))
  exact rt S ⟨rfl, S.below⟩
set_option maxRecDepth 100000 in
set_option maxHeartbeats 4000000 in
theorem vis_10 (ad : Addr) (n cp nx a : Nat) (w : World) (x : Int) (c m : Nat) (hv : AtS w ad a x) (ha : a < n) (hn : n ≤ 17592186040320) (hx0 : 0 ≤ x) (hx1 : x < 18446744073709551616) (hnx : nx ≤ n) (hx : x ≠ 0) (hk : kindW x = 1) (hc0 : cntW x = c) (hw : wordsE (elemW x) c = m) (hst : (a : Int) + 1 + offW x = nx) (hin : nx + m ≤ n) (he6 : elemW x = 6) (r : Int) (HVS : Vs ad n cp w (nx + m) nx c r) : Vi ad n cp nx a w r := by
  have S := Sep.start w
  have D1 := fun w => Lib.hid (rdec_lit x w hx0 hx1)
  clear hx0 hx1
  have tx : (x == 0) = false := beq_eq_false_iff_ne.2 hx
  clear hx
  have hpo := offW_bd x
  have ho : pO x = offW x := by unfold pO; rw [if_pos (by omega)]
  have hd : pD x = 0 := by unfold pD; rw [if_neg (by omega)]
  have hp : pP x = 0 := by unfold pP; rw [if_neg (by omega)]
  have he : pE x = elemW x := by unfold pE; rw [if_pos hk]
  have hc : pC x = c := by unfold pC; rw [if_pos hk, hc0]
  have heb := elemW_bd x
  have hcb := (cntW_bd x).2
  rw [hc0] at hcb
  rw [ho, hd, hp, he, hc, hk] at D1
  have HM := fun w => Lib.hid (words_any6 (elemW x) c w (by omega) (by omega))
  obtain ⟨hm0, hm1⟩ := wordsE_bd (elemW x) c (by omega) hcb
  rw [hw] at HM hm0 hm1
  clear hk hc0 ho hd hp he hc hw
  generalize elemW x = e at *
  generalize pB x = pb at *
  generalize pF x = pf at *
  generalize pS x = ps at *
  generalize pL x = pl at *
  generalize offW x = o at *
  have ts : ((a : Int) + 1 + o != nx) = false := bne_eq_false_iff_eq.2 hst
  subst he6
  go_enter Tryd.func22, Tryd.ntmps22
  go_wp2_with (first | go_skip | ((with_reducible refine wl ?_); first | refine sn S (fun g w1 S => ?_) | refine ss S (fun w1 S => ?_) | refine sl S ?_ | refine sa S ?_) | ((with_reducible refine (D1 _).out.mono ?_); rintro r w' ⟨rfl, hb⟩; replace S := S.call hb) | ((with_reducible refine (HM _).out.mono ?_); rintro r' w' ⟨rfl, rfl⟩) | ((with_reducible refine (HVS _ _ _ _ S.below (by omega) (by omega) (by omega)).out.mono ?_); rintro r' w' ⟨rfl, hb⟩; replace S := S.call hb))
  exact rt S ⟨rfl, S.below⟩
end Go.Proofs.YtidglmocekghmaaDoor.Pr
end
section
namespace Go.Proofs.YtidglmocekghmaaDoor.Pr
open Go.RowKit Go.Proofs.YtidglmocekghmaaDoorW.PrintWords Go.Proofs.YtidglmocekghmaaDoorW.PrintLast Go.Proofs.YtidglmocekghmaaDoorW.PrintMore
set_option linter.unusedVariables false
section
variable {P : Program} {ops : Array Oper} {rest : List Oper} {o : Oper} {a : Act} {Q : Exit → Act → World → Prop} {w0 W : World} {L : List Asr}
def isBs (o : Oper) : Bool := match o.op with
  | .buildSlice _ _ _ => true
  | _ => false
def BsAt (P : Program) (W : World) (o : Oper) (a : Act) (cs : Array Value) (t k : Nat) (f : Nat → Act) : Prop :=
  (execOp a.eval o).run P W = .ok (.value (.slice (some ⟨W.heap.size, 0, none⟩) k k)) (W.alloc (.cells cs t (0, 0))) ∧ ∀ g, a.put o.dst (.slice (some ⟨g, 0, none⟩) k k) = f g
theorem sb (S : Sep w0 W L) {cs : Array Value} {t k : Nat} {f : Nat → Act} (h : ∀ g w1, Sep w0 w1 (.box g cs t :: L) → wpList P ops Q rest (f g) w1) (_ : isBs o = true := by rfl) (hg : o.guard = none := by rfl)
    (k : BsAt P W o a cs t k f := by
      refine ⟨?_, fun g => ?_⟩
      · first | (go_simp; done) | (go_simp; rfl)
      · simp only [Act.put, List.setIfInBounds_toArray, List.set_cons_zero, List.set_cons_succ]; rfl) : wpList P ops Q (o :: rest) a W := by
  obtain ⟨hr, hf⟩ := k
  refine Kd.event_run hg hr ?_
  rw [hf]
  exact h _ _ (S.new cs t)
end
theorem C_sl1 {w : World} {g e cp : Nat} {A : Option Addr} {s : List Int} (hb : w.heap[g]? = some (.cells #[.slice A s.length cp] e (0, 0))) (hc : s.length ≤ cp) (h : (Kd.int .u64).C w A s.length s) : (Kd.slice 32 (Kd.int .u64)).C w (some ⟨g, 0, none⟩) 1 [s] := by
  refine ⟨rfl, by simp, fun hn => ⟨_, rfl, fun j p hj => ?_⟩⟩
  have hj0 : j = 0 := by
    have := (List.getElem?_eq_some_iff.1 hj).1
    simpa using this
  subst hj0
  obtain rfl : s = p := by simpa using hj
  refine ⟨[.slice A s.length cp], rfl, ⟨A, cp, rfl, hc, h⟩, fun i u hu => ?_⟩
  match i with
  | 0 =>
    obtain rfl : Value.slice A s.length cp = u := by simpa using hu
    rw [add_zero_at, blk_cell hb]
    simp
  | i + 1 => simp at hu
theorem C_drop {w : World} {ad : Addr} {s : List Int} (h : (Kd.int .u64).C w (some ad) s.length s) (k n : Nat) (hk : k + n ≤ s.length) : (Kd.int .u64).C w (some (ad.add k)) n ((s.drop k).take n) := by
  obtain ⟨h1, h2, h3⟩ := h
  refine ⟨by rw [List.length_take, List.length_drop]; omega, by omega, fun hn => ⟨_, rfl, fun j p hj => ?_⟩⟩
  obtain ⟨ad', e, h4⟩ := h3 (by omega)
  injection e with e
  subst e
  have hjn : j < n := by
    have := (List.getElem?_eq_some_iff.1 hj).1
    rw [List.length_take] at this
    omega
  rw [List.getElem?_take_of_lt hjn, List.getElem?_drop] at hj
  obtain ⟨c, h5, h6, h7⟩ := h4 (k + j) p hj
  refine ⟨c, h5, h6, fun i u hu => ?_⟩
  rw [← h7 i u hu]
  have hs : (Kd.int .u64).sz = 1 := rfl
  rw [hs, Addr.add_add]
  congr 2
  omega
end Go.Proofs.YtidglmocekghmaaDoor.Pr
end
section
namespace Go.Proofs.YtidglmocekghmaaDoor.Pr
open Go.RowKit Go.Proofs.YtidglmocekghmaaDoorW.PrintWords Go.Proofs.YtidglmocekghmaaDoorW.PrintLast Go.Proofs.YtidglmocekghmaaDoorW.PrintMore
set_option linter.unusedVariables false
set_option linter.unusedSimpArgs false
def tb (T : List Int) (i : Nat) : Int := if i < T.length then wd T i else 0
theorem restM_all {s : List Int} {e c : Int} {nx n : Nat} (h : ∀ i < (bytesL ((s.drop nx).take n)).length, tb (trimE e c (bytesL ((s.drop nx).take n))) i = wd (bytesL ((s.drop nx).take n)) i) : restM s e c nx n = true := by
  unfold restM
  dsimp only
  generalize bytesL ((s.drop nx).take n) = b at *
  generalize trimE e c b = T at *
  rw [decide_eq_true_eq]
  refine List.ext_getElem (by simp) (fun i h1 h2 => ?_)
  have := h i h2
  unfold tb wd at this
  rw [List.getD_eq_getElem?_getD, List.getD_eq_getElem?_getD, List.getElem?_eq_getElem h2] at this
  rw [List.getElem_take]
  by_cases hi : i < T.length
  · rw [List.getElem_append_left hi]
    rw [if_pos hi, List.getElem?_eq_getElem hi] at this
    simpa using this
  · rw [List.getElem_append_right (by omega)]
    rw [if_neg hi] at this
    simpa using this
theorem restM_not {s : List Int} {e c : Int} {nx n : Nat} {i : Nat} (hi : i < (bytesL ((s.drop nx).take n)).length) (h : tb (trimE e c (bytesL ((s.drop nx).take n))) i ≠ wd (bytesL ((s.drop nx).take n)) i) : restM s e c nx n = false := by
  unfold restM
  dsimp only
  generalize bytesL ((s.drop nx).take n) = b at *
  generalize trimE e c b = T at *
  rw [decide_eq_false_iff_not]
  intro he
  apply h
  rw [show wd b i = wd ((T ++ List.replicate b.length 0).take b.length) i by rw [he]]
  unfold tb wd
  rw [List.getD_eq_getElem?_getD, List.getD_eq_getElem?_getD, List.getElem?_take_of_lt hi]
  by_cases hj : i < T.length
  · rw [if_pos hj, List.getElem?_append_left hj]
  · rw [if_neg hj, List.getElem?_append_right (by omega), List.getElem?_replicate]
    split <;> rfl
set_option maxRecDepth 100000 in
set_option maxHeartbeats 4000000 in
theorem vis_11 (ad : Addr) (n cp nx a : Nat) (w : World) (x : Int) (c m : Nat) (hv : AtS w ad a x) (ha : a < n) (hn : n ≤ 17592186040320) (hx0 : 0 ≤ x) (hx1 : x < 18446744073709551616) (hnx : nx ≤ n) (hncp : n ≤ cp) (hx : x ≠ 0) (hk : kindW x = 1) (hc0 : cntW x = c) (hw : wordsE (elemW x) c = m) (hst : (a : Int) + 1 + offW x = nx) (hin : nx + m ≤ n) (he6 : elemW x < 6) (b T : List Int) (hbl : b.length ≤ 140737488355328) (r : Int) (h1 : (∀ i < b.length, tb T i = wd b i) → r = (nx : Int) + m) (h2 : ∀ i < b.length, tb T i ≠ wd b i → r = -1) (HBY : ∀ ad' c' w', Below w.heap.size w w' → (ad' = ad.add nx ∨ m = 0) → Hid (Calls Tryd.prog 38 #[.slice (some ad') m c'] w' fun r w1 => ∃ v, r = .returned v ∧ Kd.R (Kd.int .u8) 5 w1 w'.heap.size (fun _ => True) v b ∧ Below w'.heap.size w' w1)) (HTR : ∀ A' c' w', Kd.C (Kd.int .u8) w' A' b.length b → Hid (Calls Tryd.prog 39 #[.int .i64 (elemW x), .int .i64 c, .slice A' b.length c'] w' fun r w1 => ∃ v, r = .returned v ∧ Kd.R (Kd.int .u8) 5 w1 w'.heap.size (fun _ => True) v T ∧ Below w'.heap.size w' w1)) : Vi ad n cp nx a w r := by
  have S := Sep.start w
  have D1 := fun w => Lib.hid (rdec_lit x w hx0 hx1)
  clear hx0 hx1
  have tx : (x == 0) = false := beq_eq_false_iff_ne.2 hx
  clear hx
  have hpo := offW_bd x
  have ho : pO x = offW x := by unfold pO; rw [if_pos (by omega)]
  have hd : pD x = 0 := by unfold pD; rw [if_neg (by omega)]
  have hp : pP x = 0 := by unfold pP; rw [if_neg (by omega)]
  have he : pE x = elemW x := by unfold pE; rw [if_pos hk]
  have hc : pC x = c := by unfold pC; rw [if_pos hk, hc0]
  have heb := elemW_bd x
  have hcb := (cntW_bd x).2
  rw [hc0] at hcb
  rw [ho, hd, hp, he, hc, hk] at D1
  have HM := fun w => Lib.hid (words_any6 (elemW x) c w (by omega) (by omega))
  obtain ⟨hm0, hm1⟩ := wordsE_bd (elemW x) c (by omega) hcb
  rw [hw] at HM hm0 hm1
  clear hk hc0 ho hd hp he hc hw
  generalize elemW x = e at *
  generalize pB x = pb at *
  generalize pF x = pf at *
  generalize pS x = ps at *
  generalize pL x = pl at *
  generalize offW x = o at *
  have ts : ((a : Int) + 1 + o != nx) = false := bne_eq_false_iff_eq.2 hst
  have te6 : (e == 6) = false := beq_eq_false_iff_ne.2 (by omega)
  have te : decide (e < 6) = true := decide_eq_true he6
  have hnc : n ≤ cp := hncp
  clear he6
  go_enter Tryd.func22, Tryd.ntmps22
  go_wp2_with (first | go_skip | ((with_reducible refine wl ?_); first | (refine sn S (fun g w1 S => ?_); first | ((fail_if_success (have := g8)); revert g; intro g8 S)) | refine ss S (fun w1 S => ?_) | refine sl S ?_ | refine sa S ?_) | ((with_reducible refine (D1 _).out.mono ?_); rintro r w' ⟨rfl, hb⟩; replace S := S.call hb) | ((with_reducible refine (HM _).out.mono ?_); rintro r' w' ⟨rfl, rfl⟩) | ((with_reducible refine (HBY _ _ _ S.below (by first | exact .inl rfl | exact .inr (by omega))).out.mono ?_); rintro r' w' ⟨v, rfl, hR, hb⟩; obtain ⟨Ab, cb, rfl⟩ := Kd.R_slice hR; have hCb := R_C hR; replace S := S.push (a := .row (Kd.int .u8) 5 _ b) hb hR) | ((with_reducible refine (HTR _ _ _ hCb).out.mono ?_); rintro r' w' ⟨v, rfl, hR2, hb2⟩; obtain ⟨At, ct, rfl⟩ := Kd.R_slice hR2; replace S := S.push (a := .row (Kd.int .u8) 5 _ T) hb2 hR2))
  all_goals
    have S := Lib.hid S
    go_loopw [14] (fun k wr => ∃ j : Nat, j ≤ b.length ∧ k = .int .i64 j ∧ Hid (∀ i < j, tb T i = wd b i) ∧ Hid (Sep w wr [.row (Kd.int .u8) 5 (.slice At T.length ct) T, .row (Kd.int .u8) 5 (.slice Ab b.length cb) b, .box g8 #[.int .i64 1, .int .i64 o, .int .i64 0, .int .i64 0, .int .i64 e, .int .i64 c, .bool pb, .int .i64 pf, .int .u32 ps, .int .u32 pl] 67])) (fun k _ => b.length - (intOf k).toNat)
    case atStart => exact ⟨0, Nat.zero_le _, rfl, Lib.hid (fun i hi => by omega), S⟩
    case round =>
      clear S
      obtain ⟨j, hj, rfl, hall, S⟩ := hrel
      by_cases hjl : j < b.length
      · have hjI : (j : Int) < (b.length : Int) := by omega
        obtain ⟨ab, cb8, eab, _, hKb, hcb8⟩ := Kd.C_get (R_C (S.out.outR (.there .here))) (0 : Int) j (by omega) (by omega)
        obtain rfl : cb8 = [.int .u8 (wd b j)] := hKb
        have hvb := hcb8 0 _ rfl
        subst eab
        rw [show (Kd.int .u8).sz = 1 from rfl, Int.toNat_natCast, Nat.mul_one, Nat.add_zero] at hvb
        by_cases hjt : j < T.length
        · have hjtI : (j : Int) < (T.length : Int) := by omega
          obtain ⟨at_, ct8, eat, _, hKt, hct8⟩ := Kd.C_get (R_C (S.out.outR .here)) (0 : Int) j (by omega) (by omega)
          obtain rfl : ct8 = [.int .u8 (wd T j)] := hKt
          have hvt := hct8 0 _ rfl
          subst eat
          rw [show (Kd.int .u8).sz = 1 from rfl, Int.toNat_natCast, Nat.mul_one, Nat.add_zero] at hvt
          have htb : tb T j = wd T j := if_pos hjt
          by_cases heq : wd T j = wd b j
          · have hall2 : Hid (∀ i < j + 1, tb T i = wd b i) := Lib.hid (fun i hi => by
              by_cases hij : i = j
              · subst hij; rw [htb, heq]
              · exact hall.out i (by omega))
            rw [heq] at hvt
            clear htb heq hall
            generalize wd b j = y at *
            have hge : decide ((T.length : Int) ≤ (j : Int)) = false := decide_eq_false (by omega)
            have hgeN : decide (T.length ≤ j) = false := decide_eq_false (by omega)
            go_wp2
            go_quiet (fail)
            go_wp2
            go_roundw
            case rel => exact ⟨j + 1, by omega, by go_num, hall2, Lib.hid (S.out.drewN _)⟩
            case measure => simp [intOf]; omega
          · have hno : Hid (r = -1) := Lib.hid (h2 j hjl (by rw [htb]; exact heq))
            clear htb hall h1 h2
            have hneq : (wd b j != wd T j) = true := bne_iff_ne.2 (fun h => heq h.symm)
            clear heq
            generalize wd b j = y at *
            generalize wd T j = z at *
            go_wp2
            go_quiet (fail)
            go_wp2
            exact rt (S.out.drewN _) ⟨by rw [hno.out], (S.out.drewN _).below⟩
        · have hjtI : decide ((j : Int) < (T.length : Int)) = false := decide_eq_false (by omega)
          have hjtN : decide (j < T.length) = false := decide_eq_false hjt
          have hgeN : T.length ≤ j := by omega
          have hge : (T.length : Int) ≤ (j : Int) := by omega
          have htb : tb T j = 0 := if_neg hjt
          by_cases heq : wd b j = 0
          · have hall2 : Hid (∀ i < j + 1, tb T i = wd b i) := Lib.hid (fun i hi => by
              by_cases hij : i = j
              · subst hij; rw [htb, heq]
              · exact hall.out i (by omega))
            rw [heq] at hvb
            clear htb heq hall hjt
            go_wp2
            go_quiet (fail)
            go_wp2
            go_roundw
            case rel => exact ⟨j + 1, by omega, by go_num, hall2, Lib.hid (S.out.drewN _)⟩
            case measure => simp [intOf]; omega
          · have hno : Hid (r = -1) := Lib.hid (h2 j hjl (by rw [htb]; exact fun h => heq h.symm))
            have hneq : (wd b j != 0) = true := bne_iff_ne.2 heq
            clear htb heq hall h1 h2 hjt
            generalize wd b j = y at *
            go_wp2
            go_quiet (fail)
            go_wp2
            exact rt (S.out.drewN _) ⟨by rw [hno.out], (S.out.drewN _).below⟩
      · obtain rfl : j = b.length := by omega
        have hno : Hid (r = (nx : Int) + m) := Lib.hid (h1 hall.out)
        clear h1 h2 hall
        go_wp2
        exact rt S.out ⟨by rw [hno.out], S.out.below⟩
end Go.Proofs.YtidglmocekghmaaDoor.Pr
end
section
namespace Go.Proofs.YtidglmocekghmaaDoor.Pr
open Go.RowKit Go.Proofs.YtidglmocekghmaaDoorW.PrintWords Go.Proofs.YtidglmocekghmaaDoorW.PrintLast Go.Proofs.YtidglmocekghmaaDoorW.PrintMore
set_option linter.unusedVariables false
set_option linter.unusedSimpArgs false
theorem vptrs_step {V : Nat → Nat → Option Nat} {k j a e : Nat} (h : j < k) : vptrs V (k - j) (a + j) e = match V (a + j) e with
    | none => none
    | some r => vptrs V (k - (j + 1)) (a + (j + 1)) r := by
  obtain ⟨q, hq⟩ : ∃ q, k - j = q + 1 := ⟨k - j - 1, by omega⟩
  rw [show k - (j + 1) = q by omega, hq, vptrs, Nat.add_assoc]
  cases V (a + j) e <;> rfl
set_option maxRecDepth 100000 in
set_option maxHeartbeats 4000000 in
theorem viss_any (ad : Addr) (n cp nx a k : Nat) (V : Nat → Nat → Option Nat) (w : World) (hn : n ≤ 17592186040320) (hk : a + k ≤ n) (hnx : nx ≤ n)
    (hV : ∀ j, j < k → ∀ e, e ≤ n → ∀ r, V (a + j) e = some r → r ≤ n)
    (HV : ∀ j, j < k → ∀ e : Nat, e ≤ n → ∀ w', Below w.heap.size w w' → Hid (Calls Tryd.prog 22 #[.slice (some ad) n cp, .int .i64 e, .int .i64 ((a : Int) + j)] w' fun r w1 => r = .returned (.int .i64 (visI (V (a + j) e))) ∧ Below w'.heap.size w' w1)) :
    Calls Tryd.prog 37 #[.slice (some ad) n cp, .int .i64 nx, .int .i64 a, .int .i64 k] w fun r w1 => r = .returned (.int .i64 (visI (vptrs V k a nx))) ∧ Below w.heap.size w w1 := by
  have S := Sep.start w
  obtain ⟨R, hR⟩ : ∃ R, vptrs V k a nx = R := ⟨_, rfl⟩
  have HE : Hid (R = vptrs V (k - 0) (a + 0) nx) := Lib.hid hR.symm
  have hV := Lib.hid hV
  rw [hR]
  clear hR
  go_enter Tryd.func37, Tryd.ntmps37
  go_wp2
  have S := Lib.hid S
  go_loopw [9, 10] (fun v c wr => ∃ j e : Nat, j ≤ k ∧ e ≤ n ∧ c = .int .i64 j ∧ v = .int .i64 e ∧ Hid (R = vptrs V (k - j) (a + j) e) ∧ Hid (Sep w wr [])) (fun _ c _ => k - (intOf c).toNat)
  case atStart => exact ⟨0, nx, Nat.zero_le _, hnx, rfl, rfl, HE, S⟩
  case round =>
    clear S HE
    obtain ⟨j, e, hj, he, rfl, rfl, HE, S⟩ := hrel
    by_cases hjk : j < k
    · have HVj := HV j hjk e he
      have hVj := hV.out j hjk e he
      rw [vptrs_step hjk] at HE
      cases hq : V (a + j) e with
      | none =>
        rw [hq] at HVj HE
        have HE : Hid (R = none) := HE
        clear hVj hq
        have S := S.out
        go_wp2_with ((with_reducible refine (HVj _ S.below).out.mono ?_); rintro r' w' ⟨rfl, hb⟩; replace S := S.call hb; dsimp only [visI])
        exact rt S ⟨by rw [HE.out], S.below⟩
      | some r =>
        rw [hq] at HVj HE hVj
        have hr := hVj r rfl
        have HE : Hid (R = vptrs V (k - (j + 1)) (a + (j + 1)) r) := HE
        clear hVj hq
        have S := S.out
        go_wp2_with ((with_reducible refine (HVj _ S.below).out.mono ?_); rintro r' w' ⟨rfl, hb⟩; replace S := S.call hb; dsimp only [visI])
        go_roundw
        case rel => exact ⟨j + 1, r, by omega, hr, by go_num, rfl, HE, Lib.hid S⟩
        case measure => simp [intOf]; omega
    · obtain rfl : j = k := by omega
      rw [Nat.sub_self] at HE
      have HE : Hid (R = some e) := HE
      go_wp2
      exact rt S.out ⟨by rw [HE.out], S.out.below⟩
end Go.Proofs.YtidglmocekghmaaDoor.Pr
end
section
namespace Go.Proofs.YtidglmocekghmaaDoor.Pr
open Go.RowKit Go.Proofs.YtidglmocekghmaaDoorW.PrintWords Go.Proofs.YtidglmocekghmaaDoorW.PrintLast Go.Proofs.YtidglmocekghmaaDoorW.PrintMore
set_option linter.unusedVariables false
set_option linter.unusedSimpArgs false
theorem anyM_snoc (s : List Int) (size : Nat) : ∀ k a : Nat, anyM s size (k + 1) a = (anyM s size k a || decide (wd s (a + k * size) ≠ 0))
  | 0, a => by simp [anyM]
  | k + 1, a => by
    rw [anyM, anyM_snoc s size k (a + size), anyM, Bool.or_assoc]
    congr 3
    rw [Nat.add_mul, Nat.one_mul]
    congr 2
    omega
theorem velems_step {V : Nat → Nat → Option Nat} {p sz k j a e : Nat} (h : j < k) : velems V p sz (k - j) (a + j * sz) e = match vptrs V p (a + j * sz) e with
    | none => none
    | some r => velems V p sz (k - (j + 1)) (a + (j + 1) * sz) r := by
  obtain ⟨q, hq⟩ : ∃ q, k - j = q + 1 := ⟨k - j - 1, by omega⟩
  rw [show k - (j + 1) = q by omega, hq, velems, Nat.add_assoc, Nat.add_mul, Nat.one_mul]
  cases vptrs V p (a + j * sz) e <;> rfl
theorem velems_zero (V : Nat → Nat → Option Nat) (sz : Nat) : ∀ k a e : Nat, velems V 0 sz k a e = some e
  | 0, _, _ => rfl
  | k + 1, a, e => by rw [velems, vptrs]; exact velems_zero V sz k _ _
theorem wl0 {P : Program} {ops : Array Oper} {rest : List Oper} {o : Oper} {a : Act} {Q : Exit → Act → World → Prop} {W : World} (_ : o.guard = none) (h : wpList P ops Q (o :: rest) a W) : wpList P ops Q (o :: rest) a W := h
abbrev ObS (ad : Addr) (n cp a : Nat) (w : World) (o : Ob) : Prop := ∀ g w', Below w.heap.size w w' → w'.heap[g]? = some (.cells #[.slice (some ad) n cp] 22 (0, 0)) → Hid (Calls Tryd.prog 40 #[.slice (some ⟨g, 0, none⟩) 1 1, .int .i64 0, .int .i64 a] w' fun r w1 => r = .returned (.tuple #[obV o, .int .i64 0]) ∧ Below w'.heap.size w' w1)
set_option maxRecDepth 100000 in
set_option maxHeartbeats 4000000 in
theorem vis_12n_00 (ad : Addr) (n cp nx a : Nat) (w : World) (x : Int) (c m k : Nat) (hv : AtS w ad a x) (ha : a < n) (hn : n ≤ 17592186040320) (hx0 : 0 ≤ x) (hx1 : x < 18446744073709551616) (hnx : nx ≤ n) (hncp : n ≤ cp) (hx : x ≠ 0) (hk : kindW x = 1) (hc0 : cntW x = c) (hw : wordsE (elemW x) c = m) (hst : (a : Int) + 1 + offW x = nx) (hin : nx + m ≤ n) (he7 : elemW x = 7) (hmc : m = c + 1) (hkb : k ≤ 536870911) (cost : Int) (HOb : ObS ad n cp a w ⟨2, 0, (nx : Int) + 1, 0, 0, 7, k, cost⟩) (r : Int) (hne : (0 : Int) ≠ c) (HR : Hid (r = -1)) : Vi ad n cp nx a w r := by
  have S := Sep.start w
  have D1 := fun w => Lib.hid (rdec_lit x w hx0 hx1)
  clear hx0 hx1
  have tx : (x == 0) = false := beq_eq_false_iff_ne.2 hx
  clear hx
  have hpo := offW_bd x
  have ho : pO x = offW x := by unfold pO; rw [if_pos (by omega)]
  have hd : pD x = 0 := by unfold pD; rw [if_neg (by omega)]
  have hp : pP x = 0 := by unfold pP; rw [if_neg (by omega)]
  have he : pE x = elemW x := by unfold pE; rw [if_pos hk]
  have hc : pC x = c := by unfold pC; rw [if_pos hk, hc0]
  have heb := elemW_bd x
  have hcb := (cntW_bd x).2
  rw [hc0] at hcb
  rw [ho, hd, hp, he, hc, hk] at D1
  have HM := fun w => Lib.hid (words_any6 (elemW x) c w (by omega) (by omega))
  obtain ⟨hm0, hm1⟩ := wordsE_bd (elemW x) c (by omega) hcb
  rw [hw] at HM hm0 hm1
  clear hk hc0 ho hd hp he hc hw
  generalize elemW x = e at *
  generalize pB x = pb at *
  generalize pF x = pf at *
  generalize pS x = ps at *
  generalize pL x = pl at *
  generalize offW x = o at *
  have ts : ((a : Int) + 1 + o != nx) = false := bne_eq_false_iff_eq.2 hst
  have te6 : (e == 6) = false := beq_eq_false_iff_ne.2 (by omega)
  have te : decide (e < 6) = false := decide_eq_false (by omega)
  clear he7
  have tq : ((0 : Int) != c) = true := bne_iff_ne.2 hne
  clear hne
  go_enter Tryd.func22, Tryd.ntmps22
  go_wp2_with (first | go_skip | ((with_reducible refine wl ?_); first | (refine sn S (fun g w1 S => ?_); first | ((fail_if_success (have := g8)); revert g; intro g8 S) | ((fail_if_success (have := g15)); revert g; intro g15 S) | skip) | refine ss S (fun w1 S => ?_) | refine sl S ?_ | refine sa S ?_) | ((with_reducible refine (D1 _).out.mono ?_); rintro r w' ⟨rfl, hb⟩; replace S := S.call hb) | ((with_reducible refine (HM _).out.mono ?_); rintro r' w' ⟨rfl, rfl⟩) | ((with_reducible refine (HOb _ _ (S.new _ _).below ((S.new _ _).blk .here)).out.mono ?_); rintro r' w' ⟨rfl, hb⟩; replace S := ((S.new _ _).call hb).tail))
  exact rt S ⟨by rw [HR.out], S.below⟩
set_option maxRecDepth 100000 in
set_option maxHeartbeats 4000000 in
theorem vis_12n_10 (ad : Addr) (n cp nx a : Nat) (w : World) (x : Int) (c m d k : Nat) (hv : AtS w ad a x) (ha : a < n) (hn : n ≤ 17592186040320) (hx0 : 0 ≤ x) (hx1 : x < 18446744073709551616) (hnx : nx ≤ n) (hncp : n ≤ cp) (hx : x ≠ 0) (hk : kindW x = 1) (hc0 : cntW x = c) (hw : wordsE (elemW x) c = m) (hst : (a : Int) + 1 + offW x = nx) (hin : nx + m ≤ n) (he7 : elemW x = 7) (hmc : m = c + 1) (hd0 : 0 < d) (hd1 : d ≤ 65535) (hkb : k ≤ 536870911) (cost : Int) (HOb : ObS ad n cp a w ⟨2, 0, (nx : Int) + 1, (d : Int), 0, 7, k, cost⟩) (Q : Nat) (hQ : (k : Int) * (d : Int) = Q) (r : Int) (hQb : Q ≤ 536870911) (hne : (Q : Int) ≠ c) (HR : Hid (r = -1)) : Vi ad n cp nx a w r := by
  have S := Sep.start w
  have D1 := fun w => Lib.hid (rdec_lit x w hx0 hx1)
  clear hx0 hx1
  have tx : (x == 0) = false := beq_eq_false_iff_ne.2 hx
  clear hx
  have hpo := offW_bd x
  have ho : pO x = offW x := by unfold pO; rw [if_pos (by omega)]
  have hd : pD x = 0 := by unfold pD; rw [if_neg (by omega)]
  have hp : pP x = 0 := by unfold pP; rw [if_neg (by omega)]
  have he : pE x = elemW x := by unfold pE; rw [if_pos hk]
  have hc : pC x = c := by unfold pC; rw [if_pos hk, hc0]
  have heb := elemW_bd x
  have hcb := (cntW_bd x).2
  rw [hc0] at hcb
  rw [ho, hd, hp, he, hc, hk] at D1
  have HM := fun w => Lib.hid (words_any6 (elemW x) c w (by omega) (by omega))
  obtain ⟨hm0, hm1⟩ := wordsE_bd (elemW x) c (by omega) hcb
  rw [hw] at HM hm0 hm1
  clear hk hc0 ho hd hp he hc hw
  generalize elemW x = e at *
  generalize pB x = pb at *
  generalize pF x = pf at *
  generalize pS x = ps at *
  generalize pL x = pl at *
  generalize offW x = o at *
  have ts : ((a : Int) + 1 + o != nx) = false := bne_eq_false_iff_eq.2 hst
  have te6 : (e == 6) = false := beq_eq_false_iff_ne.2 (by omega)
  have te : decide (e < 6) = false := decide_eq_false (by omega)
  clear he7
  have tq : ((Q : Int) != c) = true := bne_iff_ne.2 hne
  clear hne
  go_enter Tryd.func22, Tryd.ntmps22
  go_wp2_with (first | go_skip | ((with_reducible refine wl ?_); first | (refine sn S (fun g w1 S => ?_); first | ((fail_if_success (have := g8)); revert g; intro g8 S) | ((fail_if_success (have := g15)); revert g; intro g15 S) | skip) | refine ss S (fun w1 S => ?_) | refine sl S ?_ | refine sa S ?_) | ((with_reducible refine (D1 _).out.mono ?_); rintro r w' ⟨rfl, hb⟩; replace S := S.call hb) | ((with_reducible refine (HM _).out.mono ?_); rintro r' w' ⟨rfl, rfl⟩) | ((with_reducible refine (HOb _ _ (S.new _ _).below ((S.new _ _).blk .here)).out.mono ?_); rintro r' w' ⟨rfl, hb⟩; replace S := ((S.new _ _).call hb).tail))
  exact rt S ⟨by rw [HR.out], S.below⟩
set_option maxRecDepth 100000 in
set_option maxHeartbeats 4000000 in
theorem vis_12n_01 (ad : Addr) (n cp nx a : Nat) (w : World) (x : Int) (c m p k : Nat) (hv : AtS w ad a x) (ha : a < n) (hn : n ≤ 17592186040320) (hx0 : 0 ≤ x) (hx1 : x < 18446744073709551616) (hnx : nx ≤ n) (hncp : n ≤ cp) (hx : x ≠ 0) (hk : kindW x = 1) (hc0 : cntW x = c) (hw : wordsE (elemW x) c = m) (hst : (a : Int) + 1 + offW x = nx) (hin : nx + m ≤ n) (he7 : elemW x = 7) (hmc : m = c + 1) (hp0 : 0 < p) (hp1 : p ≤ 65535) (hkb : k ≤ 536870911) (cost : Int) (HOb : ObS ad n cp a w ⟨2, 0, (nx : Int) + 1, 0, (p : Int), 7, k, cost⟩) (Q : Nat) (hQ : (k : Int) * (p : Int) = Q) (r : Int) (hQb : Q ≤ 536870911) (hne : (Q : Int) ≠ c) (HR : Hid (r = -1)) : Vi ad n cp nx a w r := by
  have S := Sep.start w
  have D1 := fun w => Lib.hid (rdec_lit x w hx0 hx1)
  clear hx0 hx1
  have tx : (x == 0) = false := beq_eq_false_iff_ne.2 hx
  clear hx
  have hpo := offW_bd x
  have ho : pO x = offW x := by unfold pO; rw [if_pos (by omega)]
  have hd : pD x = 0 := by unfold pD; rw [if_neg (by omega)]
  have hp : pP x = 0 := by unfold pP; rw [if_neg (by omega)]
  have he : pE x = elemW x := by unfold pE; rw [if_pos hk]
  have hc : pC x = c := by unfold pC; rw [if_pos hk, hc0]
  have heb := elemW_bd x
  have hcb := (cntW_bd x).2
  rw [hc0] at hcb
  rw [ho, hd, hp, he, hc, hk] at D1
  have HM := fun w => Lib.hid (words_any6 (elemW x) c w (by omega) (by omega))
  obtain ⟨hm0, hm1⟩ := wordsE_bd (elemW x) c (by omega) hcb
  rw [hw] at HM hm0 hm1
  clear hk hc0 ho hd hp he hc hw
  generalize elemW x = e at *
  generalize pB x = pb at *
  generalize pF x = pf at *
  generalize pS x = ps at *
  generalize pL x = pl at *
  generalize offW x = o at *
  have ts : ((a : Int) + 1 + o != nx) = false := bne_eq_false_iff_eq.2 hst
  have te6 : (e == 6) = false := beq_eq_false_iff_ne.2 (by omega)
  have te : decide (e < 6) = false := decide_eq_false (by omega)
  clear he7
  have tq : ((Q : Int) != c) = true := bne_iff_ne.2 hne
  clear hne
  go_enter Tryd.func22, Tryd.ntmps22
  go_wp2_with (first | go_skip | ((with_reducible refine wl ?_); first | (refine sn S (fun g w1 S => ?_); first | ((fail_if_success (have := g8)); revert g; intro g8 S) | ((fail_if_success (have := g15)); revert g; intro g15 S) | skip) | refine ss S (fun w1 S => ?_) | refine sl S ?_ | refine sa S ?_) | ((with_reducible refine (D1 _).out.mono ?_); rintro r w' ⟨rfl, hb⟩; replace S := S.call hb) | ((with_reducible refine (HM _).out.mono ?_); rintro r' w' ⟨rfl, rfl⟩) | ((with_reducible refine (HOb _ _ (S.new _ _).below ((S.new _ _).blk .here)).out.mono ?_); rintro r' w' ⟨rfl, hb⟩; replace S := ((S.new _ _).call hb).tail))
  exact rt S ⟨by rw [HR.out], S.below⟩
set_option maxRecDepth 100000 in
set_option maxHeartbeats 4000000 in
theorem vis_12n_11 (ad : Addr) (n cp nx a : Nat) (w : World) (x : Int) (c m d p k : Nat) (hv : AtS w ad a x) (ha : a < n) (hn : n ≤ 17592186040320) (hx0 : 0 ≤ x) (hx1 : x < 18446744073709551616) (hnx : nx ≤ n) (hncp : n ≤ cp) (hx : x ≠ 0) (hk : kindW x = 1) (hc0 : cntW x = c) (hw : wordsE (elemW x) c = m) (hst : (a : Int) + 1 + offW x = nx) (hin : nx + m ≤ n) (he7 : elemW x = 7) (hmc : m = c + 1) (hd0 : 0 < d) (hd1 : d ≤ 65535) (hp0 : 0 < p) (hp1 : p ≤ 65535) (hkb : k ≤ 536870911) (cost : Int) (HOb : ObS ad n cp a w ⟨2, 0, (nx : Int) + 1, (d : Int), (p : Int), 7, k, cost⟩) (Q : Nat) (hQ : (k : Int) * ((d : Int) + p) = Q) (r : Int) (hQb : Q ≤ 536870911) (hne : (Q : Int) ≠ c) (HR : Hid (r = -1)) : Vi ad n cp nx a w r := by
  have S := Sep.start w
  have D1 := fun w => Lib.hid (rdec_lit x w hx0 hx1)
  clear hx0 hx1
  have tx : (x == 0) = false := beq_eq_false_iff_ne.2 hx
  clear hx
  have hpo := offW_bd x
  have ho : pO x = offW x := by unfold pO; rw [if_pos (by omega)]
  have hd : pD x = 0 := by unfold pD; rw [if_neg (by omega)]
  have hp : pP x = 0 := by unfold pP; rw [if_neg (by omega)]
  have he : pE x = elemW x := by unfold pE; rw [if_pos hk]
  have hc : pC x = c := by unfold pC; rw [if_pos hk, hc0]
  have heb := elemW_bd x
  have hcb := (cntW_bd x).2
  rw [hc0] at hcb
  rw [ho, hd, hp, he, hc, hk] at D1
  have HM := fun w => Lib.hid (words_any6 (elemW x) c w (by omega) (by omega))
  obtain ⟨hm0, hm1⟩ := wordsE_bd (elemW x) c (by omega) hcb
  rw [hw] at HM hm0 hm1
  clear hk hc0 ho hd hp he hc hw
  generalize elemW x = e at *
  generalize pB x = pb at *
  generalize pF x = pf at *
  generalize pS x = ps at *
  generalize pL x = pl at *
  generalize offW x = o at *
  have ts : ((a : Int) + 1 + o != nx) = false := bne_eq_false_iff_eq.2 hst
  have te6 : (e == 6) = false := beq_eq_false_iff_ne.2 (by omega)
  have te : decide (e < 6) = false := decide_eq_false (by omega)
  clear he7
  have tq : ((Q : Int) != c) = true := bne_iff_ne.2 hne
  clear hne
  go_enter Tryd.func22, Tryd.ntmps22
  go_wp2_with (first | go_skip | ((with_reducible refine wl ?_); first | (refine sn S (fun g w1 S => ?_); first | ((fail_if_success (have := g8)); revert g; intro g8 S) | ((fail_if_success (have := g15)); revert g; intro g15 S) | skip) | refine ss S (fun w1 S => ?_) | refine sl S ?_ | refine sa S ?_) | ((with_reducible refine (D1 _).out.mono ?_); rintro r w' ⟨rfl, hb⟩; replace S := S.call hb) | ((with_reducible refine (HM _).out.mono ?_); rintro r' w' ⟨rfl, rfl⟩) | ((with_reducible refine (HOb _ _ (S.new _ _).below ((S.new _ _).blk .here)).out.mono ?_); rintro r' w' ⟨rfl, hb⟩; replace S := ((S.new _ _).call hb).tail))
  exact rt S ⟨by rw [HR.out], S.below⟩
end Go.Proofs.YtidglmocekghmaaDoor.Pr
end
section
namespace Go.Proofs.YtidglmocekghmaaDoor.Pr
open Go.RowKit Go.Proofs.YtidglmocekghmaaDoorW.PrintWords Go.Proofs.YtidglmocekghmaaDoorW.PrintLast Go.Proofs.YtidglmocekghmaaDoorW.PrintMore
set_option linter.unusedVariables false
set_option linter.unusedSimpArgs false
set_option maxRecDepth 100000 in
set_option maxHeartbeats 4000000 in
theorem vis_12_00 (ad : Addr) (n cp nx a : Nat) (w : World) (x : Int) (c m k : Nat) (hv : AtS w ad a x) (ha : a < n) (hn : n ≤ 17592186040320) (hx0 : 0 ≤ x) (hx1 : x < 18446744073709551616) (hnx : nx ≤ n) (hncp : n ≤ cp) (hx : x ≠ 0) (hk : kindW x = 1) (hc0 : cntW x = c) (hw : wordsE (elemW x) c = m) (hst : (a : Int) + 1 + offW x = nx) (hin : nx + m ≤ n) (he7 : elemW x = 7) (hmc : m = c + 1) (hkb : k ≤ 536870911) (cost : Int) (HOb : ObS ad n cp a w ⟨2, 0, (nx : Int) + 1, 0, 0, 7, k, cost⟩) (s : List Int) (HA : ∀ i, i < n → AtS w ad i (wd s i)) (V : Nat → Nat → Option Nat) (hQN : k * (0 + 0) = c) (hcb0 : c ≤ 536870911) (r : Int) (HR : Hid (r = visI (if (true && true) = true then velems V 0 (0 + 0) k (nx + 1 + 0) (nx + m) else none))) : Vi ad n cp nx a w r := by
  have S := Sep.start w
  have D1 := fun w => Lib.hid (rdec_lit x w hx0 hx1)
  clear hx0 hx1
  have tx : (x == 0) = false := beq_eq_false_iff_ne.2 hx
  clear hx
  have hpo := offW_bd x
  have ho : pO x = offW x := by unfold pO; rw [if_pos (by omega)]
  have hd : pD x = 0 := by unfold pD; rw [if_neg (by omega)]
  have hp : pP x = 0 := by unfold pP; rw [if_neg (by omega)]
  have he : pE x = elemW x := by unfold pE; rw [if_pos hk]
  have hc : pC x = c := by unfold pC; rw [if_pos hk, hc0]
  have heb := elemW_bd x
  have hcb := (cntW_bd x).2
  rw [hc0] at hcb
  rw [ho, hd, hp, he, hc, hk] at D1
  have HM := fun w => Lib.hid (words_any6 (elemW x) c w (by omega) (by omega))
  obtain ⟨hm0, hm1⟩ := wordsE_bd (elemW x) c (by omega) hcb
  rw [hw] at HM hm0 hm1
  clear hk hc0 ho hd hp he hc hw
  generalize elemW x = e at *
  generalize pB x = pb at *
  generalize pF x = pf at *
  generalize pS x = ps at *
  generalize pL x = pl at *
  generalize offW x = o at *
  have ts : ((a : Int) + 1 + o != nx) = false := bne_eq_false_iff_eq.2 hst
  have te6 : (e == 6) = false := beq_eq_false_iff_ne.2 (by omega)
  have te : decide (e < 6) = false := decide_eq_false (by omega)
  clear he7
  have HA := Lib.hid HA
  have tq : ((0 : Int) != c) = false := bne_eq_false_iff_eq.2 (by omega)
  go_enter Tryd.func22, Tryd.ntmps22
  go_wp2_with (first | go_skip | ((with_reducible refine wl ?_); first | (refine sn S (fun g w1 S => ?_); first | ((fail_if_success (have := g8)); revert g; intro g8 S) | ((fail_if_success (have := g15)); revert g; intro g15 S) | skip) | refine ss S (fun w1 S => ?_) | refine sl S ?_ | refine sa S ?_) | ((with_reducible refine (D1 _).out.mono ?_); rintro r w' ⟨rfl, hb⟩; replace S := S.call hb) | ((with_reducible refine (HM _).out.mono ?_); rintro r' w' ⟨rfl, rfl⟩) | ((with_reducible refine (HOb _ _ (S.new _ _).below ((S.new _ _).blk .here)).out.mono ?_); rintro r' w' ⟨rfl, hb⟩; replace S := ((S.new _ _).call hb).tail))
  simp only [List.getElem_toArray, List.getElem_cons_zero, List.getElem_cons_succ]
  have S := Lib.hid S
  go_loopw [17, 18, 19] (fun b1 b2 v wr => v = .int .i64 0 ∧ b1 = .bool true ∧ b2 = .bool true ∧ Hid (Sep w wr [.box g15 #[.int .i64 2, .int .i64 0, .int .i64 ((nx : Int) + 1), .int .i64 0, .int .i64 0, .int .i64 7, .int .i64 k, .int .i64 cost] 75, .box g8 #[.int .i64 1, .int .i64 o, .int .i64 0, .int .i64 0, .int .i64 e, .int .i64 c, .bool pb, .int .i64 pf, .int .u32 ps, .int .u32 pl] 67])) (fun _ _ _ _ => 0)
  case atStart => exact ⟨rfl, rfl, rfl, S⟩
  case round =>
    clear S
    obtain ⟨rfl, rfl, rfl, S⟩ := hrel
    by_cases h0k : (0 : Int) < (k : Int)
    · have HR : Hid (r = (nx : Int) + m) := Lib.hid (HR.out.trans (by rw [if_pos (by simp), velems_zero]; simp [visI]))
      have S := S.out
      go_wp2_with (first | go_skip | ((with_reducible refine wl ?_); first | refine sn S (fun g w1 S => ?_) | refine ss S (fun w1 S => ?_) | refine sl S ?_ | refine sa S ?_))
      have S := Lib.hid S
      try simp only [List.getElem_toArray, List.getElem_cons_zero, List.getElem_cons_succ]
      go_loopw [11, 21] (fun ev v wr => v = .int .i64 0 ∧ ev = .int .i64 r ∧ Hid (Sep w wr [.box g15 #[.int .i64 2, .int .i64 0, .int .i64 ((nx : Int) + 1), .int .i64 0, .int .i64 0, .int .i64 7, .int .i64 k, .int .i64 cost] 75, .box g8 #[.int .i64 1, .int .i64 o, .int .i64 0, .int .i64 0, .int .i64 e, .int .i64 c, .bool pb, .int .i64 pf, .int .u32 ps, .int .u32 pl] 67])) (fun _ _ _ => 0)
      case atStart => exact ⟨rfl, by rw [HR.out]; simp [hmc], S⟩
      case round =>
        clear S
        obtain ⟨rfl, rfl, S⟩ := hrel
        have S := S.out
        go_wp2_with (first | go_skip | ((with_reducible refine wl ?_); first | refine sn S (fun g w1 S => ?_) | refine ss S (fun w1 S => ?_) | refine sl S ?_ | refine sa S ?_))
        exact rt S ⟨rfl, S.below⟩
    · have HR : Hid (r = (nx : Int) + m) := Lib.hid (HR.out.trans (by rw [if_pos (by simp), velems_zero]; simp [visI]))
      have S := S.out
      go_wp2_with (first | go_skip | ((with_reducible refine wl0 rfl ?_); first | refine sn S (fun g w1 S => ?_) | refine ss S (fun w1 S => ?_) | refine sl S ?_ | refine sa S ?_))
      have S := Lib.hid S
      try simp only [List.getElem_toArray, List.getElem_cons_zero, List.getElem_cons_succ]
      go_loopw [11, 21] (fun ev v wr => v = .int .i64 0 ∧ ev = .int .i64 r ∧ Hid (Sep w wr [.box g15 #[.int .i64 2, .int .i64 0, .int .i64 ((nx : Int) + 1), .int .i64 0, .int .i64 0, .int .i64 7, .int .i64 k, .int .i64 cost] 75, .box g8 #[.int .i64 1, .int .i64 o, .int .i64 0, .int .i64 0, .int .i64 e, .int .i64 c, .bool pb, .int .i64 pf, .int .u32 ps, .int .u32 pl] 67])) (fun _ _ _ => 0)
      case atStart => exact ⟨rfl, by rw [HR.out]; simp [hmc], S⟩
      case round =>
        clear S
        obtain ⟨rfl, rfl, S⟩ := hrel
        have S := S.out
        go_wp2_with (first | go_skip | ((with_reducible refine wl0 rfl ?_); first | refine sn S (fun g w1 S => ?_) | refine ss S (fun w1 S => ?_) | refine sl S ?_ | refine sa S ?_))
        exact rt S ⟨rfl, S.below⟩
set_option maxRecDepth 100000 in
set_option maxHeartbeats 4000000 in
theorem vis_12_10 (ad : Addr) (n cp nx a : Nat) (w : World) (x : Int) (c m d k : Nat) (hv : AtS w ad a x) (ha : a < n) (hn : n ≤ 17592186040320) (hx0 : 0 ≤ x) (hx1 : x < 18446744073709551616) (hnx : nx ≤ n) (hncp : n ≤ cp) (hx : x ≠ 0) (hk : kindW x = 1) (hc0 : cntW x = c) (hw : wordsE (elemW x) c = m) (hst : (a : Int) + 1 + offW x = nx) (hin : nx + m ≤ n) (he7 : elemW x = 7) (hmc : m = c + 1) (hd0 : 0 < d) (hd1 : d ≤ 65535) (hkb : k ≤ 536870911) (cost : Int) (HOb : ObS ad n cp a w ⟨2, 0, (nx : Int) + 1, (d : Int), 0, 7, k, cost⟩) (s : List Int) (HA : ∀ i, i < n → AtS w ad i (wd s i)) (V : Nat → Nat → Option Nat) (hQN : k * (d + 0) = c) (hcb0 : c ≤ 536870911) (r : Int) (HR : Hid (r = visI (if ((anyM s (d + 0) k (nx + 1 + d - 1)) && true) = true then velems V 0 (d + 0) k (nx + 1 + d) (nx + m) else none))) : Vi ad n cp nx a w r := by
  have S := Sep.start w
  have D1 := fun w => Lib.hid (rdec_lit x w hx0 hx1)
  clear hx0 hx1
  have tx : (x == 0) = false := beq_eq_false_iff_ne.2 hx
  clear hx
  have hpo := offW_bd x
  have ho : pO x = offW x := by unfold pO; rw [if_pos (by omega)]
  have hd : pD x = 0 := by unfold pD; rw [if_neg (by omega)]
  have hp : pP x = 0 := by unfold pP; rw [if_neg (by omega)]
  have he : pE x = elemW x := by unfold pE; rw [if_pos hk]
  have hc : pC x = c := by unfold pC; rw [if_pos hk, hc0]
  have heb := elemW_bd x
  have hcb := (cntW_bd x).2
  rw [hc0] at hcb
  rw [ho, hd, hp, he, hc, hk] at D1
  have HM := fun w => Lib.hid (words_any6 (elemW x) c w (by omega) (by omega))
  obtain ⟨hm0, hm1⟩ := wordsE_bd (elemW x) c (by omega) hcb
  rw [hw] at HM hm0 hm1
  clear hk hc0 ho hd hp he hc hw
  generalize elemW x = e at *
  generalize pB x = pb at *
  generalize pF x = pf at *
  generalize pS x = ps at *
  generalize pL x = pl at *
  generalize offW x = o at *
  have ts : ((a : Int) + 1 + o != nx) = false := bne_eq_false_iff_eq.2 hst
  have te6 : (e == 6) = false := beq_eq_false_iff_ne.2 (by omega)
  have te : decide (e < 6) = false := decide_eq_false (by omega)
  clear he7
  have HA := Lib.hid HA
  have hQ : (k : Int) * (d : Int) = c := by rw [← hQN]; simp
  have HEL := fun (j : Nat) (hj : j < k) w' => Lib.hid (show Calls Tryd.prog 41 #[obV ⟨2, 0, (nx : Int) + 1, (d : Int), 0, 7, k, cost⟩, .int .i64 j] w' (fun e w1 => e = .returned (obV ⟨1, 0, (nx : Int) + 1 + (j * (d + 0) : Nat), (d : Int), 0, 0, 0, 0⟩) ∧ Below w'.heap.size w' w1) from (el_any ⟨2, 0, (nx : Int) + 1, (d : Int), 0, 7, k, cost⟩ j w' (by omega) (by omega) (by dsimp only; omega) (by dsimp only; omega) (by dsimp only; omega) (by dsimp only; omega) (by dsimp only; omega) (by dsimp only; omega)).mono (fun e w1 h => by rw [h.1]; unfold elG; exact ⟨by simp, h.2⟩))
  have td0 : ((d : Int) == 0) = false := beq_eq_false_iff_ne.2 (by omega)
  have tdp : decide ((d : Int) > 0) = true := decide_eq_true (by omega)
  go_enter Tryd.func22, Tryd.ntmps22
  go_wp2_with (first | go_skip | ((with_reducible refine wl ?_); first | (refine sn S (fun g w1 S => ?_); first | ((fail_if_success (have := g8)); revert g; intro g8 S) | ((fail_if_success (have := g15)); revert g; intro g15 S) | skip) | refine ss S (fun w1 S => ?_) | refine sl S ?_ | refine sa S ?_) | ((with_reducible refine (D1 _).out.mono ?_); rintro r w' ⟨rfl, hb⟩; replace S := S.call hb) | ((with_reducible refine (HM _).out.mono ?_); rintro r' w' ⟨rfl, rfl⟩) | ((with_reducible refine (HOb _ _ (S.new _ _).below ((S.new _ _).blk .here)).out.mono ?_); rintro r' w' ⟨rfl, hb⟩; replace S := ((S.new _ _).call hb).tail))
  simp only [List.getElem_toArray, List.getElem_cons_zero, List.getElem_cons_succ]
  have S := Lib.hid S
  go_loopw [17, 18, 19] (fun b1 b2 v wr => ∃ j : Nat, j ≤ k ∧ v = .int .i64 j ∧ b1 = .bool (anyM s (d + 0) j (nx + 1 + d - 1)) ∧ b2 = .bool true ∧ Hid (Sep w wr [.box g15 #[.int .i64 2, .int .i64 0, .int .i64 ((nx : Int) + 1), .int .i64 (d : Int), .int .i64 0, .int .i64 7, .int .i64 k, .int .i64 cost] 75, .box g8 #[.int .i64 1, .int .i64 o, .int .i64 0, .int .i64 0, .int .i64 e, .int .i64 c, .bool pb, .int .i64 pf, .int .u32 ps, .int .u32 pl] 67])) (fun _ _ v _ => k - (intOf v).toNat)
  case atStart => exact ⟨0, Nat.zero_le _, rfl, rfl, rfl, S⟩
  case round =>
    clear S
    obtain ⟨j, hj, rfl, rfl, rfl, S⟩ := hrel
    by_cases hjk : j < k
    · have hjI : (j : Int) < (k : Int) := by omega
      have HEj := HEL j hjk
      have hqb : j * (d + 0) + (d + 0) ≤ c := by have := Nat.mul_le_mul_right (d + 0) (show j + 1 ≤ k by omega); rw [Nat.add_mul, Nat.one_mul, hQN] at this; omega
      have hF1 := anyM_snoc s (d + 0) j (nx + 1 + d - 1)
      generalize j * (d + 0) = q at *
      rw [show nx + 1 + d - 1 + q = nx + 1 + q + d - 1 by omega] at hF1
      have hy := HA.out (nx + 1 + q + d - 1) (by omega)
      generalize wd s (nx + 1 + q + d - 1) = y at *
      generalize (anyM s (d + 0) j (nx + 1 + d - 1)) = f1 at *
      have S := S.out
      clear hQN HR
      by_cases hy0 : y = 0
      · subst hy0
        have hG1 : Hid ((anyM s (d + 0) (j + 1) (nx + 1 + d - 1)) = f1) := Lib.hid (hF1.trans (by simp))
        clear hF1
        go_wp2_with (first | go_skip | ((with_reducible refine wl ?_); first | refine sn S (fun g w1 S => ?_) | refine ss S (fun w1 S => ?_) | refine sl S ?_ | refine sa S ?_ | refine sx S hy ?_) | ((with_reducible refine (HEj _).out.mono ?_); rintro r' w' ⟨rfl, hb⟩; replace S := S.call hb))
        go_roundw
        case rel => exact ⟨j + 1, by omega, by go_num, by rw [hG1.out], rfl, Lib.hid S.tail⟩
        case measure => simp [intOf]; omega
      · have ty0 : (y != 0) = true := bne_iff_ne.2 hy0
        have hG1 : Hid ((anyM s (d + 0) (j + 1) (nx + 1 + d - 1)) = true) := Lib.hid (hF1.trans (by simp [hy0]))
        clear hF1 hy0
        go_wp2_with (first | go_skip | ((with_reducible refine wl ?_); first | refine sn S (fun g w1 S => ?_) | refine ss S (fun w1 S => ?_) | refine sl S ?_ | refine sa S ?_ | refine sx S hy ?_) | ((with_reducible refine (HEj _).out.mono ?_); rintro r' w' ⟨rfl, hb⟩; replace S := S.call hb))
        go_roundw
        case rel => exact ⟨j + 1, by omega, by go_num, by rw [hG1.out], rfl, Lib.hid S.tail⟩
        case measure => simp [intOf]; omega
    · obtain rfl : k = j := by omega
      have hkk : decide ((k : Int) < (k : Int)) = false := decide_eq_false (by omega)
      have hkn : decide (k < k) = false := decide_eq_false (by omega)
      generalize (anyM s (d + 0) k (nx + 1 + d - 1)) = f1 at *
      cases f1 with
      | false =>
        have HR : Hid (r = -1) := Lib.hid (HR.out.trans (by simp [visI]))
        have S := S.out
        go_wp2_with (first | go_skip | ((with_reducible refine wl0 rfl ?_); first | refine sn S (fun g w1 S => ?_) | refine ss S (fun w1 S => ?_) | refine sl S ?_ | refine sa S ?_))
        exact rt S ⟨by rw [HR.out], S.below⟩
      | true =>
        have HR : Hid (r = (nx : Int) + m) := Lib.hid (HR.out.trans (by rw [if_pos (by simp), velems_zero]; simp [visI]))
        have S := S.out
        go_wp2_with (first | go_skip | ((with_reducible refine wl0 rfl ?_); first | refine sn S (fun g w1 S => ?_) | refine ss S (fun w1 S => ?_) | refine sl S ?_ | refine sa S ?_))
        have S := Lib.hid S
        try simp only [List.getElem_toArray, List.getElem_cons_zero, List.getElem_cons_succ]
        go_loopw [11, 21] (fun ev v wr => v = .int .i64 0 ∧ ev = .int .i64 r ∧ Hid (Sep w wr [.box g15 #[.int .i64 2, .int .i64 0, .int .i64 ((nx : Int) + 1), .int .i64 (d : Int), .int .i64 0, .int .i64 7, .int .i64 k, .int .i64 cost] 75, .box g8 #[.int .i64 1, .int .i64 o, .int .i64 0, .int .i64 0, .int .i64 e, .int .i64 c, .bool pb, .int .i64 pf, .int .u32 ps, .int .u32 pl] 67])) (fun _ _ _ => 0)
        case atStart => exact ⟨rfl, by rw [HR.out]; simp [hmc], S⟩
        case round =>
          clear S
          obtain ⟨rfl, rfl, S⟩ := hrel
          have S := S.out
          by_cases h0k : (0 : Int) < (k : Int)
          · go_wp2_with (first | go_skip | ((with_reducible refine wl ?_); first | refine sn S (fun g w1 S => ?_) | refine ss S (fun w1 S => ?_) | refine sl S ?_ | refine sa S ?_))
            exact rt S ⟨rfl, S.below⟩
          · go_wp2_with (first | go_skip | ((with_reducible refine wl0 rfl ?_); first | refine sn S (fun g w1 S => ?_) | refine ss S (fun w1 S => ?_) | refine sl S ?_ | refine sa S ?_))
            exact rt S ⟨rfl, S.below⟩
end Go.Proofs.YtidglmocekghmaaDoor.Pr
end
section
namespace Go.Proofs.YtidglmocekghmaaDoor.Pr
open Go.RowKit Go.Proofs.YtidglmocekghmaaDoorW.PrintWords Go.Proofs.YtidglmocekghmaaDoorW.PrintLast Go.Proofs.YtidglmocekghmaaDoorW.PrintMore
set_option linter.unusedVariables false
set_option linter.unusedSimpArgs false
set_option maxRecDepth 100000 in
set_option maxHeartbeats 4000000 in
theorem vis_12_01 (ad : Addr) (n cp nx a : Nat) (w : World) (x : Int) (c m p k : Nat) (hv : AtS w ad a x) (ha : a < n) (hn : n ≤ 17592186040320) (hx0 : 0 ≤ x) (hx1 : x < 18446744073709551616) (hnx : nx ≤ n) (hncp : n ≤ cp) (hx : x ≠ 0) (hk : kindW x = 1) (hc0 : cntW x = c) (hw : wordsE (elemW x) c = m) (hst : (a : Int) + 1 + offW x = nx) (hin : nx + m ≤ n) (he7 : elemW x = 7) (hmc : m = c + 1) (hp0 : 0 < p) (hp1 : p ≤ 65535) (hkb : k ≤ 536870911) (cost : Int) (HOb : ObS ad n cp a w ⟨2, 0, (nx : Int) + 1, 0, (p : Int), 7, k, cost⟩) (s : List Int) (HA : ∀ i, i < n → AtS w ad i (wd s i)) (V : Nat → Nat → Option Nat) (hQN : k * (0 + p) = c) (hcb0 : c ≤ 536870911) (hV : ∀ j, j < k → ∀ e, e ≤ n → ∀ r, vptrs V p ((nx + 1 + 0) + j * (0 + p)) e = some r → r ≤ n) (HVS : ∀ j, j < k → ∀ e : Nat, e ≤ n → ∀ w', Below w.heap.size w w' → Hid (Calls Tryd.prog 37 #[.slice (some ad) n cp, .int .i64 e, .int .i64 ((nx : Int) + 1 + (j * (0 + p) : Nat)), .int .i64 p] w' fun r w1 => r = .returned (.int .i64 (visI (vptrs V p ((nx + 1 + 0) + j * (0 + p)) e))) ∧ Below w'.heap.size w' w1)) (r : Int) (HR : Hid (r = visI (if (true && (anyM s (0 + p) k (nx + 1 + (0 + p) - 1))) = true then velems V p (0 + p) k (nx + 1 + 0) (nx + m) else none))) : Vi ad n cp nx a w r := by
  have S := Sep.start w
  have D1 := fun w => Lib.hid (rdec_lit x w hx0 hx1)
  clear hx0 hx1
  have tx : (x == 0) = false := beq_eq_false_iff_ne.2 hx
  clear hx
  have hpo := offW_bd x
  have ho : pO x = offW x := by unfold pO; rw [if_pos (by omega)]
  have hd : pD x = 0 := by unfold pD; rw [if_neg (by omega)]
  have hp : pP x = 0 := by unfold pP; rw [if_neg (by omega)]
  have he : pE x = elemW x := by unfold pE; rw [if_pos hk]
  have hc : pC x = c := by unfold pC; rw [if_pos hk, hc0]
  have heb := elemW_bd x
  have hcb := (cntW_bd x).2
  rw [hc0] at hcb
  rw [ho, hd, hp, he, hc, hk] at D1
  have HM := fun w => Lib.hid (words_any6 (elemW x) c w (by omega) (by omega))
  obtain ⟨hm0, hm1⟩ := wordsE_bd (elemW x) c (by omega) hcb
  rw [hw] at HM hm0 hm1
  clear hk hc0 ho hd hp he hc hw
  generalize elemW x = e at *
  generalize pB x = pb at *
  generalize pF x = pf at *
  generalize pS x = ps at *
  generalize pL x = pl at *
  generalize offW x = o at *
  have ts : ((a : Int) + 1 + o != nx) = false := bne_eq_false_iff_eq.2 hst
  have te6 : (e == 6) = false := beq_eq_false_iff_ne.2 (by omega)
  have te : decide (e < 6) = false := decide_eq_false (by omega)
  clear he7
  have HA := Lib.hid HA
  have hV := Lib.hid hV
  have hQ : (k : Int) * (p : Int) = c := by rw [← hQN]; simp
  have HEL := fun (j : Nat) (hj : j < k) w' => Lib.hid (show Calls Tryd.prog 41 #[obV ⟨2, 0, (nx : Int) + 1, 0, (p : Int), 7, k, cost⟩, .int .i64 j] w' (fun e w1 => e = .returned (obV ⟨1, 0, (nx : Int) + 1 + (j * (0 + p) : Nat), 0, (p : Int), 0, 0, 0⟩) ∧ Below w'.heap.size w' w1) from (el_any ⟨2, 0, (nx : Int) + 1, 0, (p : Int), 7, k, cost⟩ j w' (by omega) (by omega) (by dsimp only; omega) (by dsimp only; omega) (by dsimp only; omega) (by dsimp only; omega) (by dsimp only; omega) (by dsimp only; omega)).mono (fun e w1 h => by rw [h.1]; unfold elG; exact ⟨by simp, h.2⟩))
  have tp0 : ((p : Int) == 0) = false := beq_eq_false_iff_ne.2 (by omega)
  have tpp : decide ((p : Int) > 0) = true := decide_eq_true (by omega)
  go_enter Tryd.func22, Tryd.ntmps22
  go_wp2_with (first | go_skip | ((with_reducible refine wl ?_); first | (refine sn S (fun g w1 S => ?_); first | ((fail_if_success (have := g8)); revert g; intro g8 S) | ((fail_if_success (have := g15)); revert g; intro g15 S) | skip) | refine ss S (fun w1 S => ?_) | refine sl S ?_ | refine sa S ?_) | ((with_reducible refine (D1 _).out.mono ?_); rintro r w' ⟨rfl, hb⟩; replace S := S.call hb) | ((with_reducible refine (HM _).out.mono ?_); rintro r' w' ⟨rfl, rfl⟩) | ((with_reducible refine (HOb _ _ (S.new _ _).below ((S.new _ _).blk .here)).out.mono ?_); rintro r' w' ⟨rfl, hb⟩; replace S := ((S.new _ _).call hb).tail))
  simp only [List.getElem_toArray, List.getElem_cons_zero, List.getElem_cons_succ]
  have S := Lib.hid S
  go_loopw [17, 18, 19] (fun b1 b2 v wr => ∃ j : Nat, j ≤ k ∧ v = .int .i64 j ∧ b1 = .bool true ∧ b2 = .bool (anyM s (0 + p) j (nx + 1 + (0 + p) - 1)) ∧ Hid (Sep w wr [.box g15 #[.int .i64 2, .int .i64 0, .int .i64 ((nx : Int) + 1), .int .i64 0, .int .i64 (p : Int), .int .i64 7, .int .i64 k, .int .i64 cost] 75, .box g8 #[.int .i64 1, .int .i64 o, .int .i64 0, .int .i64 0, .int .i64 e, .int .i64 c, .bool pb, .int .i64 pf, .int .u32 ps, .int .u32 pl] 67])) (fun _ _ v _ => k - (intOf v).toNat)
  case atStart => exact ⟨0, Nat.zero_le _, rfl, rfl, rfl, S⟩
  case round =>
    clear S
    obtain ⟨j, hj, rfl, rfl, rfl, S⟩ := hrel
    by_cases hjk : j < k
    · have hjI : (j : Int) < (k : Int) := by omega
      have HEj := HEL j hjk
      have hqb : j * (0 + p) + (0 + p) ≤ c := by have := Nat.mul_le_mul_right (0 + p) (show j + 1 ≤ k by omega); rw [Nat.add_mul, Nat.one_mul, hQN] at this; omega
      have hF2 := anyM_snoc s (0 + p) j (nx + 1 + (0 + p) - 1)
      generalize j * (0 + p) = q at *
      rw [show nx + 1 + (0 + p) - 1 + q = nx + 1 + q + p - 1 by omega] at hF2
      have hz2 := HA.out (nx + 1 + q + p - 1) (by omega)
      generalize wd s (nx + 1 + q + p - 1) = z at *
      generalize (anyM s (0 + p) j (nx + 1 + (0 + p) - 1)) = f2 at *
      have S := S.out
      clear hQN HR HVS hV
      by_cases hz0 : z = 0
      · subst hz0
        have hG2 : Hid ((anyM s (0 + p) (j + 1) (nx + 1 + (0 + p) - 1)) = f2) := Lib.hid (hF2.trans (by simp))
        clear hF2
        go_wp2_with (first | go_skip | ((with_reducible refine wl ?_); first | refine sn S (fun g w1 S => ?_) | refine ss S (fun w1 S => ?_) | refine sl S ?_ | refine sa S ?_ | refine sx S hz2 ?_) | ((with_reducible refine (HEj _).out.mono ?_); rintro r' w' ⟨rfl, hb⟩; replace S := S.call hb))
        go_roundw
        case rel => exact ⟨j + 1, by omega, by go_num, rfl, by rw [hG2.out], Lib.hid S.tail⟩
        case measure => simp [intOf]; omega
      · have tz0 : (z != 0) = true := bne_iff_ne.2 hz0
        have hG2 : Hid ((anyM s (0 + p) (j + 1) (nx + 1 + (0 + p) - 1)) = true) := Lib.hid (hF2.trans (by simp [hz0]))
        clear hF2 hz0
        go_wp2_with (first | go_skip | ((with_reducible refine wl ?_); first | refine sn S (fun g w1 S => ?_) | refine ss S (fun w1 S => ?_) | refine sl S ?_ | refine sa S ?_ | refine sx S hz2 ?_) | ((with_reducible refine (HEj _).out.mono ?_); rintro r' w' ⟨rfl, hb⟩; replace S := S.call hb))
        go_roundw
        case rel => exact ⟨j + 1, by omega, by go_num, rfl, by rw [hG2.out], Lib.hid S.tail⟩
        case measure => simp [intOf]; omega
    · obtain rfl : k = j := by omega
      have hkk : decide ((k : Int) < (k : Int)) = false := decide_eq_false (by omega)
      have hkn : decide (k < k) = false := decide_eq_false (by omega)
      generalize (anyM s (0 + p) k (nx + 1 + (0 + p) - 1)) = f2 at *
      cases f2 with
      | false =>
        have HR : Hid (r = -1) := Lib.hid (HR.out.trans (by simp [visI]))
        have S := S.out
        go_wp2_with (first | go_skip | ((with_reducible refine wl0 rfl ?_); first | refine sn S (fun g w1 S => ?_) | refine ss S (fun w1 S => ?_) | refine sl S ?_ | refine sa S ?_))
        exact rt S ⟨by rw [HR.out], S.below⟩
      | true =>
        have HR : Hid (r = visI (velems V p (0 + p) k (nx + 1 + 0) (nx + m))) := Lib.hid (HR.out.trans (by rw [if_pos (by simp)]))
        obtain ⟨R, hRR⟩ : ∃ R, velems V p (0 + p) k (nx + 1 + 0) (nx + m) = R := ⟨_, rfl⟩
        have HE : Hid (R = velems V p (0 + p) (k - 0) ((nx + 1 + 0) + 0 * (0 + p)) (nx + m)) := Lib.hid (by rw [Nat.sub_zero, Nat.zero_mul, Nat.add_zero, hRR])
        rw [hRR] at HR
        clear hRR
        have S := S.out
        go_wp2_with (first | go_skip | ((with_reducible refine wl0 rfl ?_); first | refine sn S (fun g w1 S => ?_) | refine ss S (fun w1 S => ?_) | refine sl S ?_ | refine sa S ?_))
        have S := Lib.hid S
        try simp only [List.getElem_toArray, List.getElem_cons_zero, List.getElem_cons_succ]
        go_loopw [11, 21] (fun ev v wr => ∃ j en : Nat, j ≤ k ∧ en ≤ n ∧ v = .int .i64 j ∧ ev = .int .i64 en ∧ Hid (R = velems V p (0 + p) (k - j) ((nx + 1 + 0) + j * (0 + p)) en) ∧ Hid (Sep w wr [.box g15 #[.int .i64 2, .int .i64 0, .int .i64 ((nx : Int) + 1), .int .i64 0, .int .i64 (p : Int), .int .i64 7, .int .i64 k, .int .i64 cost] 75, .box g8 #[.int .i64 1, .int .i64 o, .int .i64 0, .int .i64 0, .int .i64 e, .int .i64 c, .bool pb, .int .i64 pf, .int .u32 ps, .int .u32 pl] 67])) (fun _ v _ => k - (intOf v).toNat)
        case atStart => exact ⟨0, nx + m, Nat.zero_le _, hin, rfl, by simp [hmc], HE, S⟩
        case round =>
          clear S HE
          obtain ⟨j, e', hj, he', rfl, rfl, HE, S⟩ := hrel
          by_cases hjk : j < k
          · have hjI : (j : Int) < (k : Int) := by omega
            rw [velems_step hjk] at HE
            have HVj := HVS j hjk e' he'
            have hVj := hV.out j hjk e' he'
            have HEj := HEL j hjk
            have hqb : j * (0 + p) + (0 + p) ≤ c := by have := Nat.mul_le_mul_right (0 + p) (show j + 1 ≤ k by omega); rw [Nat.add_mul, Nat.one_mul, hQN] at this; omega
            generalize j * (0 + p) = q at *
            have S := S.out
            cases hq : vptrs V p ((nx + 1 + 0) + q) e' with
            | none =>
              rw [hq] at HVj HE
              have HE : Hid (R = none) := HE
              clear hVj hq
              go_wp2_with (first | go_skip | ((with_reducible refine wl ?_); first | refine sn S (fun g w1 S => ?_) | refine ss S (fun w1 S => ?_) | refine sl S ?_ | refine sa S ?_) | ((with_reducible refine (HEj _).out.mono ?_); rintro r' w' ⟨rfl, hb⟩; replace S := S.call hb) | ((with_reducible refine (HVj _ S.below).out.mono ?_); rintro r' w' ⟨rfl, hb⟩; replace S := S.call hb; dsimp only [visI]))
              exact rt S ⟨by rw [HR.out, HE.out], S.below⟩
            | some r' =>
              rw [hq] at HVj HE hVj
              have hr := hVj r' rfl
              have HE : Hid (R = velems V p (0 + p) (k - (j + 1)) ((nx + 1 + 0) + (j + 1) * (0 + p)) r') := HE
              clear hVj hq
              go_wp2_with (first | go_skip | ((with_reducible refine wl ?_); first | refine sn S (fun g w1 S => ?_) | refine ss S (fun w1 S => ?_) | refine sl S ?_ | refine sa S ?_) | ((with_reducible refine (HEj _).out.mono ?_); rintro r' w' ⟨rfl, hb⟩; replace S := S.call hb) | ((with_reducible refine (HVj _ S.below).out.mono ?_); rintro r' w' ⟨rfl, hb⟩; replace S := S.call hb; dsimp only [visI]))
              go_roundw
              case rel => exact ⟨j + 1, r', by omega, hr, by go_num, rfl, HE, Lib.hid S.tail⟩
              case measure => simp [intOf]; omega
          · obtain rfl : k = j := by omega
            rw [Nat.sub_self] at HE
            have HE : Hid (R = some e') := HE
            have S := S.out
            have hkk : decide ((k : Int) < (k : Int)) = false := decide_eq_false (by omega)
            have hkn : decide (k < k) = false := decide_eq_false (by omega)
            go_wp2_with (first | go_skip | ((with_reducible refine wl0 rfl ?_); first | refine sn S (fun g w1 S => ?_) | refine ss S (fun w1 S => ?_) | refine sl S ?_ | refine sa S ?_))
            exact rt S ⟨by rw [HR.out, HE.out], S.below⟩
end Go.Proofs.YtidglmocekghmaaDoor.Pr
end
section
namespace Go.Proofs.YtidglmocekghmaaDoor.Pr
open Go.RowKit Go.Proofs.YtidglmocekghmaaDoorW.PrintWords Go.Proofs.YtidglmocekghmaaDoorW.PrintLast Go.Proofs.YtidglmocekghmaaDoorW.PrintMore
set_option linter.unusedVariables false
set_option linter.unusedSimpArgs false
set_option maxRecDepth 100000 in
set_option maxHeartbeats 4000000 in
theorem vis_12_11 (ad : Addr) (n cp nx a : Nat) (w : World) (x : Int) (c m d p k : Nat) (hv : AtS w ad a x) (ha : a < n) (hn : n ≤ 17592186040320) (hx0 : 0 ≤ x) (hx1 : x < 18446744073709551616) (hnx : nx ≤ n) (hncp : n ≤ cp) (hx : x ≠ 0) (hk : kindW x = 1) (hc0 : cntW x = c) (hw : wordsE (elemW x) c = m) (hst : (a : Int) + 1 + offW x = nx) (hin : nx + m ≤ n) (he7 : elemW x = 7) (hmc : m = c + 1) (hd0 : 0 < d) (hd1 : d ≤ 65535) (hp0 : 0 < p) (hp1 : p ≤ 65535) (hkb : k ≤ 536870911) (cost : Int) (HOb : ObS ad n cp a w ⟨2, 0, (nx : Int) + 1, (d : Int), (p : Int), 7, k, cost⟩) (s : List Int) (HA : ∀ i, i < n → AtS w ad i (wd s i)) (V : Nat → Nat → Option Nat) (hQN : k * (d + p) = c) (hcb0 : c ≤ 536870911) (hV : ∀ j, j < k → ∀ e, e ≤ n → ∀ r, vptrs V p ((nx + 1 + d) + j * (d + p)) e = some r → r ≤ n) (HVS : ∀ j, j < k → ∀ e : Nat, e ≤ n → ∀ w', Below w.heap.size w w' → Hid (Calls Tryd.prog 37 #[.slice (some ad) n cp, .int .i64 e, .int .i64 ((nx : Int) + 1 + (j * (d + p) : Nat) + d), .int .i64 p] w' fun r w1 => r = .returned (.int .i64 (visI (vptrs V p ((nx + 1 + d) + j * (d + p)) e))) ∧ Below w'.heap.size w' w1)) (r : Int) (HR : Hid (r = visI (if ((anyM s (d + p) k (nx + 1 + d - 1)) && (anyM s (d + p) k (nx + 1 + (d + p) - 1))) = true then velems V p (d + p) k (nx + 1 + d) (nx + m) else none))) : Vi ad n cp nx a w r := by
  have S := Sep.start w
  have D1 := fun w => Lib.hid (rdec_lit x w hx0 hx1)
  clear hx0 hx1
  have tx : (x == 0) = false := beq_eq_false_iff_ne.2 hx
  clear hx
  have hpo := offW_bd x
  have ho : pO x = offW x := by unfold pO; rw [if_pos (by omega)]
  have hd : pD x = 0 := by unfold pD; rw [if_neg (by omega)]
  have hp : pP x = 0 := by unfold pP; rw [if_neg (by omega)]
  have he : pE x = elemW x := by unfold pE; rw [if_pos hk]
  have hc : pC x = c := by unfold pC; rw [if_pos hk, hc0]
  have heb := elemW_bd x
  have hcb := (cntW_bd x).2
  rw [hc0] at hcb
  rw [ho, hd, hp, he, hc, hk] at D1
  have HM := fun w => Lib.hid (words_any6 (elemW x) c w (by omega) (by omega))
  obtain ⟨hm0, hm1⟩ := wordsE_bd (elemW x) c (by omega) hcb
  rw [hw] at HM hm0 hm1
  clear hk hc0 ho hd hp he hc hw
  generalize elemW x = e at *
  generalize pB x = pb at *
  generalize pF x = pf at *
  generalize pS x = ps at *
  generalize pL x = pl at *
  generalize offW x = o at *
  have ts : ((a : Int) + 1 + o != nx) = false := bne_eq_false_iff_eq.2 hst
  have te6 : (e == 6) = false := beq_eq_false_iff_ne.2 (by omega)
  have te : decide (e < 6) = false := decide_eq_false (by omega)
  clear he7
  have HA := Lib.hid HA
  have hV := Lib.hid hV
  have hQ : (k : Int) * ((d : Int) + p) = c := by rw [← hQN]; simp
  have HEL := fun (j : Nat) (hj : j < k) w' => Lib.hid (show Calls Tryd.prog 41 #[obV ⟨2, 0, (nx : Int) + 1, (d : Int), (p : Int), 7, k, cost⟩, .int .i64 j] w' (fun e w1 => e = .returned (obV ⟨1, 0, (nx : Int) + 1 + (j * (d + p) : Nat), (d : Int), (p : Int), 0, 0, 0⟩) ∧ Below w'.heap.size w' w1) from (el_any ⟨2, 0, (nx : Int) + 1, (d : Int), (p : Int), 7, k, cost⟩ j w' (by omega) (by omega) (by dsimp only; omega) (by dsimp only; omega) (by dsimp only; omega) (by dsimp only; omega) (by dsimp only; omega) (by dsimp only; omega)).mono (fun e w1 h => by rw [h.1]; unfold elG; exact ⟨by simp, h.2⟩))
  have td0 : ((d : Int) == 0) = false := beq_eq_false_iff_ne.2 (by omega)
  have tdp : decide ((d : Int) > 0) = true := decide_eq_true (by omega)
  have tp0 : ((p : Int) == 0) = false := beq_eq_false_iff_ne.2 (by omega)
  have tpp : decide ((p : Int) > 0) = true := decide_eq_true (by omega)
  have tsz : decide ((d : Int) + p > 0) = true := decide_eq_true (by omega)
  go_enter Tryd.func22, Tryd.ntmps22
  go_wp2_with (first | go_skip | ((with_reducible refine wl ?_); first | (refine sn S (fun g w1 S => ?_); first | ((fail_if_success (have := g8)); revert g; intro g8 S) | ((fail_if_success (have := g15)); revert g; intro g15 S) | skip) | refine ss S (fun w1 S => ?_) | refine sl S ?_ | refine sa S ?_) | ((with_reducible refine (D1 _).out.mono ?_); rintro r w' ⟨rfl, hb⟩; replace S := S.call hb) | ((with_reducible refine (HM _).out.mono ?_); rintro r' w' ⟨rfl, rfl⟩) | ((with_reducible refine (HOb _ _ (S.new _ _).below ((S.new _ _).blk .here)).out.mono ?_); rintro r' w' ⟨rfl, hb⟩; replace S := ((S.new _ _).call hb).tail))
  simp only [List.getElem_toArray, List.getElem_cons_zero, List.getElem_cons_succ]
  have S := Lib.hid S
  go_loopw [17, 18, 19] (fun b1 b2 v wr => ∃ j : Nat, j ≤ k ∧ v = .int .i64 j ∧ b1 = .bool (anyM s (d + p) j (nx + 1 + d - 1)) ∧ b2 = .bool (anyM s (d + p) j (nx + 1 + (d + p) - 1)) ∧ Hid (Sep w wr [.box g15 #[.int .i64 2, .int .i64 0, .int .i64 ((nx : Int) + 1), .int .i64 (d : Int), .int .i64 (p : Int), .int .i64 7, .int .i64 k, .int .i64 cost] 75, .box g8 #[.int .i64 1, .int .i64 o, .int .i64 0, .int .i64 0, .int .i64 e, .int .i64 c, .bool pb, .int .i64 pf, .int .u32 ps, .int .u32 pl] 67])) (fun _ _ v _ => k - (intOf v).toNat)
  case atStart => exact ⟨0, Nat.zero_le _, rfl, rfl, rfl, S⟩
  case round =>
    clear S
    obtain ⟨j, hj, rfl, rfl, rfl, S⟩ := hrel
    by_cases hjk : j < k
    · have hjI : (j : Int) < (k : Int) := by omega
      have HEj := HEL j hjk
      have hqb : j * (d + p) + (d + p) ≤ c := by have := Nat.mul_le_mul_right (d + p) (show j + 1 ≤ k by omega); rw [Nat.add_mul, Nat.one_mul, hQN] at this; omega
      have hF1 := anyM_snoc s (d + p) j (nx + 1 + d - 1)
      have hF2 := anyM_snoc s (d + p) j (nx + 1 + (d + p) - 1)
      generalize j * (d + p) = q at *
      rw [show nx + 1 + d - 1 + q = nx + 1 + q + d - 1 by omega] at hF1
      have hy := HA.out (nx + 1 + q + d - 1) (by omega)
      generalize wd s (nx + 1 + q + d - 1) = y at *
      generalize (anyM s (d + p) j (nx + 1 + d - 1)) = f1 at *
      rw [show nx + 1 + (d + p) - 1 + q = nx + 1 + q + d + p - 1 by omega] at hF2
      have hz2 := HA.out (nx + 1 + q + d + p - 1) (by omega)
      generalize wd s (nx + 1 + q + d + p - 1) = z at *
      generalize (anyM s (d + p) j (nx + 1 + (d + p) - 1)) = f2 at *
      have S := S.out
      clear hQN HR HVS hV
      by_cases hy0 : y = 0
      · subst hy0
        have hG1 : Hid ((anyM s (d + p) (j + 1) (nx + 1 + d - 1)) = f1) := Lib.hid (hF1.trans (by simp))
        clear hF1
        by_cases hz0 : z = 0
        · subst hz0
          have hG2 : Hid ((anyM s (d + p) (j + 1) (nx + 1 + (d + p) - 1)) = f2) := Lib.hid (hF2.trans (by simp))
          clear hF2
          go_wp2_with (first | go_skip | ((with_reducible refine wl ?_); first | refine sn S (fun g w1 S => ?_) | refine ss S (fun w1 S => ?_) | refine sl S ?_ | refine sa S ?_ | refine sx S hy ?_ | refine sx S hz2 ?_) | ((with_reducible refine (HEj _).out.mono ?_); rintro r' w' ⟨rfl, hb⟩; replace S := S.call hb))
          go_roundw
          case rel => exact ⟨j + 1, by omega, by go_num, by rw [hG1.out], by rw [hG2.out], Lib.hid S.tail⟩
          case measure => simp [intOf]; omega
        · have tz0 : (z != 0) = true := bne_iff_ne.2 hz0
          have hG2 : Hid ((anyM s (d + p) (j + 1) (nx + 1 + (d + p) - 1)) = true) := Lib.hid (hF2.trans (by simp [hz0]))
          clear hF2 hz0
          go_wp2_with (first | go_skip | ((with_reducible refine wl ?_); first | refine sn S (fun g w1 S => ?_) | refine ss S (fun w1 S => ?_) | refine sl S ?_ | refine sa S ?_ | refine sx S hy ?_ | refine sx S hz2 ?_) | ((with_reducible refine (HEj _).out.mono ?_); rintro r' w' ⟨rfl, hb⟩; replace S := S.call hb))
          go_roundw
          case rel => exact ⟨j + 1, by omega, by go_num, by rw [hG1.out], by rw [hG2.out], Lib.hid S.tail⟩
          case measure => simp [intOf]; omega
      · have ty0 : (y != 0) = true := bne_iff_ne.2 hy0
        have hG1 : Hid ((anyM s (d + p) (j + 1) (nx + 1 + d - 1)) = true) := Lib.hid (hF1.trans (by simp [hy0]))
        clear hF1 hy0
        by_cases hz0 : z = 0
        · subst hz0
          have hG2 : Hid ((anyM s (d + p) (j + 1) (nx + 1 + (d + p) - 1)) = f2) := Lib.hid (hF2.trans (by simp))
          clear hF2
          go_wp2_with (first | go_skip | ((with_reducible refine wl ?_); first | refine sn S (fun g w1 S => ?_) | refine ss S (fun w1 S => ?_) | refine sl S ?_ | refine sa S ?_ | refine sx S hy ?_ | refine sx S hz2 ?_) | ((with_reducible refine (HEj _).out.mono ?_); rintro r' w' ⟨rfl, hb⟩; replace S := S.call hb))
          go_roundw
          case rel => exact ⟨j + 1, by omega, by go_num, by rw [hG1.out], by rw [hG2.out], Lib.hid S.tail⟩
          case measure => simp [intOf]; omega
        · have tz0 : (z != 0) = true := bne_iff_ne.2 hz0
          have hG2 : Hid ((anyM s (d + p) (j + 1) (nx + 1 + (d + p) - 1)) = true) := Lib.hid (hF2.trans (by simp [hz0]))
          clear hF2 hz0
          go_wp2_with (first | go_skip | ((with_reducible refine wl ?_); first | refine sn S (fun g w1 S => ?_) | refine ss S (fun w1 S => ?_) | refine sl S ?_ | refine sa S ?_ | refine sx S hy ?_ | refine sx S hz2 ?_) | ((with_reducible refine (HEj _).out.mono ?_); rintro r' w' ⟨rfl, hb⟩; replace S := S.call hb))
          go_roundw
          case rel => exact ⟨j + 1, by omega, by go_num, by rw [hG1.out], by rw [hG2.out], Lib.hid S.tail⟩
          case measure => simp [intOf]; omega
    · obtain rfl : k = j := by omega
      have hkk : decide ((k : Int) < (k : Int)) = false := decide_eq_false (by omega)
      have hkn : decide (k < k) = false := decide_eq_false (by omega)
      generalize (anyM s (d + p) k (nx + 1 + d - 1)) = f1 at *
      generalize (anyM s (d + p) k (nx + 1 + (d + p) - 1)) = f2 at *
      cases f1 with
      | false =>
        cases f2 with
        | false =>
          have HR : Hid (r = -1) := Lib.hid (HR.out.trans (by simp [visI]))
          have S := S.out
          go_wp2_with (first | go_skip | ((with_reducible refine wl0 rfl ?_); first | refine sn S (fun g w1 S => ?_) | refine ss S (fun w1 S => ?_) | refine sl S ?_ | refine sa S ?_))
          exact rt S ⟨by rw [HR.out], S.below⟩
        | true =>
          have HR : Hid (r = -1) := Lib.hid (HR.out.trans (by simp [visI]))
          have S := S.out
          go_wp2_with (first | go_skip | ((with_reducible refine wl0 rfl ?_); first | refine sn S (fun g w1 S => ?_) | refine ss S (fun w1 S => ?_) | refine sl S ?_ | refine sa S ?_))
          exact rt S ⟨by rw [HR.out], S.below⟩
      | true =>
        cases f2 with
        | false =>
          have HR : Hid (r = -1) := Lib.hid (HR.out.trans (by simp [visI]))
          have S := S.out
          go_wp2_with (first | go_skip | ((with_reducible refine wl0 rfl ?_); first | refine sn S (fun g w1 S => ?_) | refine ss S (fun w1 S => ?_) | refine sl S ?_ | refine sa S ?_))
          exact rt S ⟨by rw [HR.out], S.below⟩
        | true =>
          have HR : Hid (r = visI (velems V p (d + p) k (nx + 1 + d) (nx + m))) := Lib.hid (HR.out.trans (by rw [if_pos (by simp)]))
          obtain ⟨R, hRR⟩ : ∃ R, velems V p (d + p) k (nx + 1 + d) (nx + m) = R := ⟨_, rfl⟩
          have HE : Hid (R = velems V p (d + p) (k - 0) ((nx + 1 + d) + 0 * (d + p)) (nx + m)) := Lib.hid (by rw [Nat.sub_zero, Nat.zero_mul, Nat.add_zero, hRR])
          rw [hRR] at HR
          clear hRR
          have S := S.out
          go_wp2_with (first | go_skip | ((with_reducible refine wl0 rfl ?_); first | refine sn S (fun g w1 S => ?_) | refine ss S (fun w1 S => ?_) | refine sl S ?_ | refine sa S ?_))
          have S := Lib.hid S
          try simp only [List.getElem_toArray, List.getElem_cons_zero, List.getElem_cons_succ]
          go_loopw [11, 21] (fun ev v wr => ∃ j en : Nat, j ≤ k ∧ en ≤ n ∧ v = .int .i64 j ∧ ev = .int .i64 en ∧ Hid (R = velems V p (d + p) (k - j) ((nx + 1 + d) + j * (d + p)) en) ∧ Hid (Sep w wr [.box g15 #[.int .i64 2, .int .i64 0, .int .i64 ((nx : Int) + 1), .int .i64 (d : Int), .int .i64 (p : Int), .int .i64 7, .int .i64 k, .int .i64 cost] 75, .box g8 #[.int .i64 1, .int .i64 o, .int .i64 0, .int .i64 0, .int .i64 e, .int .i64 c, .bool pb, .int .i64 pf, .int .u32 ps, .int .u32 pl] 67])) (fun _ v _ => k - (intOf v).toNat)
          case atStart => exact ⟨0, nx + m, Nat.zero_le _, hin, rfl, by simp [hmc], HE, S⟩
          case round =>
            clear S HE
            obtain ⟨j, e', hj, he', rfl, rfl, HE, S⟩ := hrel
            by_cases hjk : j < k
            · have hjI : (j : Int) < (k : Int) := by omega
              rw [velems_step hjk] at HE
              have HVj := HVS j hjk e' he'
              have hVj := hV.out j hjk e' he'
              have HEj := HEL j hjk
              have hqb : j * (d + p) + (d + p) ≤ c := by have := Nat.mul_le_mul_right (d + p) (show j + 1 ≤ k by omega); rw [Nat.add_mul, Nat.one_mul, hQN] at this; omega
              generalize j * (d + p) = q at *
              have S := S.out
              cases hq : vptrs V p ((nx + 1 + d) + q) e' with
              | none =>
                rw [hq] at HVj HE
                have HE : Hid (R = none) := HE
                clear hVj hq
                go_wp2_with (first | go_skip | ((with_reducible refine wl ?_); first | refine sn S (fun g w1 S => ?_) | refine ss S (fun w1 S => ?_) | refine sl S ?_ | refine sa S ?_) | ((with_reducible refine (HEj _).out.mono ?_); rintro r' w' ⟨rfl, hb⟩; replace S := S.call hb) | ((with_reducible refine (HVj _ S.below).out.mono ?_); rintro r' w' ⟨rfl, hb⟩; replace S := S.call hb; dsimp only [visI]))
                exact rt S ⟨by rw [HR.out, HE.out], S.below⟩
              | some r' =>
                rw [hq] at HVj HE hVj
                have hr := hVj r' rfl
                have HE : Hid (R = velems V p (d + p) (k - (j + 1)) ((nx + 1 + d) + (j + 1) * (d + p)) r') := HE
                clear hVj hq
                go_wp2_with (first | go_skip | ((with_reducible refine wl ?_); first | refine sn S (fun g w1 S => ?_) | refine ss S (fun w1 S => ?_) | refine sl S ?_ | refine sa S ?_) | ((with_reducible refine (HEj _).out.mono ?_); rintro r' w' ⟨rfl, hb⟩; replace S := S.call hb) | ((with_reducible refine (HVj _ S.below).out.mono ?_); rintro r' w' ⟨rfl, hb⟩; replace S := S.call hb; dsimp only [visI]))
                go_roundw
                case rel => exact ⟨j + 1, r', by omega, hr, by go_num, rfl, HE, Lib.hid S.tail⟩
                case measure => simp [intOf]; omega
            · obtain rfl : k = j := by omega
              rw [Nat.sub_self] at HE
              have HE : Hid (R = some e') := HE
              have S := S.out
              have hkk : decide ((k : Int) < (k : Int)) = false := decide_eq_false (by omega)
              have hkn : decide (k < k) = false := decide_eq_false (by omega)
              go_wp2_with (first | go_skip | ((with_reducible refine wl0 rfl ?_); first | refine sn S (fun g w1 S => ?_) | refine ss S (fun w1 S => ?_) | refine sl S ?_ | refine sa S ?_))
              exact rt S ⟨by rw [HR.out, HE.out], S.below⟩
end Go.Proofs.YtidglmocekghmaaDoor.Pr
end
section
namespace Go.Proofs.YtidglmocekghmaaDoor.Pr
open Go.RowKit Go.Proofs.YtidglmocekghmaaDoorW.PrintWords Go.Proofs.YtidglmocekghmaaDoorW.PrintLast Go.Proofs.YtidglmocekghmaaDoorW.PrintMore
set_option linter.unusedVariables false
set_option linter.unusedSimpArgs false
def msgR (G : List (List Int)) (D Wd : Int) : S37 × Int :=
  if G.length ≠ 0 ∧ (sgG G 0).length = 0 then (ndZ, 0)
  else if (valR G D.toNat 0 0 (startM Wd)).2.2 ≠ 0 then (ndZ, (valR G D.toNat 0 0 (startM Wd)).2.2)
  else (ttrim (valR G D.toNat 0 0 (startM Wd)).1, 0)
theorem jn {P : Program} {Q : Exit → Act → World → Prop} {c : Code} {a : Act} {w : World} {σ : Type} (F : σ → World → Prop) (ns : σ → List (Tmp × Value)) (h1 : ∀ s w', F s w' → Q .normal (putAll a (ns s)) w') (h2 : (∀ s w', F s w' → Q .normal (putAll a (ns s)) w') → c.wp P Q a w) : c.wp P Q a w := h2 h1
theorem trim_opn (a : S37) (hw : wordsT a) (hs : tsize a ≤ 1000000000000) (w : World) {A3 A4 : Option Addr} {c3 c4 : Nat} (h : k37.K w a [.int .i64 a.f0, .int .i64 a.f1, .int .i64 a.f2, .slice A3 a.f3.length c3, .slice A4 a.f4.length c4]) :
    Calls Tryd.prog 29 #[.agg #[.int .i64 a.f0, .int .i64 a.f1, .int .i64 a.f2, .slice A3 a.f3.length c3, .slice A4 a.f4.length c4]] w fun r w' => ∃ B3 d3 B4 d4, r = .returned (.agg #[.int .i64 (ttrim a).f0, .int .i64 (ttrim a).f1, .int .i64 (ttrim a).f2, .slice B3 (ttrim a).f3.length d3, .slice B4 (ttrim a).f4.length d4]) ∧ k37.M w' w.heap.size (fun _ => True) (ttrim a) [.int .i64 (ttrim a).f0, .int .i64 (ttrim a).f1, .int .i64 (ttrim a).f2, .slice B3 (ttrim a).f3.length d3, .slice B4 (ttrim a).f4.length d4] ∧ Below w.heap.size w w' := by
  refine (trim_any a hw hs w h).mono ?_
  rintro r w' ⟨v3, v4, rfl, hM, hb⟩
  obtain ⟨B3, d3, B4, d4, e, _⟩ := k37_open (k37.K_of_M hM)
  simp only [List.cons.injEq, true_and, and_true] at e
  obtain ⟨rfl, rfl⟩ := e
  exact ⟨B3, d3, B4, d4, rfl, hM, hb⟩
def MsV (w : World) (q : S37 × Int) (r : Ending) (w' : World) : Prop := ∃ v3 v4, r = .returned (.tuple #[.agg #[.int .i64 q.1.f0, .int .i64 q.1.f1, .int .i64 q.1.f2, v3, v4], .int .i64 q.2]) ∧ k37.M w' w.heap.size (fun _ => True) q.1 [.int .i64 q.1.f0, .int .i64 q.1.f1, .int .i64 q.1.f2, v3, v4] ∧ Below w.heap.size w w'
set_option maxRecDepth 100000 in
set_option maxHeartbeats 4000000 in
theorem msg_any (A : Option Addr) (cp : Nat) (G : List (List Int)) (D Wd O : Int) (w : World) (hE : EnvG w A G) (hD : D ≤ 40) (hW : Wd ≤ 2000) :
    Calls Tryd.prog 16 #[.slice A G.length cp, limV D Wd O] w (MsV w (msgR G D Wd)) := by
  have hs0 : 0 ≤ startM Wd ∧ startM Wd ≤ 2000 := by unfold startM; split <;> omega
  have HV := fun w' (hb : Below w.heap.size w w') => Lib.hid (val_any D.toNat A cp G D Wd O (startM Wd) 0 0 1 w' (hE.below hb) (by omega) (by omega) (by omega) hs0.1 (by omega) (by omega) (by omega) (by omega))
  have HG := Lib.hid (valR_good G D.toNat 0 0 (startM Wd) hs0.1)
  have HN := Lib.hid (valR_sinks G D.toNat 0 0 (startM Wd) hs0.1)
  have HS := fun w' => Lib.hid (start_any D Wd O w')
  have HR := Lib.hid (msgR.eq_1 G D Wd)
  have HX : Hid (∀ i : Nat, i < G.length → ∃ ad A0 c0, A = some ad ∧ w.cell? (ad.add i) = some (.slice A0 (sgG G i).length c0)) := Lib.hid (fun i hi => by
    obtain ⟨ad, A0, c0, h1, h2, _⟩ := at_G hE.rd i hi
    exact ⟨ad, A0, c0, h1, h2⟩)
  have hlen := hE.len
  have S := Sep.start w
  clear hE hD hW
  generalize msgR G D Wd = r at *
  generalize valR G D.toNat 0 0 (startM Wd) = q at *
  obtain ⟨⟨f0, f1, f2, f3, f4⟩, m', e'⟩ := q
  dsimp only at HR HG HN
  generalize startM Wd = m at *
  by_cases h0 : G.length ≠ 0 ∧ (sgG G 0).length = 0
  · replace HR := Lib.hid (HR.out.trans (if_pos h0))
    obtain ⟨ad, A0, c0, rfl, hv⟩ := HX.out 0 (by omega)
    have h1 : 0 < G.length := by omega
    rw [show sgG G ((0 : Nat) : Int) = sgG G 0 from rfl, h0.2] at hv
    have h2 : ((G.length : Int) > 0) := by omega
    have hv0 : ad.add 0 = ad := rfl
    rw [hv0] at hv
    clear h0 hv0
    go_enter Tryd.func16, Tryd.ntmps16
    go_wp2_with (first | go_skip | ((with_reducible refine wl ?_); first | refine sn S (fun g w1 S => ?_) | refine ss S (fun w1 S => ?_) | refine sl S ?_ | refine sa S ?_ | refine sx S hv ?_))
    have S1 := ((S.nil k37 37).nil (Kd.int .u8) 5).node (f0 := 0) (f1 := 0) (f2 := 0)
    have HR := HR.out
    subst HR
    exact rt S ⟨_, _, rfl, S1.out .here, S.below⟩
  replace HR := Lib.hid (HR.out.trans (if_neg h0))
  replace HS := HS
  by_cases h1 : G.length = 0
  · obtain rfl : G = [] := List.eq_nil_of_length_eq_zero h1
    clear h0 h1
    go_enter Tryd.func16, Tryd.ntmps16
    go_wp2_with (first | go_skip | ((with_reducible refine wl ?_); first | (refine sn S (fun g w1 S => ?_); first | ((fail_if_success (have := g3)); revert g; intro g3 S) | ((fail_if_success (have := g4)); revert g; intro g4 S)) | refine ss S (fun w1 S => ?_) | refine sl S ?_ | refine sa S ?_ ))
    refine jn (fun (s : Nat × Nat × Option Addr × Nat × Option Addr × Nat) w' => Sep w w' [.made k37 ⟨f0, f1, f2, f3, f4⟩ [.int .i64 f0, .int .i64 f1, .int .i64 f2, .slice s.2.2.1 f3.length s.2.2.2.1, .slice s.2.2.2.2.1 f4.length s.2.2.2.2.2], .box s.2.1 #[.int .i64 m'] 52, .box s.1 [.int .i64 f0, .int .i64 f1, .int .i64 f2, .slice s.2.2.1 f3.length s.2.2.2.1, .slice s.2.2.2.2.1 f4.length s.2.2.2.2.2].toArray 37, .box g4 #[.int .i64 0, .int .i64 0, .int .i64 0, .slice none 0 0, .slice none 0 0] 37, .box g3 #[.int .i64 D, .int .i64 Wd, .int .i64 O] 24]) (fun s => [(21, .slice A ([] : List (List Int)).length cp), (22, limV D Wd O), (23, limV D Wd O), (24, .agg #[.int .i64 m]), (25, .tuple #[.agg #[.int .i64 f0, .int .i64 f1, .int .i64 f2, .slice s.2.2.1 f3.length s.2.2.2.1, .slice s.2.2.2.2.1 f4.length s.2.2.2.2.2], .agg #[.int .i64 m'], .int .i64 e']), (20, .tuple #[.agg #[.int .i64 f0, .int .i64 f1, .int .i64 f2, .slice s.2.2.1 f3.length s.2.2.2.1, .slice s.2.2.2.2.1 f4.length s.2.2.2.2.2], .agg #[.int .i64 m'], .int .i64 e']), (26, .agg #[.int .i64 f0, .int .i64 f1, .int .i64 f2, .slice s.2.2.1 f3.length s.2.2.2.1, .slice s.2.2.2.2.1 f4.length s.2.2.2.2.2]), (27, .agg #[.int .i64 m']), (28, .int .i64 e'), (6, .pointer (some ⟨s.1, 0, none⟩)), (7, .pointer (some ⟨s.2.1, 0, none⟩)), (8, .int .i64 e')]) (fun s w' S => ?_) (fun hJ => ?_)
    · obtain ⟨g6, g7, B3, d3, B4, d4⟩ := s
      dsimp only at S
      simp only [putAll, Act.put, List.setIfInBounds_toArray, List.set_cons_zero, List.set_cons_succ]
      by_cases he : e' ≠ 0
      · replace HR := Lib.hid (HR.out.trans (if_pos he))
        have t1 : (e' != 0) = true := bne_iff_ne.2 he
        clear he HG HN
        go_wp2_with (first | go_skip | ((with_reducible refine wl ?_); first | refine sn S (fun g w1 S => ?_) | refine ss S (fun w1 S => ?_) | refine sl S ?_ | refine sa S ?_))
        have S1 := ((S.nil k37 37).nil (Kd.int .u8) 5).node (f0 := 0) (f1 := 0) (f2 := 0)
        have HR := HR.out
        subst HR
        exact rt S ⟨_, _, rfl, S1.out .here, S.below⟩
      · replace HR := Lib.hid (HR.out.trans (if_neg he))
        obtain rfl : e' = 0 := by omega
        obtain ⟨hg1, hg2⟩ := HG.out rfl
        have HT := fun w' (h : k37.K w' ⟨f0, f1, f2, f3, f4⟩ [.int .i64 f0, .int .i64 f1, .int .i64 f2, .slice B3 f3.length d3, .slice B4 f4.length d4]) => Lib.hid (trim_opn ⟨f0, f1, f2, f3, f4⟩ hg2 (by have := HN.out; dsimp only at hg1; omega) w' h)
        clear hg1 hg2 HG HN he
        generalize ttrim ⟨f0, f1, f2, f3, f4⟩ = z at *
        obtain ⟨z0, z1, z2, z3, z4⟩ := z
        dsimp only at HT
        go_wp2_with (first | go_skip | ((with_reducible refine wl ?_); first | refine sn S (fun g w1 S => ?_) | refine ss S (fun w1 S => ?_) | refine sl S ?_ | refine sa S ?_) | ((with_reducible refine (HT _ (k37.K_of_M (S.out .here))).out.mono ?_); rintro r' w' ⟨C3, d5, C4, d6, rfl, hM, hb⟩; replace S := S.push (a := .made k37 _ _) hb hM))
        have HR := HR.out
        subst HR
        exact rt S ⟨_, _, rfl, S.out .here, S.below⟩
    refine rs [1] S (fun w1 S => ?_)
    refine pu 0 21 ?_
    refine lt 1 S ?_
    refine lt 2 S ?_
    refine rd [3, 9, 10] (by simp) (List.forall_mem_cons.2 ⟨?_, List.forall_mem_cons.2 ⟨?_, List.forall_mem_cons.2 ⟨?_, List.forall_mem_nil _⟩⟩⟩)
    · refine rc 24 Tryd.func28 (HS _).out (fun r' w2 hT => ?_)
      obtain ⟨rfl, hb⟩ := hT
      replace S := S.call hb
      refine ⟨_, rfl, S.kpq 0, _, rfl, ?_⟩
      simp only [Act.put, List.setIfInBounds_toArray, List.set_cons_zero, List.set_cons_succ]
      refine rd [4, 9, 10] (by simp) (List.forall_mem_cons.2 ⟨?_, List.forall_mem_cons.2 ⟨?_, List.forall_mem_cons.2 ⟨?_, List.forall_mem_nil _⟩⟩⟩)
      · refine rc 25 Tryd.func27 (HV _ S.below).out (fun r' w2 hT => ?_)
        obtain ⟨B3, d3, B4, d4, rfl, hM, hb⟩ := TrV.openV hT
        replace S := S.push (a := .made k37 _ _) hb hM
        dsimp only at S
        refine ⟨_, rfl, S.kpq 1, _, rfl, ?_⟩
        simp only [Act.put, List.setIfInBounds_toArray, List.set_cons_zero, List.set_cons_succ]
        refine pu 5 20 ?_
        refine pu 6 26 ?_
        refine pu 7 27 ?_
        refine pu 8 28 ?_
        refine rd [9, 10] (by simp) (List.forall_mem_cons.2 ⟨?_, List.forall_mem_cons.2 ⟨?_, List.forall_mem_nil _⟩⟩)
        · refine rn 6 S (fun g6 w2 S => ⟨S.kpq 2, ?_⟩)
          refine rd [10] (by simp) (List.forall_mem_cons.2 ⟨?_, List.forall_mem_nil _⟩)
          · refine rn 7 S (fun g7 w2 S => ⟨S.kpq 3, ?_⟩)
            refine lsd 11 3 S (fun w2 S => ?_)
            refine lsd 12 3 S (fun w2 S => ?_)
            refine pu 13 8 ?_
            refine dn ?_
            replace S := S.pick 1 rfl rfl
            replace S := S.pick 1 rfl rfl
            replace S := S.pick 2 rfl rfl
            have hj := hJ (g6, g7, B3, d3, B4, d4) _ S
            simp only [putAll, Act.put, List.setIfInBounds_toArray, List.set_cons_zero, List.set_cons_succ] at hj
            exact hj
        · refine rn 7 S (fun g7 w2 S => ⟨S.kpq 2, ?_⟩)
          refine rd [9] (by simp) (List.forall_mem_cons.2 ⟨?_, List.forall_mem_nil _⟩)
          · refine rn 6 S (fun g6 w2 S => ⟨S.kpq 3, ?_⟩)
            refine lsd 11 3 S (fun w2 S => ?_)
            refine lsd 12 3 S (fun w2 S => ?_)
            refine pu 13 8 ?_
            refine dn ?_
            replace S := S.pick 0 rfl rfl
            replace S := S.pick 1 rfl rfl
            replace S := S.pick 2 rfl rfl
            have hj := hJ (g6, g7, B3, d3, B4, d4) _ S
            simp only [putAll, Act.put, List.setIfInBounds_toArray, List.set_cons_zero, List.set_cons_succ] at hj
            exact hj
      · refine rn 6 S (fun g6 w2 S => ⟨S.kpq 1, ?_⟩)
        refine rd [4, 10] (by simp) (List.forall_mem_cons.2 ⟨?_, List.forall_mem_cons.2 ⟨?_, List.forall_mem_nil _⟩⟩)
        · refine rc 25 Tryd.func27 (HV _ S.below).out (fun r' w2 hT => ?_)
          obtain ⟨B3, d3, B4, d4, rfl, hM, hb⟩ := TrV.openV hT
          replace S := S.push (a := .made k37 _ _) hb hM
          dsimp only at S
          refine ⟨_, rfl, S.kpq 2, _, rfl, ?_⟩
          simp only [Act.put, List.setIfInBounds_toArray, List.set_cons_zero, List.set_cons_succ]
          refine pu 5 20 ?_
          refine pu 6 26 ?_
          refine pu 7 27 ?_
          refine pu 8 28 ?_
          refine rd [10] (by simp) (List.forall_mem_cons.2 ⟨?_, List.forall_mem_nil _⟩)
          · refine rn 7 S (fun g7 w2 S => ⟨S.kpq 3, ?_⟩)
            refine lsd 11 3 S (fun w2 S => ?_)
            refine lsd 12 3 S (fun w2 S => ?_)
            refine pu 13 8 ?_
            refine dn ?_
            replace S := S.pick 2 rfl rfl
            replace S := S.pick 1 rfl rfl
            replace S := S.pick 2 rfl rfl
            have hj := hJ (g6, g7, B3, d3, B4, d4) _ S
            simp only [putAll, Act.put, List.setIfInBounds_toArray, List.set_cons_zero, List.set_cons_succ] at hj
            exact hj
        · refine rn 7 S (fun g7 w2 S => ⟨S.kpq 2, ?_⟩)
          refine rd [4] (by simp) (List.forall_mem_cons.2 ⟨?_, List.forall_mem_nil _⟩)
          · refine rc 25 Tryd.func27 (HV _ S.below).out (fun r' w2 hT => ?_)
            obtain ⟨B3, d3, B4, d4, rfl, hM, hb⟩ := TrV.openV hT
            replace S := S.push (a := .made k37 _ _) hb hM
            dsimp only at S
            refine ⟨_, rfl, S.kpq 3, _, rfl, ?_⟩
            simp only [Act.put, List.setIfInBounds_toArray, List.set_cons_zero, List.set_cons_succ]
            refine pu 5 20 ?_
            refine pu 6 26 ?_
            refine pu 7 27 ?_
            refine pu 8 28 ?_
            refine lsd 11 3 S (fun w2 S => ?_)
            refine lsd 12 3 S (fun w2 S => ?_)
            refine pu 13 8 ?_
            refine dn ?_
            replace S := S.pick 2 rfl rfl
            replace S := S.pick 2 rfl rfl
            replace S := S.pick 2 rfl rfl
            have hj := hJ (g6, g7, B3, d3, B4, d4) _ S
            simp only [putAll, Act.put, List.setIfInBounds_toArray, List.set_cons_zero, List.set_cons_succ] at hj
            exact hj
      · refine rn 7 S (fun g7 w2 S => ⟨S.kpq 1, ?_⟩)
        refine rd [4, 9] (by simp) (List.forall_mem_cons.2 ⟨?_, List.forall_mem_cons.2 ⟨?_, List.forall_mem_nil _⟩⟩)
        · refine rc 25 Tryd.func27 (HV _ S.below).out (fun r' w2 hT => ?_)
          obtain ⟨B3, d3, B4, d4, rfl, hM, hb⟩ := TrV.openV hT
          replace S := S.push (a := .made k37 _ _) hb hM
          dsimp only at S
          refine ⟨_, rfl, S.kpq 2, _, rfl, ?_⟩
          simp only [Act.put, List.setIfInBounds_toArray, List.set_cons_zero, List.set_cons_succ]
          refine pu 5 20 ?_
          refine pu 6 26 ?_
          refine pu 7 27 ?_
          refine pu 8 28 ?_
          refine rd [9] (by simp) (List.forall_mem_cons.2 ⟨?_, List.forall_mem_nil _⟩)
          · refine rn 6 S (fun g6 w2 S => ⟨S.kpq 3, ?_⟩)
            refine lsd 11 3 S (fun w2 S => ?_)
            refine lsd 12 3 S (fun w2 S => ?_)
            refine pu 13 8 ?_
            refine dn ?_
            replace S := S.pick 0 rfl rfl
            replace S := S.pick 2 rfl rfl
            replace S := S.pick 2 rfl rfl
            have hj := hJ (g6, g7, B3, d3, B4, d4) _ S
            simp only [putAll, Act.put, List.setIfInBounds_toArray, List.set_cons_zero, List.set_cons_succ] at hj
            exact hj
        · refine rn 6 S (fun g6 w2 S => ⟨S.kpq 2, ?_⟩)
          refine rd [4] (by simp) (List.forall_mem_cons.2 ⟨?_, List.forall_mem_nil _⟩)
          · refine rc 25 Tryd.func27 (HV _ S.below).out (fun r' w2 hT => ?_)
            obtain ⟨B3, d3, B4, d4, rfl, hM, hb⟩ := TrV.openV hT
            replace S := S.push (a := .made k37 _ _) hb hM
            dsimp only at S
            refine ⟨_, rfl, S.kpq 3, _, rfl, ?_⟩
            simp only [Act.put, List.setIfInBounds_toArray, List.set_cons_zero, List.set_cons_succ]
            refine pu 5 20 ?_
            refine pu 6 26 ?_
            refine pu 7 27 ?_
            refine pu 8 28 ?_
            refine lsd 11 3 S (fun w2 S => ?_)
            refine lsd 12 3 S (fun w2 S => ?_)
            refine pu 13 8 ?_
            refine dn ?_
            replace S := S.pick 1 rfl rfl
            replace S := S.pick 2 rfl rfl
            replace S := S.pick 2 rfl rfl
            have hj := hJ (g6, g7, B3, d3, B4, d4) _ S
            simp only [putAll, Act.put, List.setIfInBounds_toArray, List.set_cons_zero, List.set_cons_succ] at hj
            exact hj
    · refine rn 6 S (fun g6 w2 S => ⟨S.kpq 1, ?_⟩)
      refine rd [3, 10] (by simp) (List.forall_mem_cons.2 ⟨?_, List.forall_mem_cons.2 ⟨?_, List.forall_mem_nil _⟩⟩)
      · refine rc 24 Tryd.func28 (HS _).out (fun r' w2 hT => ?_)
        obtain ⟨rfl, hb⟩ := hT
        replace S := S.call hb
        refine ⟨_, rfl, S.kpq 1, _, rfl, ?_⟩
        simp only [Act.put, List.setIfInBounds_toArray, List.set_cons_zero, List.set_cons_succ]
        refine rd [4, 10] (by simp) (List.forall_mem_cons.2 ⟨?_, List.forall_mem_cons.2 ⟨?_, List.forall_mem_nil _⟩⟩)
        · refine rc 25 Tryd.func27 (HV _ S.below).out (fun r' w2 hT => ?_)
          obtain ⟨B3, d3, B4, d4, rfl, hM, hb⟩ := TrV.openV hT
          replace S := S.push (a := .made k37 _ _) hb hM
          dsimp only at S
          refine ⟨_, rfl, S.kpq 2, _, rfl, ?_⟩
          simp only [Act.put, List.setIfInBounds_toArray, List.set_cons_zero, List.set_cons_succ]
          refine pu 5 20 ?_
          refine pu 6 26 ?_
          refine pu 7 27 ?_
          refine pu 8 28 ?_
          refine rd [10] (by simp) (List.forall_mem_cons.2 ⟨?_, List.forall_mem_nil _⟩)
          · refine rn 7 S (fun g7 w2 S => ⟨S.kpq 3, ?_⟩)
            refine lsd 11 3 S (fun w2 S => ?_)
            refine lsd 12 3 S (fun w2 S => ?_)
            refine pu 13 8 ?_
            refine dn ?_
            replace S := S.pick 2 rfl rfl
            replace S := S.pick 1 rfl rfl
            replace S := S.pick 2 rfl rfl
            have hj := hJ (g6, g7, B3, d3, B4, d4) _ S
            simp only [putAll, Act.put, List.setIfInBounds_toArray, List.set_cons_zero, List.set_cons_succ] at hj
            exact hj
        · refine rn 7 S (fun g7 w2 S => ⟨S.kpq 2, ?_⟩)
          refine rd [4] (by simp) (List.forall_mem_cons.2 ⟨?_, List.forall_mem_nil _⟩)
          · refine rc 25 Tryd.func27 (HV _ S.below).out (fun r' w2 hT => ?_)
            obtain ⟨B3, d3, B4, d4, rfl, hM, hb⟩ := TrV.openV hT
            replace S := S.push (a := .made k37 _ _) hb hM
            dsimp only at S
            refine ⟨_, rfl, S.kpq 3, _, rfl, ?_⟩
            simp only [Act.put, List.setIfInBounds_toArray, List.set_cons_zero, List.set_cons_succ]
            refine pu 5 20 ?_
            refine pu 6 26 ?_
            refine pu 7 27 ?_
            refine pu 8 28 ?_
            refine lsd 11 3 S (fun w2 S => ?_)
            refine lsd 12 3 S (fun w2 S => ?_)
            refine pu 13 8 ?_
            refine dn ?_
            replace S := S.pick 2 rfl rfl
            replace S := S.pick 2 rfl rfl
            replace S := S.pick 2 rfl rfl
            have hj := hJ (g6, g7, B3, d3, B4, d4) _ S
            simp only [putAll, Act.put, List.setIfInBounds_toArray, List.set_cons_zero, List.set_cons_succ] at hj
            exact hj
      · refine rn 7 S (fun g7 w2 S => ⟨S.kpq 2, ?_⟩)
        refine rd [3] (by simp) (List.forall_mem_cons.2 ⟨?_, List.forall_mem_nil _⟩)
        · refine rc 24 Tryd.func28 (HS _).out (fun r' w2 hT => ?_)
          obtain ⟨rfl, hb⟩ := hT
          replace S := S.call hb
          refine ⟨_, rfl, S.kpq 2, _, rfl, ?_⟩
          simp only [Act.put, List.setIfInBounds_toArray, List.set_cons_zero, List.set_cons_succ]
          refine rd [4] (by simp) (List.forall_mem_cons.2 ⟨?_, List.forall_mem_nil _⟩)
          · refine rc 25 Tryd.func27 (HV _ S.below).out (fun r' w2 hT => ?_)
            obtain ⟨B3, d3, B4, d4, rfl, hM, hb⟩ := TrV.openV hT
            replace S := S.push (a := .made k37 _ _) hb hM
            dsimp only at S
            refine ⟨_, rfl, S.kpq 3, _, rfl, ?_⟩
            simp only [Act.put, List.setIfInBounds_toArray, List.set_cons_zero, List.set_cons_succ]
            refine pu 5 20 ?_
            refine pu 6 26 ?_
            refine pu 7 27 ?_
            refine pu 8 28 ?_
            refine lsd 11 3 S (fun w2 S => ?_)
            refine lsd 12 3 S (fun w2 S => ?_)
            refine pu 13 8 ?_
            refine dn ?_
            replace S := S.pick 2 rfl rfl
            replace S := S.pick 2 rfl rfl
            replace S := S.pick 2 rfl rfl
            have hj := hJ (g6, g7, B3, d3, B4, d4) _ S
            simp only [putAll, Act.put, List.setIfInBounds_toArray, List.set_cons_zero, List.set_cons_succ] at hj
            exact hj
    · refine rn 7 S (fun g7 w2 S => ⟨S.kpq 1, ?_⟩)
      refine rd [3, 9] (by simp) (List.forall_mem_cons.2 ⟨?_, List.forall_mem_cons.2 ⟨?_, List.forall_mem_nil _⟩⟩)
      · refine rc 24 Tryd.func28 (HS _).out (fun r' w2 hT => ?_)
        obtain ⟨rfl, hb⟩ := hT
        replace S := S.call hb
        refine ⟨_, rfl, S.kpq 1, _, rfl, ?_⟩
        simp only [Act.put, List.setIfInBounds_toArray, List.set_cons_zero, List.set_cons_succ]
        refine rd [4, 9] (by simp) (List.forall_mem_cons.2 ⟨?_, List.forall_mem_cons.2 ⟨?_, List.forall_mem_nil _⟩⟩)
        · refine rc 25 Tryd.func27 (HV _ S.below).out (fun r' w2 hT => ?_)
          obtain ⟨B3, d3, B4, d4, rfl, hM, hb⟩ := TrV.openV hT
          replace S := S.push (a := .made k37 _ _) hb hM
          dsimp only at S
          refine ⟨_, rfl, S.kpq 2, _, rfl, ?_⟩
          simp only [Act.put, List.setIfInBounds_toArray, List.set_cons_zero, List.set_cons_succ]
          refine pu 5 20 ?_
          refine pu 6 26 ?_
          refine pu 7 27 ?_
          refine pu 8 28 ?_
          refine rd [9] (by simp) (List.forall_mem_cons.2 ⟨?_, List.forall_mem_nil _⟩)
          · refine rn 6 S (fun g6 w2 S => ⟨S.kpq 3, ?_⟩)
            refine lsd 11 3 S (fun w2 S => ?_)
            refine lsd 12 3 S (fun w2 S => ?_)
            refine pu 13 8 ?_
            refine dn ?_
            replace S := S.pick 0 rfl rfl
            replace S := S.pick 2 rfl rfl
            replace S := S.pick 2 rfl rfl
            have hj := hJ (g6, g7, B3, d3, B4, d4) _ S
            simp only [putAll, Act.put, List.setIfInBounds_toArray, List.set_cons_zero, List.set_cons_succ] at hj
            exact hj
        · refine rn 6 S (fun g6 w2 S => ⟨S.kpq 2, ?_⟩)
          refine rd [4] (by simp) (List.forall_mem_cons.2 ⟨?_, List.forall_mem_nil _⟩)
          · refine rc 25 Tryd.func27 (HV _ S.below).out (fun r' w2 hT => ?_)
            obtain ⟨B3, d3, B4, d4, rfl, hM, hb⟩ := TrV.openV hT
            replace S := S.push (a := .made k37 _ _) hb hM
            dsimp only at S
            refine ⟨_, rfl, S.kpq 3, _, rfl, ?_⟩
            simp only [Act.put, List.setIfInBounds_toArray, List.set_cons_zero, List.set_cons_succ]
            refine pu 5 20 ?_
            refine pu 6 26 ?_
            refine pu 7 27 ?_
            refine pu 8 28 ?_
            refine lsd 11 3 S (fun w2 S => ?_)
            refine lsd 12 3 S (fun w2 S => ?_)
            refine pu 13 8 ?_
            refine dn ?_
            replace S := S.pick 1 rfl rfl
            replace S := S.pick 2 rfl rfl
            replace S := S.pick 2 rfl rfl
            have hj := hJ (g6, g7, B3, d3, B4, d4) _ S
            simp only [putAll, Act.put, List.setIfInBounds_toArray, List.set_cons_zero, List.set_cons_succ] at hj
            exact hj
      · refine rn 6 S (fun g6 w2 S => ⟨S.kpq 2, ?_⟩)
        refine rd [3] (by simp) (List.forall_mem_cons.2 ⟨?_, List.forall_mem_nil _⟩)
        · refine rc 24 Tryd.func28 (HS _).out (fun r' w2 hT => ?_)
          obtain ⟨rfl, hb⟩ := hT
          replace S := S.call hb
          refine ⟨_, rfl, S.kpq 2, _, rfl, ?_⟩
          simp only [Act.put, List.setIfInBounds_toArray, List.set_cons_zero, List.set_cons_succ]
          refine rd [4] (by simp) (List.forall_mem_cons.2 ⟨?_, List.forall_mem_nil _⟩)
          · refine rc 25 Tryd.func27 (HV _ S.below).out (fun r' w2 hT => ?_)
            obtain ⟨B3, d3, B4, d4, rfl, hM, hb⟩ := TrV.openV hT
            replace S := S.push (a := .made k37 _ _) hb hM
            dsimp only at S
            refine ⟨_, rfl, S.kpq 3, _, rfl, ?_⟩
            simp only [Act.put, List.setIfInBounds_toArray, List.set_cons_zero, List.set_cons_succ]
            refine pu 5 20 ?_
            refine pu 6 26 ?_
            refine pu 7 27 ?_
            refine pu 8 28 ?_
            refine lsd 11 3 S (fun w2 S => ?_)
            refine lsd 12 3 S (fun w2 S => ?_)
            refine pu 13 8 ?_
            refine dn ?_
            replace S := S.pick 1 rfl rfl
            replace S := S.pick 2 rfl rfl
            replace S := S.pick 2 rfl rfl
            have hj := hJ (g6, g7, B3, d3, B4, d4) _ S
            simp only [putAll, Act.put, List.setIfInBounds_toArray, List.set_cons_zero, List.set_cons_succ] at hj
            exact hj
  · obtain ⟨ad, A0, c0, rfl, hv⟩ := HX.out 0 (by omega)
    have h2 : ((G.length : Int) > 0) := by omega
    have hv0 : ad.add 0 = ad := rfl
    rw [hv0] at hv
    have h5 : (((sgG G ((0 : Nat) : Int)).length : Int) == 0) = false := beq_eq_false_iff_ne.2 (fun h => h0 ⟨h1, by simpa using h⟩)
    generalize (sgG G ((0 : Nat) : Int)).length = k at *
    clear h0 hv0 h1
    go_enter Tryd.func16, Tryd.ntmps16
    go_wp2_with (first | go_skip | ((with_reducible refine wl ?_); first | (refine sn S (fun g w1 S => ?_); first | ((fail_if_success (have := g3)); revert g; intro g3 S) | ((fail_if_success (have := g4)); revert g; intro g4 S)) | refine ss S (fun w1 S => ?_) | refine sl S ?_ | refine sa S ?_ | refine sx S hv ?_))
    refine jn (fun (s : Nat × Nat × Option Addr × Nat × Option Addr × Nat) w' => Sep w w' [.made k37 ⟨f0, f1, f2, f3, f4⟩ [.int .i64 f0, .int .i64 f1, .int .i64 f2, .slice s.2.2.1 f3.length s.2.2.2.1, .slice s.2.2.2.2.1 f4.length s.2.2.2.2.2], .box s.2.1 #[.int .i64 m'] 52, .box s.1 [.int .i64 f0, .int .i64 f1, .int .i64 f2, .slice s.2.2.1 f3.length s.2.2.2.1, .slice s.2.2.2.2.1 f4.length s.2.2.2.2.2].toArray 37, .box g4 #[.int .i64 0, .int .i64 0, .int .i64 0, .slice none 0 0, .slice none 0 0] 37, .box g3 #[.int .i64 D, .int .i64 Wd, .int .i64 O] 24]) (fun s => [(21, .slice (some ad) G.length cp), (22, limV D Wd O), (23, limV D Wd O), (24, .agg #[.int .i64 m]), (25, .tuple #[.agg #[.int .i64 f0, .int .i64 f1, .int .i64 f2, .slice s.2.2.1 f3.length s.2.2.2.1, .slice s.2.2.2.2.1 f4.length s.2.2.2.2.2], .agg #[.int .i64 m'], .int .i64 e']), (20, .tuple #[.agg #[.int .i64 f0, .int .i64 f1, .int .i64 f2, .slice s.2.2.1 f3.length s.2.2.2.1, .slice s.2.2.2.2.1 f4.length s.2.2.2.2.2], .agg #[.int .i64 m'], .int .i64 e']), (26, .agg #[.int .i64 f0, .int .i64 f1, .int .i64 f2, .slice s.2.2.1 f3.length s.2.2.2.1, .slice s.2.2.2.2.1 f4.length s.2.2.2.2.2]), (27, .agg #[.int .i64 m']), (28, .int .i64 e'), (6, .pointer (some ⟨s.1, 0, none⟩)), (7, .pointer (some ⟨s.2.1, 0, none⟩)), (8, .int .i64 e')]) (fun s w' S => ?_) (fun hJ => ?_)
    · obtain ⟨g6, g7, B3, d3, B4, d4⟩ := s
      dsimp only at S
      simp only [putAll, Act.put, List.setIfInBounds_toArray, List.set_cons_zero, List.set_cons_succ]
      by_cases he : e' ≠ 0
      · replace HR := Lib.hid (HR.out.trans (if_pos he))
        have t1 : (e' != 0) = true := bne_iff_ne.2 he
        clear he HG HN
        go_wp2_with (first | go_skip | ((with_reducible refine wl ?_); first | refine sn S (fun g w1 S => ?_) | refine ss S (fun w1 S => ?_) | refine sl S ?_ | refine sa S ?_))
        have S1 := ((S.nil k37 37).nil (Kd.int .u8) 5).node (f0 := 0) (f1 := 0) (f2 := 0)
        have HR := HR.out
        subst HR
        exact rt S ⟨_, _, rfl, S1.out .here, S.below⟩
      · replace HR := Lib.hid (HR.out.trans (if_neg he))
        obtain rfl : e' = 0 := by omega
        obtain ⟨hg1, hg2⟩ := HG.out rfl
        have HT := fun w' (h : k37.K w' ⟨f0, f1, f2, f3, f4⟩ [.int .i64 f0, .int .i64 f1, .int .i64 f2, .slice B3 f3.length d3, .slice B4 f4.length d4]) => Lib.hid (trim_opn ⟨f0, f1, f2, f3, f4⟩ hg2 (by have := HN.out; dsimp only at hg1; omega) w' h)
        clear hg1 hg2 HG HN he
        generalize ttrim ⟨f0, f1, f2, f3, f4⟩ = z at *
        obtain ⟨z0, z1, z2, z3, z4⟩ := z
        dsimp only at HT
        go_wp2_with (first | go_skip | ((with_reducible refine wl ?_); first | refine sn S (fun g w1 S => ?_) | refine ss S (fun w1 S => ?_) | refine sl S ?_ | refine sa S ?_) | ((with_reducible refine (HT _ (k37.K_of_M (S.out .here))).out.mono ?_); rintro r' w' ⟨C3, d5, C4, d6, rfl, hM, hb⟩; replace S := S.push (a := .made k37 _ _) hb hM))
        have HR := HR.out
        subst HR
        exact rt S ⟨_, _, rfl, S.out .here, S.below⟩
    refine rs [1] S (fun w1 S => ?_)
    refine pu 0 21 ?_
    refine lt 1 S ?_
    refine lt 2 S ?_
    refine rd [3, 9, 10] (by simp) (List.forall_mem_cons.2 ⟨?_, List.forall_mem_cons.2 ⟨?_, List.forall_mem_cons.2 ⟨?_, List.forall_mem_nil _⟩⟩⟩)
    · refine rc 24 Tryd.func28 (HS _).out (fun r' w2 hT => ?_)
      obtain ⟨rfl, hb⟩ := hT
      replace S := S.call hb
      refine ⟨_, rfl, S.kpq 0, _, rfl, ?_⟩
      simp only [Act.put, List.setIfInBounds_toArray, List.set_cons_zero, List.set_cons_succ]
      refine rd [4, 9, 10] (by simp) (List.forall_mem_cons.2 ⟨?_, List.forall_mem_cons.2 ⟨?_, List.forall_mem_cons.2 ⟨?_, List.forall_mem_nil _⟩⟩⟩)
      · refine rc 25 Tryd.func27 (HV _ S.below).out (fun r' w2 hT => ?_)
        obtain ⟨B3, d3, B4, d4, rfl, hM, hb⟩ := TrV.openV hT
        replace S := S.push (a := .made k37 _ _) hb hM
        dsimp only at S
        refine ⟨_, rfl, S.kpq 1, _, rfl, ?_⟩
        simp only [Act.put, List.setIfInBounds_toArray, List.set_cons_zero, List.set_cons_succ]
        refine pu 5 20 ?_
        refine pu 6 26 ?_
        refine pu 7 27 ?_
        refine pu 8 28 ?_
        refine rd [9, 10] (by simp) (List.forall_mem_cons.2 ⟨?_, List.forall_mem_cons.2 ⟨?_, List.forall_mem_nil _⟩⟩)
        · refine rn 6 S (fun g6 w2 S => ⟨S.kpq 2, ?_⟩)
          refine rd [10] (by simp) (List.forall_mem_cons.2 ⟨?_, List.forall_mem_nil _⟩)
          · refine rn 7 S (fun g7 w2 S => ⟨S.kpq 3, ?_⟩)
            refine lsd 11 3 S (fun w2 S => ?_)
            refine lsd 12 3 S (fun w2 S => ?_)
            refine pu 13 8 ?_
            refine dn ?_
            replace S := S.pick 1 rfl rfl
            replace S := S.pick 1 rfl rfl
            replace S := S.pick 2 rfl rfl
            have hj := hJ (g6, g7, B3, d3, B4, d4) _ S
            simp only [putAll, Act.put, List.setIfInBounds_toArray, List.set_cons_zero, List.set_cons_succ] at hj
            exact hj
        · refine rn 7 S (fun g7 w2 S => ⟨S.kpq 2, ?_⟩)
          refine rd [9] (by simp) (List.forall_mem_cons.2 ⟨?_, List.forall_mem_nil _⟩)
          · refine rn 6 S (fun g6 w2 S => ⟨S.kpq 3, ?_⟩)
            refine lsd 11 3 S (fun w2 S => ?_)
            refine lsd 12 3 S (fun w2 S => ?_)
            refine pu 13 8 ?_
            refine dn ?_
            replace S := S.pick 0 rfl rfl
            replace S := S.pick 1 rfl rfl
            replace S := S.pick 2 rfl rfl
            have hj := hJ (g6, g7, B3, d3, B4, d4) _ S
            simp only [putAll, Act.put, List.setIfInBounds_toArray, List.set_cons_zero, List.set_cons_succ] at hj
            exact hj
      · refine rn 6 S (fun g6 w2 S => ⟨S.kpq 1, ?_⟩)
        refine rd [4, 10] (by simp) (List.forall_mem_cons.2 ⟨?_, List.forall_mem_cons.2 ⟨?_, List.forall_mem_nil _⟩⟩)
        · refine rc 25 Tryd.func27 (HV _ S.below).out (fun r' w2 hT => ?_)
          obtain ⟨B3, d3, B4, d4, rfl, hM, hb⟩ := TrV.openV hT
          replace S := S.push (a := .made k37 _ _) hb hM
          dsimp only at S
          refine ⟨_, rfl, S.kpq 2, _, rfl, ?_⟩
          simp only [Act.put, List.setIfInBounds_toArray, List.set_cons_zero, List.set_cons_succ]
          refine pu 5 20 ?_
          refine pu 6 26 ?_
          refine pu 7 27 ?_
          refine pu 8 28 ?_
          refine rd [10] (by simp) (List.forall_mem_cons.2 ⟨?_, List.forall_mem_nil _⟩)
          · refine rn 7 S (fun g7 w2 S => ⟨S.kpq 3, ?_⟩)
            refine lsd 11 3 S (fun w2 S => ?_)
            refine lsd 12 3 S (fun w2 S => ?_)
            refine pu 13 8 ?_
            refine dn ?_
            replace S := S.pick 2 rfl rfl
            replace S := S.pick 1 rfl rfl
            replace S := S.pick 2 rfl rfl
            have hj := hJ (g6, g7, B3, d3, B4, d4) _ S
            simp only [putAll, Act.put, List.setIfInBounds_toArray, List.set_cons_zero, List.set_cons_succ] at hj
            exact hj
        · refine rn 7 S (fun g7 w2 S => ⟨S.kpq 2, ?_⟩)
          refine rd [4] (by simp) (List.forall_mem_cons.2 ⟨?_, List.forall_mem_nil _⟩)
          · refine rc 25 Tryd.func27 (HV _ S.below).out (fun r' w2 hT => ?_)
            obtain ⟨B3, d3, B4, d4, rfl, hM, hb⟩ := TrV.openV hT
            replace S := S.push (a := .made k37 _ _) hb hM
            dsimp only at S
            refine ⟨_, rfl, S.kpq 3, _, rfl, ?_⟩
            simp only [Act.put, List.setIfInBounds_toArray, List.set_cons_zero, List.set_cons_succ]
            refine pu 5 20 ?_
            refine pu 6 26 ?_
            refine pu 7 27 ?_
            refine pu 8 28 ?_
            refine lsd 11 3 S (fun w2 S => ?_)
            refine lsd 12 3 S (fun w2 S => ?_)
            refine pu 13 8 ?_
            refine dn ?_
            replace S := S.pick 2 rfl rfl
            replace S := S.pick 2 rfl rfl
            replace S := S.pick 2 rfl rfl
            have hj := hJ (g6, g7, B3, d3, B4, d4) _ S
            simp only [putAll, Act.put, List.setIfInBounds_toArray, List.set_cons_zero, List.set_cons_succ] at hj
            exact hj
      · refine rn 7 S (fun g7 w2 S => ⟨S.kpq 1, ?_⟩)
        refine rd [4, 9] (by simp) (List.forall_mem_cons.2 ⟨?_, List.forall_mem_cons.2 ⟨?_, List.forall_mem_nil _⟩⟩)
        · refine rc 25 Tryd.func27 (HV _ S.below).out (fun r' w2 hT => ?_)
          obtain ⟨B3, d3, B4, d4, rfl, hM, hb⟩ := TrV.openV hT
          replace S := S.push (a := .made k37 _ _) hb hM
          dsimp only at S
          refine ⟨_, rfl, S.kpq 2, _, rfl, ?_⟩
          simp only [Act.put, List.setIfInBounds_toArray, List.set_cons_zero, List.set_cons_succ]
          refine pu 5 20 ?_
          refine pu 6 26 ?_
          refine pu 7 27 ?_
          refine pu 8 28 ?_
          refine rd [9] (by simp) (List.forall_mem_cons.2 ⟨?_, List.forall_mem_nil _⟩)
          · refine rn 6 S (fun g6 w2 S => ⟨S.kpq 3, ?_⟩)
            refine lsd 11 3 S (fun w2 S => ?_)
            refine lsd 12 3 S (fun w2 S => ?_)
            refine pu 13 8 ?_
            refine dn ?_
            replace S := S.pick 0 rfl rfl
            replace S := S.pick 2 rfl rfl
            replace S := S.pick 2 rfl rfl
            have hj := hJ (g6, g7, B3, d3, B4, d4) _ S
            simp only [putAll, Act.put, List.setIfInBounds_toArray, List.set_cons_zero, List.set_cons_succ] at hj
            exact hj
        · refine rn 6 S (fun g6 w2 S => ⟨S.kpq 2, ?_⟩)
          refine rd [4] (by simp) (List.forall_mem_cons.2 ⟨?_, List.forall_mem_nil _⟩)
          · refine rc 25 Tryd.func27 (HV _ S.below).out (fun r' w2 hT => ?_)
            obtain ⟨B3, d3, B4, d4, rfl, hM, hb⟩ := TrV.openV hT
            replace S := S.push (a := .made k37 _ _) hb hM
            dsimp only at S
            refine ⟨_, rfl, S.kpq 3, _, rfl, ?_⟩
            simp only [Act.put, List.setIfInBounds_toArray, List.set_cons_zero, List.set_cons_succ]
            refine pu 5 20 ?_
            refine pu 6 26 ?_
            refine pu 7 27 ?_
            refine pu 8 28 ?_
            refine lsd 11 3 S (fun w2 S => ?_)
            refine lsd 12 3 S (fun w2 S => ?_)
            refine pu 13 8 ?_
            refine dn ?_
            replace S := S.pick 1 rfl rfl
            replace S := S.pick 2 rfl rfl
            replace S := S.pick 2 rfl rfl
            have hj := hJ (g6, g7, B3, d3, B4, d4) _ S
            simp only [putAll, Act.put, List.setIfInBounds_toArray, List.set_cons_zero, List.set_cons_succ] at hj
            exact hj
    · refine rn 6 S (fun g6 w2 S => ⟨S.kpq 1, ?_⟩)
      refine rd [3, 10] (by simp) (List.forall_mem_cons.2 ⟨?_, List.forall_mem_cons.2 ⟨?_, List.forall_mem_nil _⟩⟩)
      · refine rc 24 Tryd.func28 (HS _).out (fun r' w2 hT => ?_)
        obtain ⟨rfl, hb⟩ := hT
        replace S := S.call hb
        refine ⟨_, rfl, S.kpq 1, _, rfl, ?_⟩
        simp only [Act.put, List.setIfInBounds_toArray, List.set_cons_zero, List.set_cons_succ]
        refine rd [4, 10] (by simp) (List.forall_mem_cons.2 ⟨?_, List.forall_mem_cons.2 ⟨?_, List.forall_mem_nil _⟩⟩)
        · refine rc 25 Tryd.func27 (HV _ S.below).out (fun r' w2 hT => ?_)
          obtain ⟨B3, d3, B4, d4, rfl, hM, hb⟩ := TrV.openV hT
          replace S := S.push (a := .made k37 _ _) hb hM
          dsimp only at S
          refine ⟨_, rfl, S.kpq 2, _, rfl, ?_⟩
          simp only [Act.put, List.setIfInBounds_toArray, List.set_cons_zero, List.set_cons_succ]
          refine pu 5 20 ?_
          refine pu 6 26 ?_
          refine pu 7 27 ?_
          refine pu 8 28 ?_
          refine rd [10] (by simp) (List.forall_mem_cons.2 ⟨?_, List.forall_mem_nil _⟩)
          · refine rn 7 S (fun g7 w2 S => ⟨S.kpq 3, ?_⟩)
            refine lsd 11 3 S (fun w2 S => ?_)
            refine lsd 12 3 S (fun w2 S => ?_)
            refine pu 13 8 ?_
            refine dn ?_
            replace S := S.pick 2 rfl rfl
            replace S := S.pick 1 rfl rfl
            replace S := S.pick 2 rfl rfl
            have hj := hJ (g6, g7, B3, d3, B4, d4) _ S
            simp only [putAll, Act.put, List.setIfInBounds_toArray, List.set_cons_zero, List.set_cons_succ] at hj
            exact hj
        · refine rn 7 S (fun g7 w2 S => ⟨S.kpq 2, ?_⟩)
          refine rd [4] (by simp) (List.forall_mem_cons.2 ⟨?_, List.forall_mem_nil _⟩)
          · refine rc 25 Tryd.func27 (HV _ S.below).out (fun r' w2 hT => ?_)
            obtain ⟨B3, d3, B4, d4, rfl, hM, hb⟩ := TrV.openV hT
            replace S := S.push (a := .made k37 _ _) hb hM
            dsimp only at S
            refine ⟨_, rfl, S.kpq 3, _, rfl, ?_⟩
            simp only [Act.put, List.setIfInBounds_toArray, List.set_cons_zero, List.set_cons_succ]
            refine pu 5 20 ?_
            refine pu 6 26 ?_
            refine pu 7 27 ?_
            refine pu 8 28 ?_
            refine lsd 11 3 S (fun w2 S => ?_)
            refine lsd 12 3 S (fun w2 S => ?_)
            refine pu 13 8 ?_
            refine dn ?_
            replace S := S.pick 2 rfl rfl
            replace S := S.pick 2 rfl rfl
            replace S := S.pick 2 rfl rfl
            have hj := hJ (g6, g7, B3, d3, B4, d4) _ S
            simp only [putAll, Act.put, List.setIfInBounds_toArray, List.set_cons_zero, List.set_cons_succ] at hj
            exact hj
      · refine rn 7 S (fun g7 w2 S => ⟨S.kpq 2, ?_⟩)
        refine rd [3] (by simp) (List.forall_mem_cons.2 ⟨?_, List.forall_mem_nil _⟩)
        · refine rc 24 Tryd.func28 (HS _).out (fun r' w2 hT => ?_)
          obtain ⟨rfl, hb⟩ := hT
          replace S := S.call hb
          refine ⟨_, rfl, S.kpq 2, _, rfl, ?_⟩
          simp only [Act.put, List.setIfInBounds_toArray, List.set_cons_zero, List.set_cons_succ]
          refine rd [4] (by simp) (List.forall_mem_cons.2 ⟨?_, List.forall_mem_nil _⟩)
          · refine rc 25 Tryd.func27 (HV _ S.below).out (fun r' w2 hT => ?_)
            obtain ⟨B3, d3, B4, d4, rfl, hM, hb⟩ := TrV.openV hT
            replace S := S.push (a := .made k37 _ _) hb hM
            dsimp only at S
            refine ⟨_, rfl, S.kpq 3, _, rfl, ?_⟩
            simp only [Act.put, List.setIfInBounds_toArray, List.set_cons_zero, List.set_cons_succ]
            refine pu 5 20 ?_
            refine pu 6 26 ?_
            refine pu 7 27 ?_
            refine pu 8 28 ?_
            refine lsd 11 3 S (fun w2 S => ?_)
            refine lsd 12 3 S (fun w2 S => ?_)
            refine pu 13 8 ?_
            refine dn ?_
            replace S := S.pick 2 rfl rfl
            replace S := S.pick 2 rfl rfl
            replace S := S.pick 2 rfl rfl
            have hj := hJ (g6, g7, B3, d3, B4, d4) _ S
            simp only [putAll, Act.put, List.setIfInBounds_toArray, List.set_cons_zero, List.set_cons_succ] at hj
            exact hj
    · refine rn 7 S (fun g7 w2 S => ⟨S.kpq 1, ?_⟩)
      refine rd [3, 9] (by simp) (List.forall_mem_cons.2 ⟨?_, List.forall_mem_cons.2 ⟨?_, List.forall_mem_nil _⟩⟩)
      · refine rc 24 Tryd.func28 (HS _).out (fun r' w2 hT => ?_)
        obtain ⟨rfl, hb⟩ := hT
        replace S := S.call hb
        refine ⟨_, rfl, S.kpq 1, _, rfl, ?_⟩
        simp only [Act.put, List.setIfInBounds_toArray, List.set_cons_zero, List.set_cons_succ]
        refine rd [4, 9] (by simp) (List.forall_mem_cons.2 ⟨?_, List.forall_mem_cons.2 ⟨?_, List.forall_mem_nil _⟩⟩)
        · refine rc 25 Tryd.func27 (HV _ S.below).out (fun r' w2 hT => ?_)
          obtain ⟨B3, d3, B4, d4, rfl, hM, hb⟩ := TrV.openV hT
          replace S := S.push (a := .made k37 _ _) hb hM
          dsimp only at S
          refine ⟨_, rfl, S.kpq 2, _, rfl, ?_⟩
          simp only [Act.put, List.setIfInBounds_toArray, List.set_cons_zero, List.set_cons_succ]
          refine pu 5 20 ?_
          refine pu 6 26 ?_
          refine pu 7 27 ?_
          refine pu 8 28 ?_
          refine rd [9] (by simp) (List.forall_mem_cons.2 ⟨?_, List.forall_mem_nil _⟩)
          · refine rn 6 S (fun g6 w2 S => ⟨S.kpq 3, ?_⟩)
            refine lsd 11 3 S (fun w2 S => ?_)
            refine lsd 12 3 S (fun w2 S => ?_)
            refine pu 13 8 ?_
            refine dn ?_
            replace S := S.pick 0 rfl rfl
            replace S := S.pick 2 rfl rfl
            replace S := S.pick 2 rfl rfl
            have hj := hJ (g6, g7, B3, d3, B4, d4) _ S
            simp only [putAll, Act.put, List.setIfInBounds_toArray, List.set_cons_zero, List.set_cons_succ] at hj
            exact hj
        · refine rn 6 S (fun g6 w2 S => ⟨S.kpq 2, ?_⟩)
          refine rd [4] (by simp) (List.forall_mem_cons.2 ⟨?_, List.forall_mem_nil _⟩)
          · refine rc 25 Tryd.func27 (HV _ S.below).out (fun r' w2 hT => ?_)
            obtain ⟨B3, d3, B4, d4, rfl, hM, hb⟩ := TrV.openV hT
            replace S := S.push (a := .made k37 _ _) hb hM
            dsimp only at S
            refine ⟨_, rfl, S.kpq 3, _, rfl, ?_⟩
            simp only [Act.put, List.setIfInBounds_toArray, List.set_cons_zero, List.set_cons_succ]
            refine pu 5 20 ?_
            refine pu 6 26 ?_
            refine pu 7 27 ?_
            refine pu 8 28 ?_
            refine lsd 11 3 S (fun w2 S => ?_)
            refine lsd 12 3 S (fun w2 S => ?_)
            refine pu 13 8 ?_
            refine dn ?_
            replace S := S.pick 1 rfl rfl
            replace S := S.pick 2 rfl rfl
            replace S := S.pick 2 rfl rfl
            have hj := hJ (g6, g7, B3, d3, B4, d4) _ S
            simp only [putAll, Act.put, List.setIfInBounds_toArray, List.set_cons_zero, List.set_cons_succ] at hj
            exact hj
      · refine rn 6 S (fun g6 w2 S => ⟨S.kpq 2, ?_⟩)
        refine rd [3] (by simp) (List.forall_mem_cons.2 ⟨?_, List.forall_mem_nil _⟩)
        · refine rc 24 Tryd.func28 (HS _).out (fun r' w2 hT => ?_)
          obtain ⟨rfl, hb⟩ := hT
          replace S := S.call hb
          refine ⟨_, rfl, S.kpq 2, _, rfl, ?_⟩
          simp only [Act.put, List.setIfInBounds_toArray, List.set_cons_zero, List.set_cons_succ]
          refine rd [4] (by simp) (List.forall_mem_cons.2 ⟨?_, List.forall_mem_nil _⟩)
          · refine rc 25 Tryd.func27 (HV _ S.below).out (fun r' w2 hT => ?_)
            obtain ⟨B3, d3, B4, d4, rfl, hM, hb⟩ := TrV.openV hT
            replace S := S.push (a := .made k37 _ _) hb hM
            dsimp only at S
            refine ⟨_, rfl, S.kpq 3, _, rfl, ?_⟩
            simp only [Act.put, List.setIfInBounds_toArray, List.set_cons_zero, List.set_cons_succ]
            refine pu 5 20 ?_
            refine pu 6 26 ?_
            refine pu 7 27 ?_
            refine pu 8 28 ?_
            refine lsd 11 3 S (fun w2 S => ?_)
            refine lsd 12 3 S (fun w2 S => ?_)
            refine pu 13 8 ?_
            refine dn ?_
            replace S := S.pick 1 rfl rfl
            replace S := S.pick 2 rfl rfl
            replace S := S.pick 2 rfl rfl
            have hj := hJ (g6, g7, B3, d3, B4, d4) _ S
            simp only [putAll, Act.put, List.setIfInBounds_toArray, List.set_cons_zero, List.set_cons_succ] at hj
            exact hj
end Go.Proofs.YtidglmocekghmaaDoor.Pr
end
section
namespace Go.Proofs.YtidglmocekghmaaDoor.Pr
open Go.RowKit Go.Proofs.YtidglmocekghmaaDoorW.PrintWords Go.Proofs.YtidglmocekghmaaDoorW.PrintLast Go.Proofs.YtidglmocekghmaaDoorW.PrintMore
set_option linter.unusedVariables false
structure EnvS (w : World) (ad : Addr) (cp : Nat) (s : List Int) : Prop where
  rd : (Kd.int .u64).C w (some ad) s.length s
  le : s.length ≤ cp
  len : s.length ≤ 17592186040320
  ok : ∀ x ∈ s, 0 ≤ x ∧ x < 18446744073709551616
theorem EnvS.below {w w' : World} {ad : Addr} {cp : Nat} {s : List Int} (h : EnvS w ad cp s) (hb : Below w.heap.size w w') : EnvS w' ad cp s := ⟨Kd.C_below h.rd hb, h.le, h.len, h.ok⟩
theorem EnvS.at_ {w : World} {ad : Addr} {cp : Nat} {s : List Int} (h : EnvS w ad cp s) (i : Nat) (hi : i < s.length) : AtS w ad i (wd s i) := by
  obtain ⟨a0, c, e0, _, hK, hcc⟩ := Kd.C_get h.rd (0 : Int) i (by omega) (Int.ofNat_lt.2 hi)
  obtain rfl : c = [.int .u64 (wd s i)] := hK
  injection e0 with e0
  subst e0
  have := hcc 0 _ rfl
  simpa [Kd.int, Kd.scalar] using this
theorem EnvS.wd_bd {w : World} {ad : Addr} {cp : Nat} {s : List Int} (h : EnvS w ad cp s) (i : Nat) (hi : i < s.length) : 0 ≤ wd s i ∧ wd s i < 18446744073709551616 := h.ok _ (by
  unfold wd
  rw [List.getD_eq_getElem?_getD, List.getElem?_eq_getElem hi]
  exact List.getElem_mem hi)
def Okv (s : List Int) (f a : Nat) : Prop := ∃ m : Nat, (valR [s] f 0 a m).2.2 = 0
def VisS (f : Nat) : Prop := ∀ (ad : Addr) (cp : Nat) (s : List Int) (nx a : Nat) (w : World), EnvS w ad cp s → a < s.length → nx ≤ s.length → Okv s f a → Vi ad s.length cp nx a w (visI (visV s f a nx))
theorem vis_bd {s : List Int} {f a nx r : Nat} (h : Okv s f a) (ha : a < s.length) (hn : nx ≤ s.length) (hr : visV s f a nx = some r) : r ≤ s.length := by
  obtain ⟨m, hm⟩ := h
  have h1 := agr_vis s f a nx m ha hn
  rw [if_pos hm, hr] at h1
  exact (visM_in s f a nx m _ h1 hn).2.1
theorem vptrs_bd {V : Nat → Nat → Option Nat} {n : Nat} : ∀ {p i e r : Nat}, (∀ j, j < p → ∀ e, e ≤ n → ∀ r, V (i + j) e = some r → r ≤ n) → e ≤ n → vptrs V p i e = some r → r ≤ n
  | 0, i, e, r, _, he, h => by
    simp only [vptrs, Option.some.injEq] at h
    omega
  | p + 1, i, e, r, hV, he, h => by
    rw [vptrs] at h
    cases hq : V i e with
    | none => rw [hq] at h; cases h
    | some q =>
      rw [hq] at h
      exact vptrs_bd (p := p) (i := i + 1) (e := q) (fun j hj e he r hr => hV (j + 1) (by omega) e he r (by rw [show i + (j + 1) = i + 1 + j by omega]; exact hr)) (hV 0 (by omega) e he q hq) h
theorem kidsR_ok {v : Int → Int → Tr} (hs : Sinks v) : ∀ (n : Nat) (a m : Int), 0 ≤ m → (kidsR v n a m).2.2 = 0 → ∀ i : Nat, i < n → ∃ m' : Nat, (v (a + i) m').2.2 = 0
  | 0, _, _, _, _, i, hi => by omega
  | n + 1, a, m, hm, h, i, hi => by
    revert h
    unfold kidsR
    split
    · rename_i he
      intro h
      exact (he h).elim
    · rename_i he
      intro h
      match i with
      | 0 => exact ⟨m.toNat, by rw [show ((m.toNat : Nat) : Int) = m by omega]; simpa using he⟩
      | i + 1 =>
        obtain ⟨m', hm'⟩ := kidsR_ok hs n (a + 1) _ (hs a m hm).1 h i (by omega)
        exact ⟨m', by rw [show a + ((i + 1 : Nat) : Int) = a + 1 + i by omega]; exact hm'⟩
theorem ok_obj {s : List Int} {f a m : Nat} (ha : a < s.length) (h0 : wd s a ≠ 0) (hk : kindW (wd s a) ≠ 2) (h : (valR [s] (f + 1) 0 a m).2.2 = 0) : (objG [s] 0 a).2 = 0 ∧ 0 ≤ (m : Int) - (objG [s] 0 a).1.c ∧ (bodR [s] (valR [s] f) (objG [s] 0 a).1 ((m : Int) - (objG [s] 0 a).1.c)).2.2 = 0 := by
  rw [valR_obj ha h0 hk] at h
  by_cases h1 : (objG [s] 0 a).2 ≠ 0
  · rw [if_pos h1] at h
    exact (h1 h).elim
  · rw [if_neg h1] at h
    by_cases h2 : (m : Int) < (objG [s] 0 a).1.c
    · rw [if_pos h2] at h
      simp at h
    · rw [if_neg h2] at h
      exact ⟨by simpa using h1, by omega, h⟩
theorem viss_of {f : Nat} (IH : VisS f) {ad : Addr} {cp : Nat} {s : List Int} {w : World} (hE : EnvS w ad cp s) (i p e : Nat) (hi : i + p ≤ s.length) (he : e ≤ s.length) (ho : ∀ j, j < p → Okv s f (i + j)) : Vs ad s.length cp w e i p (visI (vptrs (visV s f) p i e)) := by
  intro e' i' k' w' hb h1 h2 h3
  subst h1 h2 h3
  refine Lib.hid (viss_any ad s.length cp e i p (visV s f) w' hE.len hi he (fun j hj e he r hr => vis_bd (ho j hj) (by omega) he hr) (fun j hj e he w2 hb2 => Lib.hid ?_))
  have := IH ad cp s e (i + j) w2 ((hE.below hb).below hb2) (by omega) he (ho j hj)
  rw [show ((i : Int) + j) = ((i + j : Nat) : Int) by omega]
  exact this
theorem str_ok {s : List Int} {f a nx d p : Nat} (ha : a < s.length) (h0 : wd s a ≠ 0) (hk : kindW (wd s a) = 0) (hd : dataW (wd s a) = d) (hp : ptrsW (wd s a) = p) (hst : (a : Int) + 1 + offW (wd s a) = nx) (h : Okv s (f + 1) a) : nx + (d + p) ≤ s.length ∧ ∀ j, j < p → Okv s f (nx + d + j) := by
  obtain ⟨m, hm⟩ := h
  obtain ⟨h1, h2, h3⟩ := ok_obj ha h0 (by omega) hm
  have hO : objG [s] 0 a = if inG [s] 0 (nx : Int) ((d : Int) + p) = true then (⟨1, 0, nx, d, p, 0, 0, (d : Int) + p⟩, 0) else (Ob.z, 2) := by
    unfold objG desM
    rw [folM_one ha (by omega)]
    simp only [pO, pD, pP, hk, hd, hp, h0, hst, ne_eq, not_true_eq_false, if_false, if_true, show ((0 : Int) = 3) = False by simp, show ((0 : Int) ≤ 1) = True by simp]
  by_cases hi : inG [s] 0 (nx : Int) ((d : Int) + p) = true
  · rw [if_pos hi] at hO
    rw [hO] at h2 h3
    rw [inG_one, decide_eq_true_eq] at hi
    refine ⟨by omega, fun j hj => ?_⟩
    unfold bodR at h3
    rw [if_pos rfl, strR_2] at h3
    dsimp only at h3 h2
    rw [Int.toNat_natCast] at h3
    obtain ⟨m', hm'⟩ := kidsR_ok (valR_sinks [s] f 0) p _ _ h2 h3 j hj
    exact ⟨m', by rw [show ((nx + d + j : Nat) : Int) = (nx : Int) + d + j by omega]; exact hm'⟩
  · rw [if_neg hi] at hO
    rw [hO] at h1
    simp at h1
theorem lst_ok {s : List Int} {f a nx c n : Nat} (ha : a < s.length) (h0 : wd s a ≠ 0) (hk : kindW (wd s a) = 1) (he : elemW (wd s a) ≠ 7) (hc : cntW (wd s a) = c) (hw : wordsE (elemW (wd s a)) c = n) (hst : (a : Int) + 1 + offW (wd s a) = nx) (h : Okv s (f + 1) a) : nx + n ≤ s.length ∧ (elemW (wd s a) = 6 → ∀ j, j < c → Okv s f (nx + j)) := by
  obtain ⟨m, hm⟩ := h
  obtain ⟨h1, h2, h3⟩ := ok_obj ha h0 (by omega) hm
  have hO : objG [s] 0 a = if inG [s] 0 (nx : Int) n = true then (⟨2, 0, nx, 0, 0, elemW (wd s a), c, n⟩, 0) else (Ob.z, 2) := by
    unfold objG desM
    rw [folM_one ha (by omega)]
    simp only [pO, pD, pP, pE, pC, hk, hc, h0, hst, hw, he, ne_eq, not_true_eq_false, not_false_eq_true, if_false, if_true, show ((1 : Int) = 3) = False by simp, show ((1 : Int) = 0) = False by simp, show ((1 : Int) ≤ 1) = True by simp]
    by_cases hi : inG [s] 0 (nx : Int) n = true <;> simp [hi]
  by_cases hi : inG [s] 0 (nx : Int) n = true
  · rw [if_pos hi] at hO
    rw [hO] at h2 h3
    rw [inG_one, decide_eq_true_eq] at hi
    refine ⟨by omega, fun h6 j hj => ?_⟩
    unfold bodR at h3
    dsimp only at h3 h2
    rw [if_neg (by omega), if_neg (by omega), if_pos h6, Int.toNat_natCast] at h3
    have h4 : (kidsR (valR [s] f 0) c (nx : Int) ((m : Int) - n)).2.2 = 0 := by
      revert h3
      split
      · exact fun h => h
      · rename_i hh
        intro _
        simpa using hh
    obtain ⟨m', hm'⟩ := kidsR_ok (valR_sinks [s] f 0) c _ _ h2 h4 j hj
    exact ⟨m', by rw [show ((nx + j : Nat) : Int) = (nx : Int) + j by omega]; exact hm'⟩
  · rw [if_neg hi] at hO
    rw [hO] at h1
    simp at h1
theorem cmp_ok {s : List Int} {f a nx c : Nat} (ha : a < s.length) (h0 : wd s a ≠ 0) (hk : kindW (wd s a) = 1) (he : elemW (wd s a) = 7) (hc : cntW (wd s a) = c) (hst : (a : Int) + 1 + offW (wd s a) = nx) (h : Okv s (f + 1) a) :
    nx + (c + 1) ≤ s.length ∧ ∃ (d p k : Nat) (cost : Int), dataW (wd s nx) = d ∧ ptrsW (wd s nx) = p ∧ offW (wd s nx) = k ∧ k * (d + p) ≤ c ∧ objG [s] 0 a = (⟨2, 0, (nx : Int) + 1, d, p, 7, k, cost⟩, 0) ∧ ∀ i, i < k → ∀ j, j < p → Okv s f (nx + 1 + i * (d + p) + d + j) := by
  obtain ⟨m, hm⟩ := h
  obtain ⟨h1, h2, h3⟩ := ok_obj ha h0 (by omega) hm
  have hI : inG [s] 0 (nx : Int) ((c : Int) + 1) = decide (nx + (c + 1) ≤ s.length) := by rw [inG_one]; congr 1; simp only [eq_iff_iff]; omega
  have hW : wordsE 7 (c : Int) = (c : Int) + 1 := rfl
  have hO : objG [s] 0 a = if nx + (c + 1) ≤ s.length then tagM 0 nx 7 ((c : Int) + 1) c (wdG [s] 0 nx) else (Ob.z, 2) := by
    unfold objG desM
    rw [folM_one ha (by omega)]
    simp only [pO, pD, pP, pE, pC, hk, he, hc, h0, hst, hW, hI, ne_eq, not_true_eq_false, if_false, if_true, show ((1 : Int) = 3) = False by simp, show ((1 : Int) = 0) = False by simp, show ((1 : Int) ≤ 1) = True by simp, decide_eq_false_iff_not]
    by_cases h3 : nx + (c + 1) ≤ s.length <;> simp [h3]
  by_cases hn : nx + (c + 1) ≤ s.length
  · rw [if_pos hn, wdG_one (by omega) (by omega), Int.toNat_natCast] at hO
    refine ⟨hn, ?_⟩
    generalize wd s nx = t at *
    obtain ⟨d, hd⟩ := Int.eq_ofNat_of_zero_le (dataW_bd t).1
    obtain ⟨p, hp⟩ := Int.eq_ofNat_of_zero_le (ptrsW_bd t).1
    rw [hO] at h1
    revert h1
    have hO2 := hO
    revert hO2
    unfold tagM
    split
    · intro _ h1; simp at h1
    rename_i hkt
    have hkt : kindW t = 0 := by omega
    have hpo : pO t = offW t := by unfold pO; rw [if_pos (by omega)]
    have hpd : pD t = d := by unfold pD; rw [if_pos hkt, hd]
    have hpp : pP t = p := by unfold pP; rw [if_pos hkt, hp]
    rw [hpo, hpd, hpp]
    split
    · intro _ h1; simp at h1
    rename_i ho
    obtain ⟨k, hk1⟩ := Int.eq_ofNat_of_zero_le (show 0 ≤ offW t by omega)
    rw [hk1]
    split
    · intro _ h1; simp at h1
    rename_i hkc
    have hkc' : k * (d + p) ≤ c := by
      have h5 : (k : Int) * ((d : Int) + p) ≤ c := by omega
      exact_mod_cast h5
    have fin : ∀ cost : Int, objG [s] 0 a = (⟨2, 0, (nx : Int) + 1, d, p, 7, k, cost⟩, 0) → ∃ (d' p' k' : Nat) (cost : Int), dataW t = d' ∧ ptrsW t = p' ∧ offW t = k' ∧ k' * (d' + p') ≤ c ∧ objG [s] 0 a = (⟨2, 0, (nx : Int) + 1, d', p', 7, k', cost⟩, 0) ∧ ∀ i, i < k' → ∀ j, j < p' → Okv s f (nx + 1 + i * (d' + p') + d' + j) := by
      intro cost hO3
      refine ⟨d, p, k, cost, hd, hp, hk1, hkc', hO3, fun i hi j hj => ?_⟩
      rw [hO3] at h3 h2
      unfold bodR at h3
      dsimp only at h3 h2
      rw [if_neg (by omega), if_neg (by omega), if_neg (by omega), Int.toNat_natCast, elsR_kids] at h3
      have h4 : (kidsR (fun i m => strR [s] (valR [s] f) (elG ⟨2, 0, (nx : Int) + 1, d, p, 7, k, cost⟩ i) m) k 0 ((m : Int) - cost)).2.2 = 0 := by
        revert h3
        split
        · exact fun h => h
        · rename_i hh
          intro _
          simpa using hh
      obtain ⟨m1, hm1⟩ := kidsR_ok (v := fun i m => strR [s] (valR [s] f) (elG ⟨2, 0, (nx : Int) + 1, d, p, 7, k, cost⟩ i) m) (fun i m h => strR_sinks [s] (valR_sinks [s] f) _ m h) k 0 _ h2 h4 i hi
      rw [Int.zero_add, strR_2] at hm1
      unfold elG at hm1
      dsimp only at hm1
      rw [Int.toNat_natCast] at hm1
      obtain ⟨m2, hm2⟩ := kidsR_ok (valR_sinks [s] f 0) p _ _ (by omega) hm1 j hj
      refine ⟨m2, ?_⟩
      rw [show ((nx + 1 + i * (d + p) + d + j : Nat) : Int) = (nx : Int) + 1 + (i : Int) * ((d : Int) + p) + d + j by push_cast; rfl]
      exact hm2
    split
    · intro hO2 _
      obtain ⟨d', p', k', cost, e1, e2, e3, e4, e5, e6⟩ := fin _ hO2
      exact ⟨d', p', k', cost, e1, e2, hk1.symm.trans e3, e4, e5, e6⟩
    · intro hO2 _
      obtain ⟨d', p', k', cost, e1, e2, e3, e4, e5, e6⟩ := fin _ hO2
      exact ⟨d', p', k', cost, e1, e2, hk1.symm.trans e3, e4, e5, e6⟩
  · rw [if_neg hn] at hO
    rw [hO] at h1
    simp at h1
theorem C_at {w : World} {ad ad' : Addr} {s : List Int} (h : (Kd.int .u64).C w (some ad) s.length s) (k n : Nat) (hk : k + n ≤ s.length) (ha : ad' = ad.add k ∨ n = 0) : (Kd.int .u64).C w (some ad') ((s.drop k).take n).length ((s.drop k).take n) := by
  have hl : ((s.drop k).take n).length = n := by rw [List.length_take, List.length_drop]; omega
  rcases ha with rfl | rfl
  · rw [hl]
    exact C_drop h k n hk
  · exact ⟨rfl, by simp, fun h => by simp at h⟩
theorem bytesE_fit (e c : Int) (n : Nat) (c0 : 0 ≤ c) (he : e ≠ 7) (hw : wordsE e c = n) : (bytesE e c).toNat ≤ 8 * n := by
  have h1 := Int.mul_nonneg (bitsE_bd e).1 c0
  unfold wordsE at hw
  rw [if_neg he] at hw
  unfold bytesE
  generalize bitsE e * c = b at *
  omega
theorem visI_some (n : Nat) : visI (some n) = (n : Int) := rfl
theorem vis_step (f : Nat) (hf : ∀ f', f = f' + 1 → VisS f') : VisS f := by
  intro ad cp s nx a w hE ha hnx ho
  have hv := hE.at_ a ha
  have hx := hE.wd_bd a ha
  by_cases h0 : wd s a = 0
  · have : visV s f a nx = some nx := by cases f <;> rw [visV, if_pos h0]
    rw [this]
    exact vis_1 ad s.length cp nx a w _ hv ha hE.len hx.1 hx.2 hnx h0
  by_cases hk : 1 < kindW (wd s a)
  · have : visV s f a nx = none := by
      cases f with
      | zero => rw [visV, if_neg h0]
      | succ f => rw [visV, if_neg h0, if_neg (by omega), if_neg (by omega)]
    rw [this]
    exact vis_2 ad s.length cp nx a w _ hv ha hE.len hx.1 hx.2 hnx h0 hk
  have hkb := kindW_bd (wd s a)
  cases f with
  | zero =>
    obtain ⟨m, hm⟩ := ho
    rw [valR, folM_one ha (by omega)] at hm
    simp [h0] at hm
  | succ f =>
    have IH := hf f rfl
    rw [visV, if_neg h0]
    by_cases hk0 : kindW (wd s a) = 0
    · rw [if_pos hk0]
      obtain ⟨d, hd⟩ := Int.eq_ofNat_of_zero_le (dataW_bd (wd s a)).1
      obtain ⟨p, hp⟩ := Int.eq_ofNat_of_zero_le (ptrsW_bd (wd s a)).1
      unfold vstr
      simp only [hd, hp, Int.toNat_natCast]
      by_cases hz : d + p = 0
      · rw [if_pos hz]
        by_cases hoff : offW (wd s a) = -1
        · rw [if_pos hoff]
          exact vis_4 ad s.length cp nx a w _ d p hv ha hE.len hx.1 hx.2 hnx h0 hk0 hd hp hz hoff
        · rw [if_neg hoff]
          exact vis_3 ad s.length cp nx a w _ d p hv ha hE.len hx.1 hx.2 hnx h0 hk0 hd hp hz hoff
      rw [if_neg hz]
      by_cases hst : (a : Int) + 1 + offW (wd s a) = nx
      · rw [if_pos hst]
        obtain ⟨hin, hkids⟩ := str_ok ha h0 hk0 hd hp hst ho
        have HVS := viss_of IH hE (nx + d) p (nx + (d + p)) (by omega) hin hkids
        have hA := hE.at_
        unfold lastM
        by_cases h1 : d = 0
        · by_cases h2 : p = 0
          · omega
          · have hz2 := hA (nx + (d + p) - 1) (by omega)
            rw [show nx + d + p - 1 = nx + (d + p) - 1 by omega, if_pos (by simp [h1])]
            by_cases hzz : wd s (nx + (d + p) - 1) = 0
            · rw [if_neg (by simp [h2, hzz])]
              exact vis_7b ad s.length cp nx a w _ d p hv ha hE.len hx.1 hx.2 hnx h0 hk0 hd hp hst hin hz h1 (by omega) _ hz2 hzz
            · rw [if_pos (by simp [hzz])]
              exact vis_8b ad s.length cp nx a w _ d p hv ha hE.len hx.1 hx.2 hnx h0 hk0 hd hp hst hin hz h1 (by omega) _ hz2 hzz _ HVS
        · have hy := hA (nx + d - 1) (by omega)
          by_cases hyy : wd s (nx + d - 1) = 0
          · rw [if_neg (by simp [h1, hyy])]
            exact vis_6 ad s.length cp nx a w _ d p hv ha hE.len hx.1 hx.2 hnx h0 hk0 hd hp hst hin hz (by omega) _ hy hyy
          · rw [if_pos (by simp [hyy])]
            by_cases h2 : p = 0
            · rw [if_pos (by simp [h2])]
              exact vis_8c ad s.length cp nx a w _ d p hv ha hE.len hx.1 hx.2 hnx h0 hk0 hd hp hst hin hz (by omega) _ hy hyy h2 _ HVS
            · have hz2 := hA (nx + (d + p) - 1) (by omega)
              rw [show nx + d + p - 1 = nx + (d + p) - 1 by omega]
              by_cases hzz : wd s (nx + (d + p) - 1) = 0
              · rw [if_neg (by simp [h2, hzz])]
                exact vis_7a ad s.length cp nx a w _ d p hv ha hE.len hx.1 hx.2 hnx h0 hk0 hd hp hst hin hz (by omega) _ hy hyy (by omega) _ hz2 hzz
              · rw [if_pos (by simp [hzz])]
                exact vis_8a ad s.length cp nx a w _ d p hv ha hE.len hx.1 hx.2 hnx h0 hk0 hd hp hst hin hz (by omega) _ hy hyy (by omega) _ hz2 hzz _ HVS
      · rw [if_neg hst]
        exact vis_5 ad s.length cp nx a w _ d p hv ha hE.len hx.1 hx.2 hnx h0 hk0 hd hp hz hst
    · have hk1 : kindW (wd s a) = 1 := by omega
      rw [if_neg hk0, if_pos hk1]
      obtain ⟨c, hc⟩ := Int.eq_ofNat_of_zero_le (cntW_bd (wd s a)).1
      have hcb := (cntW_bd (wd s a)).2
      obtain ⟨n, hw⟩ := Int.eq_ofNat_of_zero_le (wordsE_bd (elemW (wd s a)) (c : Int) (by omega) (by omega)).1
      have heb := elemW_bd (wd s a)
      by_cases hst : (a : Int) + 1 + offW (wd s a) = nx
      · by_cases he7 : elemW (wd s a) = 7
        · obtain ⟨hin, d, p, k, cost, hd, hp, hk2, hkc, hO, hkids⟩ := cmp_ok ha h0 hk1 he7 hc hst ho
          have hn1 : n = c + 1 := by
            rw [he7] at hw
            have : wordsE 7 (c : Int) = (c : Int) + 1 := rfl
            omega
          have hin2 : nx + n ≤ s.length := by omega
          have hkb : k ≤ 536870911 := by have := (offW_bd (wd s nx)).2; omega
          have hdb : d ≤ 65535 := by have := (dataW_bd (wd s nx)).2; omega
          have hpb : p ≤ 65535 := by have := (ptrsW_bd (wd s nx)).2; omega
          have hcb2 : c ≤ 536870911 := by omega
          have HOb : ObS ad s.length cp a w ⟨2, 0, (nx : Int) + 1, d, p, 7, k, cost⟩ := fun g w' hb hg => Lib.hid (by
            have := objG_any (some ⟨g, 0, none⟩) 1 [s] 0 a w' (C_sl1 hg hE.le (Kd.C_below hE.rd hb)) (by simp) (fun x hx => by have := hE.len; simp at hx; subst hx; omega) (fun x hx y hy => by simp at hx; subst hx; exact hE.ok y hy) (by omega) (by have := hE.len; omega) (by omega)
            rw [hO] at this
            exact this)
          have hA := hE.at_
          have hfit : ∀ j, j < k → j * (d + p) + (d + p) ≤ c := fun j hj => by
            have := Nat.mul_le_mul_right (d + p) (show j + 1 ≤ k by omega)
            rw [Nat.add_mul, Nat.one_mul] at this
            omega
          have HVb : ∀ j, j < k → ∀ e, e ≤ s.length → ∀ r, vptrs (visV s f) p (nx + 1 + d + j * (d + p)) e = some r → r ≤ s.length := fun j hj e he r hr => by
            have h5 := hfit j hj
            rw [show nx + 1 + d + j * (d + p) = nx + 1 + j * (d + p) + d by omega] at hr
            exact vptrs_bd (fun q hq e he r hr => vis_bd (hkids j hj q hq) (by omega) he hr) he hr
          have HVc : ∀ j, j < k → ∀ e : Nat, e ≤ s.length → ∀ w', Below w.heap.size w w' → Hid (Calls Tryd.prog 37 #[.slice (some ad) s.length cp, .int .i64 e, .int .i64 ((nx : Int) + 1 + (j * (d + p) : Nat) + (d : Int)), .int .i64 p] w' fun r w1 => r = .returned (.int .i64 (visI (vptrs (visV s f) p (nx + 1 + d + j * (d + p)) e))) ∧ Below w'.heap.size w' w1) := fun j hj e he w' hb => by
            have h5 := hfit j hj
            have := viss_of IH hE (nx + 1 + j * (d + p) + d) p e (by omega) he (fun q hq => hkids j hj q hq) e ((nx : Int) + 1 + (j * (d + p) : Nat) + (d : Int)) p w' hb rfl (by push_cast; rfl) rfl
            rw [show nx + 1 + j * (d + p) + d = nx + 1 + d + j * (d + p) by omega] at this
            exact this
          unfold vlist vcomp
          rw [if_pos he7, if_pos hst, hk2, hd, hp, hc]
          simp only [Int.toNat_natCast]
          by_cases hq : (k : Int) * ((d : Int) + p) = c
          · rw [if_pos hq, ← hn1]
            have hqN : k * (d + p) = c := by exact_mod_cast hq
            by_cases h1 : d = 0
            · subst h1
              by_cases h2 : p = 0
              · subst h2
                exact vis_12_00 ad s.length cp nx a w _ c n k hv ha hE.len hx.1 hx.2 hnx hE.le h0 hk1 hc hw hst hin2 he7 hn1 hkb cost HOb s hA (visV s f) hqN hcb2 _ (Lib.hid (by simp))
              · exact vis_12_01 ad s.length cp nx a w _ c n p k hv ha hE.len hx.1 hx.2 hnx hE.le h0 hk1 hc hw hst hin2 he7 hn1 (by omega) hpb hkb cost HOb s hA (visV s f) hqN hcb2 HVb (fun j hj e he w' hb => by have := HVc j hj e he w' hb; simpa using this) _ (Lib.hid (by simp [h2]))
            · by_cases h2 : p = 0
              · subst h2
                exact vis_12_10 ad s.length cp nx a w _ c n d k hv ha hE.len hx.1 hx.2 hnx hE.le h0 hk1 hc hw hst hin2 he7 hn1 (by omega) hdb hkb cost HOb s hA (visV s f) hqN hcb2 _ (Lib.hid (by simp [h1]))
              · exact vis_12_11 ad s.length cp nx a w _ c n d p k hv ha hE.len hx.1 hx.2 hnx hE.le h0 hk1 hc hw hst hin2 he7 hn1 (by omega) hdb (by omega) hpb hkb cost HOb s hA (visV s f) hqN hcb2 HVb HVc _ (Lib.hid (by simp [h1, h2]))
          · rw [if_neg hq]
            have hqb : k * (d + p) ≤ 536870911 := by omega
            have hqe : (k : Int) * ((d : Int) + p) = (k * (d + p) : Nat) := by push_cast; rfl
            rw [hqe] at hq
            by_cases h1 : d = 0
            · subst h1
              by_cases h2 : p = 0
              · subst h2
                exact vis_12n_00 ad s.length cp nx a w _ c n k hv ha hE.len hx.1 hx.2 hnx hE.le h0 hk1 hc hw hst hin2 he7 hn1 hkb cost HOb _ (by simpa using hq) (Lib.hid rfl)
              · exact vis_12n_01 ad s.length cp nx a w _ c n p k hv ha hE.len hx.1 hx.2 hnx hE.le h0 hk1 hc hw hst hin2 he7 hn1 (by omega) hpb hkb cost HOb (k * (0 + p)) (by simp) _ hqb hq (Lib.hid rfl)
            · by_cases h2 : p = 0
              · subst h2
                exact vis_12n_10 ad s.length cp nx a w _ c n d k hv ha hE.len hx.1 hx.2 hnx hE.le h0 hk1 hc hw hst hin2 he7 hn1 (by omega) hdb hkb cost HOb (k * (d + 0)) (by simp) _ hqb hq (Lib.hid rfl)
              · exact vis_12n_11 ad s.length cp nx a w _ c n d p k hv ha hE.len hx.1 hx.2 hnx hE.le h0 hk1 hc hw hst hin2 he7 hn1 (by omega) hdb (by omega) hpb hkb cost HOb (k * (d + p)) hqe _ hqb hq (Lib.hid rfl)
        · obtain ⟨hin, hkids⟩ := lst_ok ha h0 hk1 he7 hc hw hst ho
          unfold vlist
          rw [if_neg he7, if_pos hst, hc, hw, Int.toNat_natCast]
          by_cases he6 : elemW (wd s a) = 6
          · have hnc : n = c := by
              rw [he6] at hw
              unfold wordsE bitsE at hw
              simp at hw
              omega
            rw [if_pos he6]
            subst hnc
            exact vis_10 ad s.length cp nx a w _ n n hv ha hE.len hx.1 hx.2 hnx h0 hk1 hc hw hst hin he6 _ (viss_of IH hE nx n (nx + n) hin hin (hkids he6))
          · rw [if_neg he6]
            have hbl : (bytesL ((s.drop nx).take n)).length = 8 * n := by rw [bytesL_length, List.length_take, List.length_drop]; omega
            have hl : ((s.drop nx).take n).length = n := by rw [List.length_take, List.length_drop]; omega
            refine vis_11 ad s.length cp nx a w _ c n hv ha hE.len hx.1 hx.2 hnx hE.le h0 hk1 hc hw hst hin (by omega) (bytesL ((s.drop nx).take n)) (trimE (elemW (wd s a)) c (bytesL ((s.drop nx).take n))) (by have := hE.len; omega) _ (fun hall => ?_) (fun i hi hne => ?_) (fun ad' c' w' hb had => Lib.hid ?_) (fun A' c' w' hr => Lib.hid ?_)
            · rw [if_pos (restM_all hall), visI_some]
              push_cast
              rfl
            · rw [if_neg (by rw [restM_not hi hne]; simp)]
              rfl
            · have := rbytes_any (some ad') c' ((s.drop nx).take n) w' (C_at (Kd.C_below hE.rd hb) nx n hin had) (by rw [hl]; have := hE.len; omega) (fun x hx => hE.ok x (List.mem_of_mem_drop (List.mem_of_mem_take hx)))
              rw [hl] at this
              exact this
            · exact rtrim_any (elemW (wd s a)) c A' c' _ w' hr (bytesL_bd _) (by omega) (by omega) (by rw [hbl]; exact bytesE_fit _ _ _ (by omega) he7 hw)
      · have : vlist s (visV s f) a (wd s a) nx = none := by
          unfold vlist vcomp
          rw [if_neg hst, if_neg hst]
          simp
        rw [this]
        exact vis_9 ad s.length cp nx a w _ c n hv ha hE.len hx.1 hx.2 hnx h0 hk1 hc hw hst
theorem vis_all : ∀ f, VisS f
  | 0 => vis_step 0 (fun f' h => by omega)
  | f + 1 => vis_step (f + 1) (fun f' h => by
    obtain rfl : f = f' := by omega
    exact vis_all f)
end Go.Proofs.YtidglmocekghmaaDoor.Pr
end
section
namespace Go.Proofs.YtidglmocekghmaaDoor.Pr
open Go.RowKit Go.Proofs.YtidglmocekghmaaDoorW.PrintWords Go.Proofs.YtidglmocekghmaaDoorW.PrintLast Go.Proofs.YtidglmocekghmaaDoorW.PrintMore
set_option linter.unusedVariables false
set_option linter.unusedSimpArgs false
def fewG (G : List (List Int)) : Bool := decide (∀ i, i < G.length → (sgG G i).length ≤ 300) && decide (G.length ≤ 20)
end Go.Proofs.YtidglmocekghmaaDoor.Pr
end
