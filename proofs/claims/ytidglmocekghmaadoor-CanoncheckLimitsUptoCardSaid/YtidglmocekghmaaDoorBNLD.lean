/- A part of the proof of YtidglmocekghmaaDoorLimitsCard (the texts that it stands on, gathered; declarations that nothing uses are left out). -/
import Derived.Test.YtidglmocekghmaaDoorBNLC
import Derived.Below
import Derived.Deep.Draws
import Derived.Deep.AppendLies
import Derived.Maps.AppendAt
import Derived.OwnWalk
import Derived.Laws.BytesArg
import Derived.Laws.MakeOwn
import Derived.Laws.OwnMore
import Derived.Deep.OwnRows
import Derived.Tactics
import Derived.Lib.ConvBytes
import Derived.Laws.Slices
import Derived.WalkKit
import Derived.KernelRfl
import Derived.RowKit3
import Derived.Deep.LoopGhost
import Derived.Deep.QuietTactic
import Derived.BigQuiet
import Derived.WideLaws
import Derived.Deep.DeepCutAuto
import Derived.Deep.CutBlock
import Derived.Deep.RegionHeld3
import Derived.Laws.Rows
import Derived.Lib.AppendStr
import Derived.ArgAppend
import Derived.Laws.IdiomCopy
import Derived.RowKit
import Derived.OrdersHeld
import Derived.Laws.BitsLemmas
import Derived.Laws.StructEq
import Derived.SizedLaws
import Derived.ChangeSlices
import Derived.Test.YtidglmocekghmaaDoorProg
import Derived.Lib.Hide
import Derived.WalkLawsBesides
import Derived.WalkSpells
import Derived.Outline
import Derived.IntWalk
import Derived.Laws.AppendOwn
import Derived.RangeFuncBox
import Derived.Lib.JoinLaws
import Derived.Defers
import Derived.Recover
import Derived.Laws.Pointers
import Derived.Test.YtidglmocekghmaaDoorCards
import Derived.ProofKit
import Derived.LaidMore
import Derived.LaidHandle
import Derived.Maps.Keyed
import Derived.WideKeyElems2
import Derived.Lib.LaidTab
import Derived.OpenShut
import Derived.Lib.SmallJoins
set_option linter.unusedVariables false
set_option linter.unusedSimpArgs false
section
namespace Go.Proofs.YtidglmocekghmaaDoor.Pr
open Go.RowKit Go.Proofs.YtidglmocekghmaaDoorW.PrintWords Go.Proofs.YtidglmocekghmaaDoorW.PrintLast Go.Proofs.YtidglmocekghmaaDoorW.PrintMore
set_option linter.unusedVariables false
set_option linter.unusedSimpArgs false
theorem words_any6 (e c : Int) (w : World) (c0 : 0 ≤ c) (c1 : c ≤ 536870911) : Calls Tryd.prog 36 #[.int .i64 e, .int .i64 c] w fun r w' => r = .returned (.int .i64 (wordsE e c)) ∧ w' = w := by
 by_cases h : e = 7
 ·subst h
  go_enter Tryd.func36, Tryd.ntmps36
  go_wp2
  go_ret
  exact ⟨rfl, rfl⟩
 ·have h7 : (e == 7) = false := beq_eq_false_iff_ne.2 h
  obtain ⟨b0, b1⟩ := bitsE_mul e c c0 c1
  have HR : Hid (wordsE e c = (bitsE e * c + 63) / 64) := Lib.hid (by unfold wordsE; rw [if_neg h])
  have HB := fun w => Lib.hid (bits_any e w)
  clear h
  generalize bitsE e = b at *
  obtain ⟨n, hp⟩ : ∃ n, b * c = n := ⟨_, rfl⟩
  have HP := Lib.hid hp
  rw [hp] at b0 b1
  by_cases hl : n / 64 * 64 < n
  all_goals
   go_enter Tryd.func36, Tryd.ntmps36
   go_wp2_with ((with_reducible refine (HB _).out.mono ?_); rintro r w' ⟨rfl, rfl⟩)
   go_ret
   exact ⟨ret_k (by rw [HR.out, HP.out]; omega), rfl⟩
theorem bytes_any6 (e c : Int) (w : World) (c0 : 0 ≤ c) (c1 : c ≤ 536870911) : Calls Tryd.prog 44 #[.int .i64 e, .int .i64 c] w fun r w' => r = .returned (.int .i64 (bytesE e c)) ∧ w' = w := by
 obtain ⟨b0, b1⟩ := bitsE_mul e c c0 c1
 have HR : Hid (bytesE e c = (bitsE e * c + 7) / 8) := Lib.hid rfl
 have HB := fun w => Lib.hid (bits_any e w)
 generalize bitsE e = b at *
 obtain ⟨n, hp⟩ : ∃ n, b * c = n := ⟨_, rfl⟩
 have HP := Lib.hid hp
 rw [hp] at b0 b1
 by_cases hl : n / 8 * 8 < n
 all_goals
  go_enter Tryd.func44, Tryd.ntmps44
  go_wp2_with ((with_reducible refine (HB _).out.mono ?_); rintro r w' ⟨rfl, rfl⟩)
  go_ret
  exact ⟨ret_k (by rw [HR.out, HP.out]; omega), rfl⟩
theorem isFar_any (x : Int) (w : World) (h0 : 0 ≤ x) (h1 : x < 18446744073709551616) : Calls Tryd.prog 72 #[.int .u64 x] w fun r w' => r = .returned (.bool (decide (kindW x = 2))) ∧ w' = w := by
 go_enter Tryd.func72, Tryd.ntmps72
 go_wp2
 go_ret
 exact ⟨ret_b rfl, rfl⟩
set_option maxRecDepth 100000 in
theorem landing_any (x : Int) (w : World) (h0 : 0 ≤ x) (h1 : x < 18446744073709551616) : Calls Tryd.prog 73 #[.int .u64 x] w fun r w' => r = .returned (.tuple #[.int .i64 (segW x), .int .i64 (padW x)]) ∧ w' = w := by
 have H1 : Hid (segW x = x / 4294967296) := Lib.hid (by unfold segW; omega)
 have H2 : Hid (padW x = x % 4294967296 / 8) := Lib.hid (by unfold padW; omega)
 go_enter Tryd.func73, Tryd.ntmps73
 go_wp2
 go_ret2
 exact ⟨by rw [H1.out, H2.out]; rfl, rfl⟩
end Go.Proofs.YtidglmocekghmaaDoor.Pr
end
section
namespace Go.Proofs.YtidglmocekghmaaDoor.Pr
open Go.RowKit Go.Proofs.YtidglmocekghmaaDoorW.PrintWords Go.Proofs.YtidglmocekghmaaDoorW.PrintLast Go.Proofs.YtidglmocekghmaaDoorW.PrintMore
set_option linter.unusedVariables false
set_option linter.unusedSimpArgs false
theorem bytesE_bd (e c : Int) (c0 : 0 ≤ c) (c1 : c ≤ 536870911) : 0 ≤ bytesE e c ∧ bytesE e c ≤ 4294967296 := by
 have := bitsE_mul e c c0 c1
 unfold bytesE
 omega
theorem trimE_length (e c : Int) (b : List Int) (h : (bytesE e c).toNat ≤ b.length) : (trimE e c b).length = (bytesE e c).toNat := by
 unfold trimE
 split
 ·rw [List.length_set, List.length_take]; omega
 ·rw [List.length_take]; omega
theorem trimE_at (e c : Int) (b : List Int) (c0 : 0 ≤ c) (j : Nat) (hj : (j : Int) < bytesE e c) (h : (bytesE e c).toNat ≤ b.length) : wd (trimE e c b) j = if e = 1 ∧ c < 8 * j + 8 then wd b j % p2 (c - 8 * j).toNat else wd b j := by
 have hjl : j < (bytesE e c).toNat := by omega
 unfold trimE
 by_cases h1 : e = 1 ∧ 0 < c % 8
 ·obtain ⟨rfl, h8⟩ := h1
  rw [if_pos ⟨rfl, h8⟩]
  have hB : bytesE 1 c = (c + 7) / 8 := by simp [bytesE, bitsE]
  generalize hN : (bytesE 1 c).toNat = N at *
  have hN2 : (N : Int) = (c + 7) / 8 := by rw [← hB, ← hN]; omega
  clear hB hN hj
  by_cases hl : j = N - 1
  ·rw [if_pos ⟨rfl, by omega⟩]
   subst hl
   have e1 : (c - 8 * ((N - 1 : Nat) : Int)).toNat = (c % 8).toNat := by omega
   rw [e1]
   unfold wd
   rw [List.getD_eq_getElem?_getD, List.getElem?_set_self (by rw [List.length_take]; omega)]
   rfl
  ·rw [if_neg (by omega)]
   unfold wd
   rw [List.getD_eq_getElem?_getD, List.getD_eq_getElem?_getD, List.getElem?_set_ne (by omega), List.getElem?_take_of_lt (by omega)]
   simp [List.getD_eq_getElem?_getD]
 ·rw [if_neg h1, if_neg (by
   rintro ⟨rfl, h2⟩
   have hB : bytesE 1 c = (c + 7) / 8 := by simp [bytesE, bitsE]
   rw [hB] at hj
   omega)]
  unfold wd
  rw [List.getD_eq_getElem?_getD, List.getD_eq_getElem?_getD, List.getElem?_take_of_lt hjl]
theorem take_wd (xs : List Int) (k : Nat) (h : k < xs.length) : xs.take (k + 1) = xs.take k ++ [wd xs k] := by
 have := take_next xs 0 k (by omega)
 simpa using this
set_option maxHeartbeats 1000000 in
theorem rtrim_any (e c : Int) (A : Option Addr) (cp : Nat) (b : List Int) (w : World) (hr : Kd.C (Kd.int .u8) w A b.length b) (h0 : ∀ x ∈ b, 0 ≤ x ∧ x < 256) (c0 : 0 ≤ c) (c1 : c ≤ 536870911) (hl : (bytesE e c).toNat ≤ b.length) :
    Calls Tryd.prog 39 #[.int .i64 e, .int .i64 c, .slice A b.length cp] w fun r w' => ∃ v, r = .returned v ∧ Kd.R (Kd.int .u8) 5 w' w.heap.size (fun _ => True) v (trimE e c b) ∧ Below w.heap.size w w' := by
  have HK : Hid (∀ k : Nat, k < b.length → ∃ a0, A = some a0 ∧ w.cell? (a0.add k) = some (.int .u8 (wd b k))) := Lib.hid (fun k hk => by
    obtain ⟨a0, c, e0, _, hK, hcc⟩ := Kd.C_get hr (0 : Int) k (by omega) (Int.ofNat_lt.2 hk)
    obtain rfl : c = [.int .u8 (wd b k)] := hK
    refine ⟨a0, e0, ?_⟩
    have := hcc 0 _ rfl
    simpa [Kd.int, Kd.scalar] using this)
  have HBD : Hid (∀ k : Nat, k < b.length → 0 ≤ wd b k ∧ wd b k < 256) := Lib.hid (fun k hk => h0 _ (by
    unfold wd
    rw [List.getD_eq_getElem?_getD, List.getElem?_eq_getElem hk]
    exact List.getElem_mem hk))
  have S := Lib.hid ((Sep.start w).nil (Kd.int .u8) 5)
  have HT := Lib.hid (fun j hj => trimE_at e c b c0 j hj hl)
  have HTL := Lib.hid (trimE_length e c b hl)
  have HB := fun w => Lib.hid (bytes_any6 e c w c0 c1)
  have hbd := bytesE_bd e c c0 c1
  obtain ⟨n, hn⟩ : ∃ n : Nat, bytesE e c = n := ⟨(bytesE e c).toNat, by omega⟩
  rw [hn] at HB HT HTL hl hbd
  simp only [Int.toNat_natCast] at HTL hl
  generalize trimE e c b = T at *
  obtain ⟨m, hm⟩ : ∃ m, b.length = m := ⟨_, rfl⟩
  have HM := Lib.hid hm
  have HN := Lib.hid hn
  rw [HM.out] at hl ⊢
  clear hr h0 hm hn
  obtain ⟨-, hbd⟩ := hbd
  go_enter Tryd.func39, Tryd.ntmps39
  go_wp2
  go_loopw [7, 8] (fun v k wr => ∃ j : Nat, j ≤ n ∧ k = .int .i64 j ∧ Hid (Sep w wr [.row (Kd.int .u8) 5 v (T.take j)])) (fun _ k _ => n - (intOf k).toNat)
  case atStart => exact ⟨0, Nat.zero_le _, rfl, S⟩
  case round =>
    clear S
    obtain ⟨j, hj, rfl, S⟩ := hrel
    by_cases hjl : j < n
    · obtain ⟨a0, rfl, hv⟩ := HK.out j (by rw [HM.out]; omega)
      have hv := pw_cell_below S.out.below hv
      obtain ⟨b0, b1⟩ := HBD.out j (by rw [HM.out]; omega)
      have HX : Hid (T.take (j + 1) = T.take j ++ [if e = 1 ∧ c < 8 * j + 8 then wd b j % p2 (c - 8 * j).toNat else wd b j]) := Lib.hid (by rw [← HT.out j (by omega)]; exact take_wd T j (by rw [HTL.out]; exact hjl))
      have HLL : Hid ((T.take j).length ≤ 4294967296) := Lib.hid (by rw [List.length_take, HTL.out]; omega)
      generalize wd b j = x at *
      by_cases hh : e = 1 ∧ c < 8 * j + 8
      · obtain ⟨rfl, h8⟩ := hh
        have HX : Hid (T.take (j + 1) = T.take j ++ [x % p2 (c - 8 * j).toNat]) := Lib.hid (by rw [HX.out, if_pos ⟨rfl, h8⟩])
        have d1 : decide (c < 8 * (j : Int) + 8) = true := decide_eq_true h8
        have hn1 : (c + 7) / 8 = (n : Int) := by rw [← HN.out]; simp [bytesE, bitsE]
        obtain ⟨q, hq⟩ : ∃ q : Nat, c - 8 * (j : Int) = q := ⟨(c - 8 * (j : Int)).toNat, by omega⟩
        have hq1 : q ≤ 8 := by omega
        rw [hq, Int.toNat_natCast] at HX
        clear hn1
        go_wp2_with ((with_reducible refine (HB _).out.mono ?_); rintro r w' ⟨rfl, rfl⟩)
        go_loop [11, 12] (fun v k => ∃ i : Nat, i ≤ q ∧ k = .int .i64 i ∧ v = .int .i64 (p2 i)) (fun _ k => q - (intOf k).toNat)
        case atStart => exact ⟨0, Nat.zero_le _, rfl, rfl⟩
        case round =>
          obtain ⟨i, hi, rfl, rfl⟩ := hrel
          have q0 := p2_pos i
          have q1 := p2_le (k := i) (m := 8) (by omega)
          rw [show p2 8 = 256 from rfl] at q1
          by_cases hiq : i < q
          · have h3 := Lib.hid (p2_succ i)
            go_wp2
            go_round
            case rel => exact ⟨i + 1, by omega, by go_num, by rw [h3.out]⟩
            case measure => simp [intOf]; omega
          · obtain rfl : i = q := by omega
            have y0 : 0 ≤ x % p2 i := Int.emod_nonneg _ (Int.ne_of_gt q0)
            have y1 : x % p2 i < 256 := Int.lt_of_lt_of_le (Int.emod_lt_of_pos _ q0) q1
            have q2 : p2 i ≠ 0 := Int.ne_of_gt q0
            have S1 : Sep w w' [.row (Kd.int .u8) 5 u7 (T.take j), .made (Kd.int .u8) (x % p2 i) [.int .u8 (x % p2 i)]] := (S.out.one (Value.int .u8) (fun _ => rfl) (x % p2 i)).swap
            have S := Lib.hid S1
            clear S1
            go_wp2_with (at_builtin; refine sp_append S.out rfl rfl Tryd.underlying34 info5 rfl (by decide) (by omega) rfl rfl (by have := HLL.out; omega) (fun v1 w1 S => ?_))
            go_roundw
            case rel => exact ⟨j + 1, by omega, by go_num, Lib.hid (by rw [HX.out]; exact S)⟩
            case measure => simp [intOf]; omega
      · have HX2 : Hid (T.take (j + 1) = T.take j ++ [x]) := Lib.hid (by rw [HX.out, if_neg hh])
        have S1 : Sep w wr [.row (Kd.int .u8) 5 u7 (T.take j), .made (Kd.int .u8) x [.int .u8 x]] := (S.out.one (Value.int .u8) (fun _ => rfl) x).swap
        have S := Lib.hid S1
        clear S1
        by_cases he : e = 1
        · have d1 : decide (c < 8 * (j : Int) + 8) = false := decide_eq_false (fun h => hh ⟨he, h⟩)
          subst he
          clear hh
          go_wp2_with (first | ((with_reducible refine (HB _).out.mono ?_); rintro r w' ⟨rfl, rfl⟩) | (at_builtin; refine sp_append S.out rfl rfl Tryd.underlying34 info5 rfl (by decide) (by omega) rfl rfl (by have := HLL.out; omega) (fun v1 w1 S => ?_)))
          go_roundw
          case rel => exact ⟨j + 1, by omega, by go_num, Lib.hid (by rw [HX2.out]; exact S)⟩
          case measure => simp [intOf]; omega
        · have d1 : (e == 1) = false := beq_eq_false_iff_ne.2 he
          clear hh he
          go_wp2_with (first | ((with_reducible refine (HB _).out.mono ?_); rintro r w' ⟨rfl, rfl⟩) | (at_builtin; refine sp_append S.out rfl rfl Tryd.underlying34 info5 rfl (by decide) (by omega) rfl rfl (by have := HLL.out; omega) (fun v1 w1 S => ?_)))
          go_roundw
          case rel => exact ⟨j + 1, by omega, by go_num, Lib.hid (by rw [HX2.out]; exact S)⟩
          case measure => simp [intOf]; omega
    · obtain rfl : j = n := by omega
      go_wp2_with ((with_reducible refine (HB _).out.mono ?_); rintro r w' ⟨rfl, rfl⟩)
      go_ret
      exact ⟨_, rfl, by have := S.out.outR .here; rwa [← HTL.out, List.take_length] at this, S.out.below⟩
end Go.Proofs.YtidglmocekghmaaDoor.Pr
end
section
namespace Go.Proofs.YtidglmocekghmaaDoor.Pr
open Go.RowKit Go.Proofs.YtidglmocekghmaaDoorW.PrintWords Go.Proofs.YtidglmocekghmaaDoorW.PrintLast Go.Proofs.YtidglmocekghmaaDoorW.PrintMore
set_option linter.unusedVariables false
set_option linter.unusedSimpArgs false
def pO (w : Int) : Int := if kindW w ≤ 1 then offW w else 0
def pD (w : Int) : Int := if kindW w = 0 then dataW w else 0
def pP (w : Int) : Int := if kindW w = 0 then ptrsW w else 0
def pE (w : Int) : Int := if kindW w = 1 then elemW w else 0
def pC (w : Int) : Int := if kindW w = 1 then cntW w else 0
def pB (w : Int) : Bool := if kindW w = 2 then dblW w else false
def pF (w : Int) : Int := if kindW w = 2 then padW w else 0
def pS (w : Int) : Int := if kindW w ≤ 1 then 0 else segW w
def pL (w : Int) : Int := if kindW w ≤ 2 then 0 else lowW w
theorem decV_lit (w : Int) : decV w = .agg #[.int .i64 (kindW w), .int .i64 (pO w), .int .i64 (pD w), .int .i64 (pP w), .int .i64 (pE w), .int .i64 (pC w), .bool (pB w), .int .i64 (pF w), .int .u32 (pS w), .int .u32 (pL w)] := by
 have hb := kindW_bd w
 unfold decV pO pD pP pE pC pB pF pS pL
 rcases (by omega : kindW w = 0 ∨ kindW w = 1 ∨ kindW w = 2 ∨ kindW w = 3) with h | h | h | h <;> simp [h, aggP]
theorem rdec_lit (w : Int) (W : World) (h0 : 0 ≤ w) (h1 : w < 18446744073709551616) :
  Calls Tryd.prog 35 #[.int .u64 w] W fun e W' => e = .returned (.agg #[.int .i64 (kindW w), .int .i64 (pO w), .int .i64 (pD w), .int .i64 (pP w), .int .i64 (pE w), .int .i64 (pC w), .bool (pB w), .int .i64 (pF w), .int .u32 (pS w), .int .u32 (pL w)]) ∧ Below W.heap.size W W' := decV_lit w ▸ rdecode_any w W h0 h1
def farB (x : Int) : Bool := decide (kindW x = 2)
theorem far_any (x : Int) (w : World) (h0 : 0 ≤ x) (h1 : x < 18446744073709551616) : Calls Tryd.prog 72 #[.int .u64 x] w fun r w' => r = .returned (.bool (farB x)) ∧ w' = w := isFar_any x w h0 h1
def folM (G : List (List Int)) (s a : Int) : Int × Int × Int × Int :=
 if inG G s a 1 = false then (0, 0, 0, 2)
 else if farB (wdG G s a) = false then (wdG G s a, s, a + 1, 0)
 else if inG G (segW (wdG G s a)) (padW (wdG G s a)) 1 = false then (0, 0, 0, 2)
 else if wdG G s a / 4 % 2 = 0 then
  if farB (wdG G (segW (wdG G s a)) (padW (wdG G s a))) = true then (0, 0, 0, 3) else (wdG G (segW (wdG G s a)) (padW (wdG G s a)), segW (wdG G s a), padW (wdG G s a) + 1, 0)
 else if inG G (segW (wdG G s a)) (padW (wdG G s a) + 1) 1 = false then (0, 0, 0, 2)
 else if farB (wdG G (segW (wdG G s a)) (padW (wdG G s a))) = false then (0, 0, 0, 3)
 else if wdG G (segW (wdG G s a)) (padW (wdG G s a)) / 4 % 2 = 1 then (0, 0, 0, 3)
 else if 1 < kindW (wdG G (segW (wdG G s a)) (padW (wdG G s a) + 1)) then (0, 0, 0, 3)
 else if pO (wdG G (segW (wdG G s a)) (padW (wdG G s a) + 1)) ≠ 0 then (0, 0, 0, 3)
 else (wdG G (segW (wdG G s a)) (padW (wdG G s a) + 1), segW (wdG G (segW (wdG G s a)) (padW (wdG G s a))), padW (wdG G (segW (wdG G s a)) (padW (wdG G s a))), 0)
def folV (r : Int × Int × Int × Int) : Value := .tuple #[.int .u64 r.1, .int .i64 r.2.1, .int .i64 r.2.2.1, .int .i64 r.2.2.2]
abbrev OkG (G : List (List Int)) : Prop := ∀ x ∈ G, ∀ y ∈ x, 0 ≤ y ∧ y < 18446744073709551616
theorem wdG_bd {G : List (List Int)} (h : OkG G) (s a : Int) : 0 ≤ wdG G s a ∧ wdG G s a < 18446744073709551616 := by
 unfold wdG
 split
 ·rename_i hi
  obtain ⟨s0, s1, a0, a1⟩ := inG_1 hi
  have h1 : s.toNat < G.length := by omega
  have h2 : a.toNat < (sgG G s).length := by omega
  unfold wd
  rw [List.getD_eq_getElem?_getD, List.getElem?_eq_getElem h2]
  refine h _ ?_ _ (List.getElem_mem h2)
  unfold sgG
  rw [List.getD_eq_getElem?_getD, List.getElem?_eq_getElem h1]
  exact List.getElem_mem h1
 ·exact ⟨by omega, by omega⟩
set_option maxRecDepth 100000 in
set_option maxHeartbeats 4000000 in
theorem fol_any (A : Option Addr) (c : Nat) (G : List (List Int)) (s a : Int) (w : World) (hr : RdG w A G) (hg : G.length ≤ 4611686018427387904) (hl : ∀ x ∈ G, x.length ≤ 4611686018427387904) (hk : OkG G) (a0 : -4611686018427387904 ≤ a) (a1 : a ≤ 4611686018427387904) :
    Calls Tryd.prog 51 #[.slice A G.length c, .int .i64 s, .int .i64 a] w fun e w' => e = .returned (folV (folM G s a)) ∧ Below w.heap.size w w' := by
  have HW := fun s a w' (hb : Below w.heap.size w w') => Lib.hid (word_any A c G s a w' (Kd.C_below hr hb) hg hl)
  have HBD := Lib.hid (fun s a => wdG_bd hk s a)
  have S := Sep.start w
  clear hr hl hk
  have HR := Lib.hid (folM.eq_1 G s a)
  obtain ⟨x, hx⟩ : ∃ x, wdG G s a = x := ⟨_, rfl⟩
  have HX := Lib.hid hx
  rw [HX.out] at HR
  obtain ⟨x0, x1⟩ := HBD.out s a
  rw [HX.out] at x0 x1
  have HW1 := HW s a w (Below.refl _ _)
  rw [HX.out] at HW1
  obtain ⟨y, hy⟩ : ∃ y, wdG G (segW x) (padW x) = y := ⟨_, rfl⟩
  have HY := Lib.hid hy
  obtain ⟨y0, y1⟩ := HBD.out (segW x) (padW x)
  have HW2 := HW (segW x) (padW x)
  obtain ⟨z, hz⟩ : ∃ z, wdG G (segW x) (padW x + 1) = z := ⟨_, rfl⟩
  have HZ := Lib.hid hz
  obtain ⟨z0, z1⟩ := HBD.out (segW x) (padW x + 1)
  have HW3 := HW (segW x) (padW x + 1)
  rw [HY.out] at HR HW2 y0 y1
  rw [HZ.out] at HR HW3 z0 z1
  obtain ⟨q0, q1⟩ := padW_bd x
  have F1 := fun w => Lib.hid (far_any x w x0 x1)
  have F2 := fun w => Lib.hid (far_any y w y0 y1)
  have L1 := fun w => Lib.hid (landing_any x w x0 x1)
  have L2 := fun w => Lib.hid (landing_any y w y0 y1)
  have D3 := fun w => Lib.hid (rdec_lit z w z0 z1)
  clear hx hy hz HX HY HZ HW HBD
  generalize folM G s a = r at *
  cases h1 : inG G s a 1 with
  | false => replace HR := Lib.hid (HR.out.trans (if_pos h1)); (go_enter Tryd.func51, Tryd.ntmps51; go_wp2_with (first | ((with_reducible refine wl ?_); first | refine sn S (fun g w1 S => ?_) | refine ss S (fun w1 S => ?_) | refine sl S ?_ | refine sa S ?_) | ((with_reducible refine HW1.out.mono ?_); rintro e w' ⟨rfl, rfl⟩) | ((with_reducible refine (HW2 _ S.below).out.mono ?_); rintro e w' ⟨rfl, rfl⟩) | ((with_reducible refine (HW3 _ S.below).out.mono ?_); rintro e w' ⟨rfl, rfl⟩) | ((with_reducible refine (F1 _).out.mono ?_); rintro e w' ⟨rfl, rfl⟩) | ((with_reducible refine (F2 _).out.mono ?_); rintro e w' ⟨rfl, rfl⟩) | ((with_reducible refine (L1 _).out.mono ?_); rintro e w' ⟨rfl, rfl⟩) | ((with_reducible refine (L2 _).out.mono ?_); rintro e w' ⟨rfl, rfl⟩) | ((with_reducible refine (D3 _).out.mono ?_); rintro e w' ⟨rfl, hb⟩; replace S := S.call hb)); exact rt S ⟨by rw [HR.out], S.below⟩)
  | true =>
  replace HR := Lib.hid (HR.out.trans (if_neg (by rw [h1]; simp)))
  cases h2 : farB x with
  | false => replace HR := Lib.hid (HR.out.trans (if_pos h2)); (go_enter Tryd.func51, Tryd.ntmps51; go_wp2_with (first | ((with_reducible refine wl ?_); first | refine sn S (fun g w1 S => ?_) | refine ss S (fun w1 S => ?_) | refine sl S ?_ | refine sa S ?_) | ((with_reducible refine HW1.out.mono ?_); rintro e w' ⟨rfl, rfl⟩) | ((with_reducible refine (HW2 _ S.below).out.mono ?_); rintro e w' ⟨rfl, rfl⟩) | ((with_reducible refine (HW3 _ S.below).out.mono ?_); rintro e w' ⟨rfl, rfl⟩) | ((with_reducible refine (F1 _).out.mono ?_); rintro e w' ⟨rfl, rfl⟩) | ((with_reducible refine (F2 _).out.mono ?_); rintro e w' ⟨rfl, rfl⟩) | ((with_reducible refine (L1 _).out.mono ?_); rintro e w' ⟨rfl, rfl⟩) | ((with_reducible refine (L2 _).out.mono ?_); rintro e w' ⟨rfl, rfl⟩) | ((with_reducible refine (D3 _).out.mono ?_); rintro e w' ⟨rfl, hb⟩; replace S := S.call hb)); exact rt S ⟨by rw [HR.out], S.below⟩)
  | true =>
  replace HR := Lib.hid (HR.out.trans (if_neg (by rw [h2]; simp)))
  cases h3 : inG G (segW x) (padW x) 1 with
  | false => replace HR := Lib.hid (HR.out.trans (if_pos h3)); (go_enter Tryd.func51, Tryd.ntmps51; go_wp2_with (first | ((with_reducible refine wl ?_); first | refine sn S (fun g w1 S => ?_) | refine ss S (fun w1 S => ?_) | refine sl S ?_ | refine sa S ?_) | ((with_reducible refine HW1.out.mono ?_); rintro e w' ⟨rfl, rfl⟩) | ((with_reducible refine (HW2 _ S.below).out.mono ?_); rintro e w' ⟨rfl, rfl⟩) | ((with_reducible refine (HW3 _ S.below).out.mono ?_); rintro e w' ⟨rfl, rfl⟩) | ((with_reducible refine (F1 _).out.mono ?_); rintro e w' ⟨rfl, rfl⟩) | ((with_reducible refine (F2 _).out.mono ?_); rintro e w' ⟨rfl, rfl⟩) | ((with_reducible refine (L1 _).out.mono ?_); rintro e w' ⟨rfl, rfl⟩) | ((with_reducible refine (L2 _).out.mono ?_); rintro e w' ⟨rfl, rfl⟩) | ((with_reducible refine (D3 _).out.mono ?_); rintro e w' ⟨rfl, hb⟩; replace S := S.call hb)); exact rt S ⟨by rw [HR.out], S.below⟩)
  | true =>
  replace HR := Lib.hid (HR.out.trans (if_neg (by rw [h3]; simp)))
  by_cases h4 : x / 4 % 2 = 0
  · replace HR := Lib.hid (HR.out.trans (if_pos h4))
    have t4 : (x / 4 % 2 == 0) = true := beq_iff_eq.2 h4
    clear h4
    cases h5 : farB y with
    | true => replace HR := Lib.hid (HR.out.trans (if_pos h5)); (go_enter Tryd.func51, Tryd.ntmps51; go_wp2_with (first | ((with_reducible refine wl ?_); first | refine sn S (fun g w1 S => ?_) | refine ss S (fun w1 S => ?_) | refine sl S ?_ | refine sa S ?_) | ((with_reducible refine HW1.out.mono ?_); rintro e w' ⟨rfl, rfl⟩) | ((with_reducible refine (HW2 _ S.below).out.mono ?_); rintro e w' ⟨rfl, rfl⟩) | ((with_reducible refine (HW3 _ S.below).out.mono ?_); rintro e w' ⟨rfl, rfl⟩) | ((with_reducible refine (F1 _).out.mono ?_); rintro e w' ⟨rfl, rfl⟩) | ((with_reducible refine (F2 _).out.mono ?_); rintro e w' ⟨rfl, rfl⟩) | ((with_reducible refine (L1 _).out.mono ?_); rintro e w' ⟨rfl, rfl⟩) | ((with_reducible refine (L2 _).out.mono ?_); rintro e w' ⟨rfl, rfl⟩) | ((with_reducible refine (D3 _).out.mono ?_); rintro e w' ⟨rfl, hb⟩; replace S := S.call hb)); exact rt S ⟨by rw [HR.out], S.below⟩)
    | false => replace HR := Lib.hid (HR.out.trans (if_neg (by rw [h5]; simp))); (go_enter Tryd.func51, Tryd.ntmps51; go_wp2_with (first | ((with_reducible refine wl ?_); first | refine sn S (fun g w1 S => ?_) | refine ss S (fun w1 S => ?_) | refine sl S ?_ | refine sa S ?_) | ((with_reducible refine HW1.out.mono ?_); rintro e w' ⟨rfl, rfl⟩) | ((with_reducible refine (HW2 _ S.below).out.mono ?_); rintro e w' ⟨rfl, rfl⟩) | ((with_reducible refine (HW3 _ S.below).out.mono ?_); rintro e w' ⟨rfl, rfl⟩) | ((with_reducible refine (F1 _).out.mono ?_); rintro e w' ⟨rfl, rfl⟩) | ((with_reducible refine (F2 _).out.mono ?_); rintro e w' ⟨rfl, rfl⟩) | ((with_reducible refine (L1 _).out.mono ?_); rintro e w' ⟨rfl, rfl⟩) | ((with_reducible refine (L2 _).out.mono ?_); rintro e w' ⟨rfl, rfl⟩) | ((with_reducible refine (D3 _).out.mono ?_); rintro e w' ⟨rfl, hb⟩; replace S := S.call hb)); exact rt S ⟨by rw [HR.out], S.below⟩)
  replace HR := Lib.hid (HR.out.trans (if_neg h4))
  have t4 : (x / 4 % 2 == 0) = false := beq_eq_false_iff_ne.2 h4
  clear h4
  cases h5 : inG G (segW x) (padW x + 1) 1 with
  | false => replace HR := Lib.hid (HR.out.trans (if_pos h5)); (go_enter Tryd.func51, Tryd.ntmps51; go_wp2_with (first | ((with_reducible refine wl ?_); first | refine sn S (fun g w1 S => ?_) | refine ss S (fun w1 S => ?_) | refine sl S ?_ | refine sa S ?_) | ((with_reducible refine HW1.out.mono ?_); rintro e w' ⟨rfl, rfl⟩) | ((with_reducible refine (HW2 _ S.below).out.mono ?_); rintro e w' ⟨rfl, rfl⟩) | ((with_reducible refine (HW3 _ S.below).out.mono ?_); rintro e w' ⟨rfl, rfl⟩) | ((with_reducible refine (F1 _).out.mono ?_); rintro e w' ⟨rfl, rfl⟩) | ((with_reducible refine (F2 _).out.mono ?_); rintro e w' ⟨rfl, rfl⟩) | ((with_reducible refine (L1 _).out.mono ?_); rintro e w' ⟨rfl, rfl⟩) | ((with_reducible refine (L2 _).out.mono ?_); rintro e w' ⟨rfl, rfl⟩) | ((with_reducible refine (D3 _).out.mono ?_); rintro e w' ⟨rfl, hb⟩; replace S := S.call hb)); exact rt S ⟨by rw [HR.out], S.below⟩)
  | true =>
  replace HR := Lib.hid (HR.out.trans (if_neg (by rw [h5]; simp)))
  cases h6 : farB y with
  | false => replace HR := Lib.hid (HR.out.trans (if_pos h6)); (go_enter Tryd.func51, Tryd.ntmps51; go_wp2_with (first | ((with_reducible refine wl ?_); first | refine sn S (fun g w1 S => ?_) | refine ss S (fun w1 S => ?_) | refine sl S ?_ | refine sa S ?_) | ((with_reducible refine HW1.out.mono ?_); rintro e w' ⟨rfl, rfl⟩) | ((with_reducible refine (HW2 _ S.below).out.mono ?_); rintro e w' ⟨rfl, rfl⟩) | ((with_reducible refine (HW3 _ S.below).out.mono ?_); rintro e w' ⟨rfl, rfl⟩) | ((with_reducible refine (F1 _).out.mono ?_); rintro e w' ⟨rfl, rfl⟩) | ((with_reducible refine (F2 _).out.mono ?_); rintro e w' ⟨rfl, rfl⟩) | ((with_reducible refine (L1 _).out.mono ?_); rintro e w' ⟨rfl, rfl⟩) | ((with_reducible refine (L2 _).out.mono ?_); rintro e w' ⟨rfl, rfl⟩) | ((with_reducible refine (D3 _).out.mono ?_); rintro e w' ⟨rfl, hb⟩; replace S := S.call hb)); exact rt S ⟨by rw [HR.out], S.below⟩)
  | true =>
  replace HR := Lib.hid (HR.out.trans (if_neg (by rw [h6]; simp)))
  by_cases h7 : y / 4 % 2 = 1
  · replace HR := Lib.hid (HR.out.trans (if_pos h7))
    have t7 : (y / 4 % 2 == 1) = true := beq_iff_eq.2 h7
    clear h7
    (go_enter Tryd.func51, Tryd.ntmps51; go_wp2_with (first | ((with_reducible refine wl ?_); first | refine sn S (fun g w1 S => ?_) | refine ss S (fun w1 S => ?_) | refine sl S ?_ | refine sa S ?_) | ((with_reducible refine HW1.out.mono ?_); rintro e w' ⟨rfl, rfl⟩) | ((with_reducible refine (HW2 _ S.below).out.mono ?_); rintro e w' ⟨rfl, rfl⟩) | ((with_reducible refine (HW3 _ S.below).out.mono ?_); rintro e w' ⟨rfl, rfl⟩) | ((with_reducible refine (F1 _).out.mono ?_); rintro e w' ⟨rfl, rfl⟩) | ((with_reducible refine (F2 _).out.mono ?_); rintro e w' ⟨rfl, rfl⟩) | ((with_reducible refine (L1 _).out.mono ?_); rintro e w' ⟨rfl, rfl⟩) | ((with_reducible refine (L2 _).out.mono ?_); rintro e w' ⟨rfl, rfl⟩) | ((with_reducible refine (D3 _).out.mono ?_); rintro e w' ⟨rfl, hb⟩; replace S := S.call hb)); exact rt S ⟨by rw [HR.out], S.below⟩)
  replace HR := Lib.hid (HR.out.trans (if_neg h7))
  have t7 : (y / 4 % 2 == 1) = false := beq_eq_false_iff_ne.2 h7
  clear h7
  by_cases h8 : 1 < kindW z
  · replace HR := Lib.hid (HR.out.trans (if_pos h8))
    have t8 : decide (1 < kindW z) = true := decide_eq_true h8
    clear h8
    (go_enter Tryd.func51, Tryd.ntmps51; go_wp2_with (first | ((with_reducible refine wl ?_); first | refine sn S (fun g w1 S => ?_) | refine ss S (fun w1 S => ?_) | refine sl S ?_ | refine sa S ?_) | ((with_reducible refine HW1.out.mono ?_); rintro e w' ⟨rfl, rfl⟩) | ((with_reducible refine (HW2 _ S.below).out.mono ?_); rintro e w' ⟨rfl, rfl⟩) | ((with_reducible refine (HW3 _ S.below).out.mono ?_); rintro e w' ⟨rfl, rfl⟩) | ((with_reducible refine (F1 _).out.mono ?_); rintro e w' ⟨rfl, rfl⟩) | ((with_reducible refine (F2 _).out.mono ?_); rintro e w' ⟨rfl, rfl⟩) | ((with_reducible refine (L1 _).out.mono ?_); rintro e w' ⟨rfl, rfl⟩) | ((with_reducible refine (L2 _).out.mono ?_); rintro e w' ⟨rfl, rfl⟩) | ((with_reducible refine (D3 _).out.mono ?_); rintro e w' ⟨rfl, hb⟩; replace S := S.call hb)); exact rt S ⟨by rw [HR.out], S.below⟩)
  replace HR := Lib.hid (HR.out.trans (if_neg h8))
  have t8 : decide (1 < kindW z) = false := decide_eq_false h8
  clear h8
  by_cases h9 : pO z ≠ 0
  · replace HR := Lib.hid (HR.out.trans (if_pos h9))
    have t9 : (pO z != 0) = true := bne_iff_ne.2 h9
    clear h9
    (go_enter Tryd.func51, Tryd.ntmps51; go_wp2_with (first | ((with_reducible refine wl ?_); first | refine sn S (fun g w1 S => ?_) | refine ss S (fun w1 S => ?_) | refine sl S ?_ | refine sa S ?_) | ((with_reducible refine HW1.out.mono ?_); rintro e w' ⟨rfl, rfl⟩) | ((with_reducible refine (HW2 _ S.below).out.mono ?_); rintro e w' ⟨rfl, rfl⟩) | ((with_reducible refine (HW3 _ S.below).out.mono ?_); rintro e w' ⟨rfl, rfl⟩) | ((with_reducible refine (F1 _).out.mono ?_); rintro e w' ⟨rfl, rfl⟩) | ((with_reducible refine (F2 _).out.mono ?_); rintro e w' ⟨rfl, rfl⟩) | ((with_reducible refine (L1 _).out.mono ?_); rintro e w' ⟨rfl, rfl⟩) | ((with_reducible refine (L2 _).out.mono ?_); rintro e w' ⟨rfl, rfl⟩) | ((with_reducible refine (D3 _).out.mono ?_); rintro e w' ⟨rfl, hb⟩; replace S := S.call hb)); exact rt S ⟨by rw [HR.out], S.below⟩)
  · replace HR := Lib.hid (HR.out.trans (if_neg h9))
    have t9 : (pO z != 0) = false := bne_eq_false_iff_eq.2 (by omega)
    clear h9
    (go_enter Tryd.func51, Tryd.ntmps51; go_wp2_with (first | ((with_reducible refine wl ?_); first | refine sn S (fun g w1 S => ?_) | refine ss S (fun w1 S => ?_) | refine sl S ?_ | refine sa S ?_) | ((with_reducible refine HW1.out.mono ?_); rintro e w' ⟨rfl, rfl⟩) | ((with_reducible refine (HW2 _ S.below).out.mono ?_); rintro e w' ⟨rfl, rfl⟩) | ((with_reducible refine (HW3 _ S.below).out.mono ?_); rintro e w' ⟨rfl, rfl⟩) | ((with_reducible refine (F1 _).out.mono ?_); rintro e w' ⟨rfl, rfl⟩) | ((with_reducible refine (F2 _).out.mono ?_); rintro e w' ⟨rfl, rfl⟩) | ((with_reducible refine (L1 _).out.mono ?_); rintro e w' ⟨rfl, rfl⟩) | ((with_reducible refine (L2 _).out.mono ?_); rintro e w' ⟨rfl, rfl⟩) | ((with_reducible refine (D3 _).out.mono ?_); rintro e w' ⟨rfl, hb⟩; replace S := S.call hb)); exact rt S ⟨by rw [HR.out], S.below⟩)
end Go.Proofs.YtidglmocekghmaaDoor.Pr
end
section
namespace Go.Proofs.YtidglmocekghmaaDoor.Pr
open Go.RowKit Go.Proofs.YtidglmocekghmaaDoorW.PrintWords Go.Proofs.YtidglmocekghmaaDoorW.PrintLast Go.Proofs.YtidglmocekghmaaDoorW.PrintMore
set_option linter.unusedVariables false
set_option linter.unusedSimpArgs false
structure Ob where
 kd : Int
 sg : Int
 ad : Int
 d : Int
 p : Int
 e : Int
 n : Int
 c : Int
def Ob.z : Ob := ⟨0, 0, 0, 0, 0, 0, 0, 0⟩
abbrev obV (o : Ob) : Value := .agg #[.int .i64 o.kd, .int .i64 o.sg, .int .i64 o.ad, .int .i64 o.d, .int .i64 o.p, .int .i64 o.e, .int .i64 o.n, .int .i64 o.c]
def tagM (sg st e m c t : Int) : Ob × Int :=
 if kindW t ≠ 0 then (Ob.z, 5)
 else if pO t < 0 then (Ob.z, 5)
 else if c < pO t * (pD t + pP t) then (Ob.z, 5)
 else if pD t + pP t = 0 then (⟨2, sg, st + 1, pD t, pP t, e, pO t, m + pO t⟩, 0)
 else (⟨2, sg, st + 1, pD t, pP t, e, pO t, m⟩, 0)
def desM (G : List (List Int)) (x sg st : Int) : Ob × Int :=
 if kindW x = 3 then (if pL x = 0 then (Ob.z, 6) else (Ob.z, 4))
 else if kindW x = 0 then (if inG G sg st (pD x + pP x) = true then (⟨1, sg, st, pD x, pP x, 0, 0, pD x + pP x⟩, 0) else (Ob.z, 2))
 else if inG G sg st (wordsE (pE x) (pC x)) = false then (Ob.z, 2)
 else if pE x ≠ 7 then (⟨2, sg, st, 0, 0, pE x, pC x, wordsE (pE x) (pC x)⟩, 0)
 else tagM sg st (pE x) (wordsE (pE x) (pC x)) (pC x) (wdG G sg st)
def objG (G : List (List Int)) (s a : Int) : Ob × Int :=
 if (folM G s a).2.2.2 ≠ 0 then (Ob.z, (folM G s a).2.2.2)
 else if (folM G s a).1 = 0 then (Ob.z, 0)
 else desM G (folM G s a).1 (folM G s a).2.1 ((folM G s a).2.2.1 + pO (folM G s a).1)
theorem pO_bd (w : Int) : -536870912 ≤ pO w ∧ pO w ≤ 536870911 := by have := offW_bd w; unfold pO; split <;> omega
theorem pD_bd (w : Int) : 0 ≤ pD w ∧ pD w ≤ 65535 := by have := dataW_bd w; unfold pD; split <;> omega
theorem pP_bd (w : Int) : 0 ≤ pP w ∧ pP w ≤ 65535 := by have := ptrsW_bd w; unfold pP; split <;> omega
theorem pE_bd (w : Int) : 0 ≤ pE w ∧ pE w ≤ 7 := by have := elemW_bd w; unfold pE; split <;> omega
theorem pC_bd (w : Int) : 0 ≤ pC w ∧ pC w ≤ 536870911 := by have := cntW_bd w; unfold pC; split <;> omega
theorem wordsE_bd (e c : Int) (c0 : 0 ≤ c) (c1 : c ≤ 536870911) : 0 ≤ wordsE e c ∧ wordsE e c ≤ 536870912 := by
 have := bitsE_mul e c c0 c1
 unfold wordsE
 split <;> omega
theorem folM_bd {G : List (List Int)} (hk : OkG G) (s a : Int) (a0 : -1152921504606846976 ≤ a) (a1 : a ≤ 1152921504606846976) (s0 : s ≤ 4611686018427387904) : 0 ≤ (folM G s a).1 ∧ (folM G s a).1 < 18446744073709551616 ∧ (folM G s a).2.1 ≤ 4611686018427387904 ∧ -1152921504606846976 ≤ (folM G s a).2.2.1 ∧ (folM G s a).2.2.1 ≤ 1152921504606846977 ∧ 0 ≤ (folM G s a).2.2.2 ∧ (folM G s a).2.2.2 ≤ 3 := by
 have h1 := wdG_bd hk s a
 have h2 := wdG_bd hk (segW (wdG G s a)) (padW (wdG G s a))
 have h3 := wdG_bd hk (segW (wdG G s a)) (padW (wdG G s a) + 1)
 have h4 := padW_bd (wdG G s a)
 have h5 := segW_bd (wdG G s a)
 have h6 := padW_bd (wdG G (segW (wdG G s a)) (padW (wdG G s a)))
 have h7 := segW_bd (wdG G (segW (wdG G s a)) (padW (wdG G s a)))
 unfold folM
 repeat' split
 all_goals (dsimp only; omega)
set_option maxRecDepth 100000 in
set_option maxHeartbeats 8000000 in
theorem objG_any (A : Option Addr) (cp : Nat) (G : List (List Int)) (s a : Int) (w : World) (hr : RdG w A G) (hg : G.length ≤ 4611686018427387904) (hl : ∀ x ∈ G, x.length ≤ 4611686018427387904) (hk : OkG G) (a0 : -1152921504606846976 ≤ a) (a1 : a ≤ 1152921504606846976) (s0 : s ≤ 4611686018427387904) :
    Calls Tryd.prog 40 #[.slice A G.length cp, .int .i64 s, .int .i64 a] w fun e w' => e = .returned (.tuple #[obV (objG G s a).1, .int .i64 (objG G s a).2]) ∧ Below w.heap.size w w' := by
  have HF := fun w' (hb : Below w.heap.size w w') => Lib.hid (fol_any A cp G s a w' (Kd.C_below hr hb) hg hl hk (by omega) (by omega))
  have HI := fun s a n w' (hb : Below w.heap.size w w') hs ha hn => Lib.hid (inb_any A cp G s a n w' (Kd.C_below hr hb) hs ha hn hl)
  have HW := fun s a w' (hb : Below w.heap.size w w') => Lib.hid (word_any A cp G s a w' (Kd.C_below hr hb) hg hl)
  have HT := Lib.hid (fun s a => wdG_bd hk s a)
  have hbd := folM_bd hk s a a0 a1 s0
  have HR := Lib.hid (objG.eq_1 G s a)
  have S := Sep.start w
  clear hr hl hk a0 a1 s0
  generalize objG G s a = r at *
  generalize folM G s a = q at *
  obtain ⟨x, sg, ba, er⟩ := q
  dsimp only at HR hbd
  simp only [folV] at HF
  obtain ⟨x0, x1, g1, b0, b1, e0, e1⟩ := hbd
  have D1 := fun w => Lib.hid (rdec_lit x w x0 x1)
  by_cases h1 : er ≠ 0
  · replace HR := Lib.hid (HR.out.trans (if_pos h1))
    have t1 : (er != 0) = true := bne_iff_ne.2 h1
    clear h1
    (go_enter Tryd.func40, Tryd.ntmps40; go_wp2_with (first | go_skip | ((with_reducible refine wl ?_); first | refine sn S (fun g w1 S => ?_) | refine ss S (fun w1 S => ?_) | refine sl S ?_ | refine sa S ?_) | ((with_reducible refine (HF _ S.below).out.mono ?_); rintro e w' ⟨rfl, hb⟩; replace S := S.call hb) | ((with_reducible refine (D1 _).out.mono ?_); rintro e w' ⟨rfl, hb⟩; replace S := S.call hb) | ((with_reducible refine (D2 _).out.mono ?_); rintro e w' ⟨rfl, hb⟩; replace S := S.call hb) | ((with_reducible refine (HI1 _ S.below).out.mono ?_); rintro e w' ⟨rfl, rfl⟩) | ((with_reducible refine (HW1 _ S.below).out.mono ?_); rintro e w' ⟨rfl, rfl⟩) | ((with_reducible refine (HM _).out.mono ?_); rintro e w' ⟨rfl, rfl⟩)); exact rt S ⟨by rw [HR.out], S.below⟩)
  replace HR := Lib.hid (HR.out.trans (if_neg h1))
  obtain rfl : er = 0 := by omega
  clear h1
  by_cases h2 : x = 0
  · replace HR := Lib.hid (HR.out.trans (if_pos h2))
    subst h2
    (go_enter Tryd.func40, Tryd.ntmps40; go_wp2_with (first | go_skip | ((with_reducible refine wl ?_); first | refine sn S (fun g w1 S => ?_) | refine ss S (fun w1 S => ?_) | refine sl S ?_ | refine sa S ?_) | ((with_reducible refine (HF _ S.below).out.mono ?_); rintro e w' ⟨rfl, hb⟩; replace S := S.call hb) | ((with_reducible refine (D1 _).out.mono ?_); rintro e w' ⟨rfl, hb⟩; replace S := S.call hb) | ((with_reducible refine (D2 _).out.mono ?_); rintro e w' ⟨rfl, hb⟩; replace S := S.call hb) | ((with_reducible refine (HI1 _ S.below).out.mono ?_); rintro e w' ⟨rfl, rfl⟩) | ((with_reducible refine (HW1 _ S.below).out.mono ?_); rintro e w' ⟨rfl, rfl⟩) | ((with_reducible refine (HM _).out.mono ?_); rintro e w' ⟨rfl, rfl⟩)); exact rt S ⟨by rw [HR.out], S.below⟩)
  replace HR := Lib.hid (HR.out.trans ((if_neg h2).trans (desM.eq_1 _ _ _ _)))
  have t2 : (x == 0) = false := beq_eq_false_iff_ne.2 h2
  clear h2
  have hkb := kindW_bd x
  obtain ⟨p10, p11⟩ := pO_bd x
  obtain ⟨p20, p21⟩ := pD_bd x
  obtain ⟨p30, p31⟩ := pP_bd x
  obtain ⟨p40, p41⟩ := pE_bd x
  obtain ⟨p50, p51⟩ := pC_bd x
  obtain ⟨m, hm⟩ : ∃ m, wordsE (pE x) (pC x) = m := ⟨_, rfl⟩
  have HM := fun w => Lib.hid (words_any6 (pE x) (pC x) w p50 p51)
  obtain ⟨m0, m1⟩ := wordsE_bd (pE x) (pC x) p50 p51
  rw [hm] at HR HM m0 m1
  clear hm
  by_cases h3 : kindW x = 3
  · replace HR := Lib.hid (HR.out.trans (if_pos h3))
    rw [h3] at D1
    clear h3 hkb
    by_cases h4 : pL x = 0
    · replace HR := Lib.hid (HR.out.trans (if_pos h4))
      have t4 : (pL x == 0) = true := beq_iff_eq.2 h4
      clear h4
      (go_enter Tryd.func40, Tryd.ntmps40; go_wp2_with (first | go_skip | ((with_reducible refine wl ?_); first | refine sn S (fun g w1 S => ?_) | refine ss S (fun w1 S => ?_) | refine sl S ?_ | refine sa S ?_) | ((with_reducible refine (HF _ S.below).out.mono ?_); rintro e w' ⟨rfl, hb⟩; replace S := S.call hb) | ((with_reducible refine (D1 _).out.mono ?_); rintro e w' ⟨rfl, hb⟩; replace S := S.call hb) | ((with_reducible refine (D2 _).out.mono ?_); rintro e w' ⟨rfl, hb⟩; replace S := S.call hb) | ((with_reducible refine (HI1 _ S.below).out.mono ?_); rintro e w' ⟨rfl, rfl⟩) | ((with_reducible refine (HW1 _ S.below).out.mono ?_); rintro e w' ⟨rfl, rfl⟩) | ((with_reducible refine (HM _).out.mono ?_); rintro e w' ⟨rfl, rfl⟩)); exact rt S ⟨by rw [HR.out], S.below⟩)
    · replace HR := Lib.hid (HR.out.trans (if_neg h4))
      have t4 : (pL x == 0) = false := beq_eq_false_iff_ne.2 h4
      clear h4
      (go_enter Tryd.func40, Tryd.ntmps40; go_wp2_with (first | go_skip | ((with_reducible refine wl ?_); first | refine sn S (fun g w1 S => ?_) | refine ss S (fun w1 S => ?_) | refine sl S ?_ | refine sa S ?_) | ((with_reducible refine (HF _ S.below).out.mono ?_); rintro e w' ⟨rfl, hb⟩; replace S := S.call hb) | ((with_reducible refine (D1 _).out.mono ?_); rintro e w' ⟨rfl, hb⟩; replace S := S.call hb) | ((with_reducible refine (D2 _).out.mono ?_); rintro e w' ⟨rfl, hb⟩; replace S := S.call hb) | ((with_reducible refine (HI1 _ S.below).out.mono ?_); rintro e w' ⟨rfl, rfl⟩) | ((with_reducible refine (HW1 _ S.below).out.mono ?_); rintro e w' ⟨rfl, rfl⟩) | ((with_reducible refine (HM _).out.mono ?_); rintro e w' ⟨rfl, rfl⟩)); exact rt S ⟨by rw [HR.out], S.below⟩)
  replace HR := Lib.hid (HR.out.trans (if_neg h3))
  have t3 : (kindW x == 3) = false := beq_eq_false_iff_ne.2 h3
  clear h3
  by_cases h5 : kindW x = 0
  · replace HR := Lib.hid (HR.out.trans (if_pos h5))
    rw [h5] at D1
    clear h5 hkb t3
    have HI1 := fun w' hb => HI sg (ba + pO x) (pD x + pP x) w' hb g1 (by omega) (by omega)
    cases h6 : inG G sg (ba + pO x) (pD x + pP x) with
    | true => replace HR := Lib.hid (HR.out.trans (if_pos h6)); (go_enter Tryd.func40, Tryd.ntmps40; go_wp2_with (first | go_skip | ((with_reducible refine wl ?_); first | refine sn S (fun g w1 S => ?_) | refine ss S (fun w1 S => ?_) | refine sl S ?_ | refine sa S ?_) | ((with_reducible refine (HF _ S.below).out.mono ?_); rintro e w' ⟨rfl, hb⟩; replace S := S.call hb) | ((with_reducible refine (D1 _).out.mono ?_); rintro e w' ⟨rfl, hb⟩; replace S := S.call hb) | ((with_reducible refine (D2 _).out.mono ?_); rintro e w' ⟨rfl, hb⟩; replace S := S.call hb) | ((with_reducible refine (HI1 _ S.below).out.mono ?_); rintro e w' ⟨rfl, rfl⟩) | ((with_reducible refine (HW1 _ S.below).out.mono ?_); rintro e w' ⟨rfl, rfl⟩) | ((with_reducible refine (HM _).out.mono ?_); rintro e w' ⟨rfl, rfl⟩)); exact rt S ⟨by rw [HR.out], S.below⟩)
    | false => replace HR := Lib.hid (HR.out.trans (if_neg (by rw [h6]; simp))); (go_enter Tryd.func40, Tryd.ntmps40; go_wp2_with (first | go_skip | ((with_reducible refine wl ?_); first | refine sn S (fun g w1 S => ?_) | refine ss S (fun w1 S => ?_) | refine sl S ?_ | refine sa S ?_) | ((with_reducible refine (HF _ S.below).out.mono ?_); rintro e w' ⟨rfl, hb⟩; replace S := S.call hb) | ((with_reducible refine (D1 _).out.mono ?_); rintro e w' ⟨rfl, hb⟩; replace S := S.call hb) | ((with_reducible refine (D2 _).out.mono ?_); rintro e w' ⟨rfl, hb⟩; replace S := S.call hb) | ((with_reducible refine (HI1 _ S.below).out.mono ?_); rintro e w' ⟨rfl, rfl⟩) | ((with_reducible refine (HW1 _ S.below).out.mono ?_); rintro e w' ⟨rfl, rfl⟩) | ((with_reducible refine (HM _).out.mono ?_); rintro e w' ⟨rfl, rfl⟩)); exact rt S ⟨by rw [HR.out], S.below⟩)
  replace HR := Lib.hid (HR.out.trans (if_neg h5))
  have t5 : (kindW x == 0) = false := beq_eq_false_iff_ne.2 h5
  clear h5
  have HI1 := fun w' hb => HI sg (ba + pO x) m w' hb g1 (by omega) (by omega)
  cases h7 : inG G sg (ba + pO x) m with
  | false => replace HR := Lib.hid (HR.out.trans (if_pos h7)); (go_enter Tryd.func40, Tryd.ntmps40; go_wp2_with (first | go_skip | ((with_reducible refine wl ?_); first | refine sn S (fun g w1 S => ?_) | refine ss S (fun w1 S => ?_) | refine sl S ?_ | refine sa S ?_) | ((with_reducible refine (HF _ S.below).out.mono ?_); rintro e w' ⟨rfl, hb⟩; replace S := S.call hb) | ((with_reducible refine (D1 _).out.mono ?_); rintro e w' ⟨rfl, hb⟩; replace S := S.call hb) | ((with_reducible refine (D2 _).out.mono ?_); rintro e w' ⟨rfl, hb⟩; replace S := S.call hb) | ((with_reducible refine (HI1 _ S.below).out.mono ?_); rintro e w' ⟨rfl, rfl⟩) | ((with_reducible refine (HW1 _ S.below).out.mono ?_); rintro e w' ⟨rfl, rfl⟩) | ((with_reducible refine (HM _).out.mono ?_); rintro e w' ⟨rfl, rfl⟩)); exact rt S ⟨by rw [HR.out], S.below⟩)
  | true =>
  replace HR := Lib.hid (HR.out.trans (if_neg (by rw [h7]; simp)))
  by_cases h8 : pE x ≠ 7
  · replace HR := Lib.hid (HR.out.trans (if_pos h8))
    have t8 : (pE x != 7) = true := bne_iff_ne.2 h8
    clear h8
    (go_enter Tryd.func40, Tryd.ntmps40; go_wp2_with (first | go_skip | ((with_reducible refine wl ?_); first | refine sn S (fun g w1 S => ?_) | refine ss S (fun w1 S => ?_) | refine sl S ?_ | refine sa S ?_) | ((with_reducible refine (HF _ S.below).out.mono ?_); rintro e w' ⟨rfl, hb⟩; replace S := S.call hb) | ((with_reducible refine (D1 _).out.mono ?_); rintro e w' ⟨rfl, hb⟩; replace S := S.call hb) | ((with_reducible refine (D2 _).out.mono ?_); rintro e w' ⟨rfl, hb⟩; replace S := S.call hb) | ((with_reducible refine (HI1 _ S.below).out.mono ?_); rintro e w' ⟨rfl, rfl⟩) | ((with_reducible refine (HW1 _ S.below).out.mono ?_); rintro e w' ⟨rfl, rfl⟩) | ((with_reducible refine (HM _).out.mono ?_); rintro e w' ⟨rfl, rfl⟩)); exact rt S ⟨by rw [HR.out], S.below⟩)
  replace HR := Lib.hid (HR.out.trans ((if_neg h8).trans (tagM.eq_1 _ _ _ _ _ _)))
  have t8 : (pE x != 7) = false := bne_eq_false_iff_eq.2 (by omega)
  clear h8
  have HW1 := HW sg (ba + pO x)
  obtain ⟨v0, v1⟩ := HT.out sg (ba + pO x)
  generalize wdG G sg (ba + pO x) = v at *
  generalize inG G sg (ba + pO x) 1 = bb at *
  have D2 := fun w => Lib.hid (rdec_lit v w v0 v1)
  obtain ⟨o10, o11⟩ := pO_bd v
  obtain ⟨o20, o21⟩ := pD_bd v
  obtain ⟨o30, o31⟩ := pP_bd v
  by_cases h9 : kindW v ≠ 0
  · replace HR := Lib.hid (HR.out.trans (if_pos h9))
    have t9 : (kindW v != 0) = true := bne_iff_ne.2 h9
    clear h9
    (go_enter Tryd.func40, Tryd.ntmps40; go_wp2_with (first | go_skip | ((with_reducible refine wl ?_); first | refine sn S (fun g w1 S => ?_) | refine ss S (fun w1 S => ?_) | refine sl S ?_ | refine sa S ?_) | ((with_reducible refine (HF _ S.below).out.mono ?_); rintro e w' ⟨rfl, hb⟩; replace S := S.call hb) | ((with_reducible refine (D1 _).out.mono ?_); rintro e w' ⟨rfl, hb⟩; replace S := S.call hb) | ((with_reducible refine (D2 _).out.mono ?_); rintro e w' ⟨rfl, hb⟩; replace S := S.call hb) | ((with_reducible refine (HI1 _ S.below).out.mono ?_); rintro e w' ⟨rfl, rfl⟩) | ((with_reducible refine (HW1 _ S.below).out.mono ?_); rintro e w' ⟨rfl, rfl⟩) | ((with_reducible refine (HM _).out.mono ?_); rintro e w' ⟨rfl, rfl⟩)); exact rt S ⟨by rw [HR.out], S.below⟩)
  replace HR := Lib.hid (HR.out.trans (if_neg h9))
  have t9 : (kindW v != 0) = false := bne_eq_false_iff_eq.2 (by omega)
  clear h9
  by_cases ha : pO v < 0
  · replace HR := Lib.hid (HR.out.trans (if_pos ha))
    have ta : decide (pO v < 0) = true := decide_eq_true ha
    clear ha
    (go_enter Tryd.func40, Tryd.ntmps40; go_wp2_with (first | go_skip | ((with_reducible refine wl ?_); first | refine sn S (fun g w1 S => ?_) | refine ss S (fun w1 S => ?_) | refine sl S ?_ | refine sa S ?_) | ((with_reducible refine (HF _ S.below).out.mono ?_); rintro e w' ⟨rfl, hb⟩; replace S := S.call hb) | ((with_reducible refine (D1 _).out.mono ?_); rintro e w' ⟨rfl, hb⟩; replace S := S.call hb) | ((with_reducible refine (D2 _).out.mono ?_); rintro e w' ⟨rfl, hb⟩; replace S := S.call hb) | ((with_reducible refine (HI1 _ S.below).out.mono ?_); rintro e w' ⟨rfl, rfl⟩) | ((with_reducible refine (HW1 _ S.below).out.mono ?_); rintro e w' ⟨rfl, rfl⟩) | ((with_reducible refine (HM _).out.mono ?_); rintro e w' ⟨rfl, rfl⟩)); exact rt S ⟨by rw [HR.out], S.below⟩)
  replace HR := Lib.hid (HR.out.trans (if_neg ha))
  have ta : decide (pO v < 0) = false := decide_eq_false ha
  have o12 : 0 ≤ pO v := by omega
  clear ha o10
  have y0 : 0 ≤ pO v * (pD v + pP v) := Int.mul_nonneg o12 (by omega)
  have y1 : pO v * (pD v + pP v) ≤ 536870911 * 131070 := Int.le_trans (Int.mul_le_mul_of_nonneg_left (by omega) o12) (Int.mul_le_mul_of_nonneg_right o11 (by omega))
  obtain ⟨y, hy⟩ : ∃ y, pO v * (pD v + pP v) = y := ⟨_, rfl⟩
  rw [hy] at HR y0 y1
  by_cases hb : pC x < y
  · replace HR := Lib.hid (HR.out.trans (if_pos hb))
    have tb : decide (pC x < y) = true := decide_eq_true hb
    clear hb
    (go_enter Tryd.func40, Tryd.ntmps40; go_wp2_with (first | go_skip | ((with_reducible refine wl ?_); first | refine sn S (fun g w1 S => ?_) | refine ss S (fun w1 S => ?_) | refine sl S ?_ | refine sa S ?_) | ((with_reducible refine (HF _ S.below).out.mono ?_); rintro e w' ⟨rfl, hb⟩; replace S := S.call hb) | ((with_reducible refine (D1 _).out.mono ?_); rintro e w' ⟨rfl, hb⟩; replace S := S.call hb) | ((with_reducible refine (D2 _).out.mono ?_); rintro e w' ⟨rfl, hb⟩; replace S := S.call hb) | ((with_reducible refine (HI1 _ S.below).out.mono ?_); rintro e w' ⟨rfl, rfl⟩) | ((with_reducible refine (HW1 _ S.below).out.mono ?_); rintro e w' ⟨rfl, rfl⟩) | ((with_reducible refine (HM _).out.mono ?_); rintro e w' ⟨rfl, rfl⟩)); exact rt S ⟨by rw [HR.out], S.below⟩)
  replace HR := Lib.hid (HR.out.trans (if_neg hb))
  have tb : decide (pC x < y) = false := decide_eq_false hb
  clear hb
  by_cases hc : pD v + pP v = 0
  · replace HR := Lib.hid (HR.out.trans (if_pos hc))
    have tc : (pD v + pP v == 0) = true := beq_iff_eq.2 hc
    clear hc
    (go_enter Tryd.func40, Tryd.ntmps40; go_wp2_with (first | go_skip | ((with_reducible refine wl ?_); first | refine sn S (fun g w1 S => ?_) | refine ss S (fun w1 S => ?_) | refine sl S ?_ | refine sa S ?_) | ((with_reducible refine (HF _ S.below).out.mono ?_); rintro e w' ⟨rfl, hb⟩; replace S := S.call hb) | ((with_reducible refine (D1 _).out.mono ?_); rintro e w' ⟨rfl, hb⟩; replace S := S.call hb) | ((with_reducible refine (D2 _).out.mono ?_); rintro e w' ⟨rfl, hb⟩; replace S := S.call hb) | ((with_reducible refine (HI1 _ S.below).out.mono ?_); rintro e w' ⟨rfl, rfl⟩) | ((with_reducible refine (HW1 _ S.below).out.mono ?_); rintro e w' ⟨rfl, rfl⟩) | ((with_reducible refine (HM _).out.mono ?_); rintro e w' ⟨rfl, rfl⟩)); exact rt S ⟨by rw [HR.out], S.below⟩)
  · replace HR := Lib.hid (HR.out.trans (if_neg hc))
    have tc : (pD v + pP v == 0) = false := beq_eq_false_iff_ne.2 hc
    clear hc
    (go_enter Tryd.func40, Tryd.ntmps40; go_wp2_with (first | go_skip | ((with_reducible refine wl ?_); first | refine sn S (fun g w1 S => ?_) | refine ss S (fun w1 S => ?_) | refine sl S ?_ | refine sa S ?_) | ((with_reducible refine (HF _ S.below).out.mono ?_); rintro e w' ⟨rfl, hb⟩; replace S := S.call hb) | ((with_reducible refine (D1 _).out.mono ?_); rintro e w' ⟨rfl, hb⟩; replace S := S.call hb) | ((with_reducible refine (D2 _).out.mono ?_); rintro e w' ⟨rfl, hb⟩; replace S := S.call hb) | ((with_reducible refine (HI1 _ S.below).out.mono ?_); rintro e w' ⟨rfl, rfl⟩) | ((with_reducible refine (HW1 _ S.below).out.mono ?_); rintro e w' ⟨rfl, rfl⟩) | ((with_reducible refine (HM _).out.mono ?_); rintro e w' ⟨rfl, rfl⟩)); exact rt S ⟨by rw [HR.out], S.below⟩)
end Go.Proofs.YtidglmocekghmaaDoor.Pr
end
section
namespace Go.Proofs.YtidglmocekghmaaDoor.Pr
open Go.RowKit Go.Proofs.YtidglmocekghmaaDoorW.PrintWords Go.Proofs.YtidglmocekghmaaDoorW.PrintLast Go.Proofs.YtidglmocekghmaaDoorW.PrintMore
set_option linter.unusedVariables false
set_option linter.unusedSimpArgs false
def elG (o : Ob) (i : Int) : Ob := ⟨1, o.sg, o.ad + i * (o.d + o.p), o.d, o.p, 0, 0, 0⟩
theorem el_any (o : Ob) (i : Int) (w : World) (i0 : 0 ≤ i) (i1 : i ≤ 536870911) (d0 : 0 ≤ o.d) (d1 : o.d ≤ 65535) (p0 : 0 ≤ o.p) (p1 : o.p ≤ 65535) (a0 : -1152921504606846976 ≤ o.ad) (a1 : o.ad ≤ 2305843009213693952) :
    Calls Tryd.prog 41 #[obV o, .int .i64 i] w fun e w' => e = .returned (obV (elG o i)) ∧ Below w.heap.size w w' := by
  obtain ⟨kd, sg, ad, d, p, e, n, c⟩ := o
  dsimp only at d0 d1 p0 p1 a0 a1
  have y0 : 0 ≤ i * (d + p) := Int.mul_nonneg i0 (by omega)
  have y1 : i * (d + p) ≤ 536870911 * 131070 := Int.le_trans (Int.mul_le_mul_of_nonneg_left (by omega) i0) (Int.mul_le_mul_of_nonneg_right i1 (by omega))
  obtain ⟨y, hy⟩ : ∃ y, i * (d + p) = y := ⟨_, rfl⟩
  rw [hy] at y0 y1
  have HR : Hid (elG ⟨kd, sg, ad, d, p, e, n, c⟩ i = ⟨1, sg, ad + y, d, p, 0, 0, 0⟩) := Lib.hid (by unfold elG; rw [hy])
  have S := Sep.start w
  rw [HR.out]
  go_enter Tryd.func41, Tryd.ntmps41
  go_wp2_with (first | go_skip | ((with_reducible refine wl ?_); first | refine sn S (fun g w1 S => ?_) | refine ss S (fun w1 S => ?_) | refine sl S ?_ | refine sa S ?_))
  exact rt S ⟨rfl, S.below⟩
abbrev limV (D Wd O : Int) : Value := .agg #[.int .i64 D, .int .i64 Wd, .int .i64 O]
def startM (Wd : Int) : Int := if Wd < 0 then 0 else Wd
theorem start_any (D Wd O : Int) (w : World) : Calls Tryd.prog 28 #[limV D Wd O] w fun e w' => e = .returned (.agg #[.int .i64 (startM Wd)]) ∧ Below w.heap.size w w' := by
  have S := Sep.start w
  by_cases h : Wd < 0
  · have HR : Hid (startM Wd = 0) := Lib.hid (if_pos h)
    have t : decide (Wd < 0) = true := decide_eq_true h
    clear h
    go_enter Tryd.func28, Tryd.ntmps28
    go_wp2_with (first | go_skip | ((with_reducible refine wl ?_); first | refine sn S (fun g w1 S => ?_) | refine ss S (fun w1 S => ?_) | refine sl S ?_ | refine sa S ?_))
    exact rt S ⟨by rw [HR.out], S.below⟩
  · have HR : Hid (startM Wd = Wd) := Lib.hid (if_neg h)
    have t : decide (Wd < 0) = false := decide_eq_false h
    clear h
    go_enter Tryd.func28, Tryd.ntmps28
    go_wp2_with (first | go_skip | ((with_reducible refine wl ?_); first | refine sn S (fun g w1 S => ?_) | refine ss S (fun w1 S => ?_) | refine sl S ?_ | refine sa S ?_))
    exact rt S ⟨by rw [HR.out], S.below⟩
theorem rcharge_yes (m c : Int) (w : World) (h : c ≤ m) (c0 : 0 ≤ c) (m1 : m ≤ 4611686018427387904) : Calls Tryd.prog 52 #[.agg #[.int .i64 m], .int .i64 c] w fun e w' => e = .returned (.tuple #[.agg #[.int .i64 (m - c)], .int .i64 0]) ∧ Below w.heap.size w w' := by
  have S := Sep.start w
  have t : decide (m < c) = false := decide_eq_false (by omega)
  go_enter Tryd.func52, Tryd.ntmps52
  go_wp2_with (first | go_skip | ((with_reducible refine wl ?_); first | refine sn S (fun g w1 S => ?_) | refine ss S (fun w1 S => ?_) | refine sl S ?_ | refine sa S ?_))
  exact rt S ⟨rfl, S.below⟩
theorem rcharge_no (m c : Int) (w : World) (h : m < c) : Calls Tryd.prog 52 #[.agg #[.int .i64 m], .int .i64 c] w fun e w' => e = .returned (.tuple #[.agg #[.int .i64 m], .int .i64 8]) ∧ Below w.heap.size w w' := by
  have S := Sep.start w
  have t : decide (m < c) = true := decide_eq_true h
  go_enter Tryd.func52, Tryd.ntmps52
  go_wp2_with (first | go_skip | ((with_reducible refine wl ?_); first | refine sn S (fun g w1 S => ?_) | refine ss S (fun w1 S => ?_) | refine sl S ?_ | refine sa S ?_))
  exact rt S ⟨rfl, S.below⟩
end Go.Proofs.YtidglmocekghmaaDoor.Pr
end
section
namespace Go.Proofs.YtidglmocekghmaaDoor.Pr
set_option linter.unusedSimpArgs false
set_option linter.unusedVariables false
open Go.RowKit Go.Proofs.YtidglmocekghmaaDoorW.PrintWords Go.Proofs.YtidglmocekghmaaDoorW.PrintLast Go.Proofs.YtidglmocekghmaaDoorW.PrintMore
def ndZ : S37 := ⟨0, 0, 0, [], []⟩
abbrev Tr := S37 × Int × Int
def kidsR (v : Int → Int → Tr) : Nat → Int → Int → List S37 × Int × Int
 | 0, _, m => ([], m, 0)
 | n + 1, a, m => if (v a m).2.2 ≠ 0 then ([], (v a m).2.1, (v a m).2.2) else ((v a m).1 :: (kidsR v n (a + 1) (v a m).2.1).1, (kidsR v n (a + 1) (v a m).2.1).2)
def strR (G : List (List Int)) (v : Int → Int → Int → Tr) (o : Ob) (m : Int) : Tr :=
 if (kidsR (v o.sg) o.p.toNat (o.ad + o.d) m).2.2 ≠ 0 then (ndZ, (kidsR (v o.sg) o.p.toNat (o.ad + o.d) m).2)
 else (⟨1, 0, 0, bytesL (cutG G o.sg o.ad o.d), (kidsR (v o.sg) o.p.toNat (o.ad + o.d) m).1⟩, (kidsR (v o.sg) o.p.toNat (o.ad + o.d) m).2.1, 0)
def elsR (s : Ob → Int → Tr) (o : Ob) : Nat → Int → Int → List S37 × Int × Int
 | 0, _, m => ([], m, 0)
 | n + 1, i, m => if (s (elG o i) m).2.2 ≠ 0 then ([], (s (elG o i) m).2.1, (s (elG o i) m).2.2) else ((s (elG o i) m).1 :: (elsR s o n (i + 1) (s (elG o i) m).2.1).1, (elsR s o n (i + 1) (s (elG o i) m).2.1).2)
def bodR (G : List (List Int)) (v : Int → Int → Int → Tr) (o : Ob) (m : Int) : Tr :=
 if o.kd = 1 then strR G v o m
 else if o.e < 6 then (⟨2, o.e, o.n, trimE o.e o.n (bytesL (cutG G o.sg o.ad o.c)), []⟩, m, 0)
 else if o.e = 6 then
  if (kidsR (v o.sg) o.n.toNat o.ad m).2.2 ≠ 0 then (ndZ, (kidsR (v o.sg) o.n.toNat o.ad m).2)
  else (⟨2, o.e, o.n, [], (kidsR (v o.sg) o.n.toNat o.ad m).1⟩, (kidsR (v o.sg) o.n.toNat o.ad m).2.1, 0)
 else if (elsR (strR G v) o o.n.toNat 0 m).2.2 ≠ 0 then (ndZ, (elsR (strR G v) o o.n.toNat 0 m).2)
 else (⟨2, o.e, o.n, [], (elsR (strR G v) o o.n.toNat 0 m).1⟩, (elsR (strR G v) o o.n.toNat 0 m).2.1, 0)
def valR (G : List (List Int)) : Nat → Int → Int → Int → Tr
 | f, sg, a, m =>
  if (folM G sg a).2.2.2 ≠ 0 then (ndZ, m, (folM G sg a).2.2.2)
  else if (folM G sg a).1 = 0 then (ndZ, m, 0)
  else match f with
   | 0 => (ndZ, m, 7)
   | f + 1 =>
    if (objG G sg a).2 ≠ 0 then (ndZ, m, (objG G sg a).2)
    else if m < (objG G sg a).1.c then (ndZ, m, 8)
    else bodR G (valR G f) (objG G sg a).1 (m - (objG G sg a).1.c)
def TrV (w : World) (q : Tr) (r : Ending) (w' : World) : Prop := ∃ v3 v4, r = .returned (.tuple #[.agg #[.int .i64 q.1.f0, .int .i64 q.1.f1, .int .i64 q.1.f2, v3, v4], .agg #[.int .i64 q.2.1], .int .i64 q.2.2]) ∧ k37.M w' w.heap.size (fun _ => True) q.1 [.int .i64 q.1.f0, .int .i64 q.1.f1, .int .i64 q.1.f2, v3, v4] ∧ Below w.heap.size w w'
structure EnvG (w : World) (A : Option Addr) (G : List (List Int)) : Prop where
 rd : RdG w A G
 len : G.length ≤ 4611686018427387904
 sgs : ∀ x ∈ G, x.length ≤ 17592186040320
 ok : OkG G
theorem EnvG.below {w w' : World} {A : Option Addr} {G : List (List Int)} (h : EnvG w A G) (hb : Below w.heap.size w w') : EnvG w' A G := ⟨Kd.C_below h.rd hb, h.len, h.sgs, h.ok⟩
def ValC (f : Nat) : Prop := ∀ (A : Option Addr) (cp : Nat) (G : List (List Int)) (D Wd O m sg a dp : Int) (w : World), EnvG w A G → -1152921504606846976 ≤ a → a ≤ 1152921504606846976 → sg ≤ 4611686018427387904 → 0 ≤ m → m ≤ 4611686018427387904 → D ≤ 4611686018427387904 → 0 ≤ dp → dp + f = D + 1 ∨ (f = 0 ∧ D < dp ∧ dp ≤ 4611686018427387904) →
 Calls Tryd.prog 27 #[.slice A G.length cp, limV D Wd O, .agg #[.int .i64 m], .int .i64 sg, .int .i64 a, .int .i64 dp] w (TrV w (valR G f sg a m))
def StrC (f : Nat) : Prop := ∀ (A : Option Addr) (cp : Nat) (G : List (List Int)) (D Wd O m dp : Int) (o : Ob) (w : World), EnvG w A G → inG G o.sg o.ad (o.d + o.p) = true → 0 ≤ o.d → o.d ≤ 65535 → 0 ≤ o.p → o.p ≤ 65535 → 0 ≤ m → m ≤ 4611686018427387904 → D ≤ 4611686018427387904 → 0 ≤ dp → dp + f = D →
 Calls Tryd.prog 53 #[.slice A G.length cp, limV D Wd O, .agg #[.int .i64 m], obV o, .int .i64 dp] w (TrV w (strR G (valR G f) o m))
end Go.Proofs.YtidglmocekghmaaDoor.Pr
end
section
namespace Go.Proofs.YtidglmocekghmaaDoor.Pr
set_option linter.unusedSimpArgs false
set_option linter.unusedVariables false
open Go.RowKit Go.Proofs.YtidglmocekghmaaDoorW.PrintWords Go.Proofs.YtidglmocekghmaaDoorW.PrintLast Go.Proofs.YtidglmocekghmaaDoorW.PrintMore
def Sinks (v : Int → Int → Tr) : Prop := ∀ a m, 0 ≤ m → 0 ≤ (v a m).2.1 ∧ (v a m).2.1 ≤ m
theorem kidsR_sinks {v : Int → Int → Tr} (hv : Sinks v) : ∀ n a m, 0 ≤ m → 0 ≤ (kidsR v n a m).2.1 ∧ (kidsR v n a m).2.1 ≤ m
 | 0, a, m, h => ⟨h, Int.le_refl _⟩
 | n + 1, a, m, h => by
  have h1 := hv a m h
  have h2 := kidsR_sinks hv n (a + 1) _ h1.1
  unfold kidsR
  split
  ·exact h1
  ·exact ⟨h2.1, Int.le_trans h2.2 h1.2⟩
theorem elsR_kids (s : Ob → Int → Tr) (o : Ob) : ∀ n i m, elsR s o n i m = kidsR (fun i m => s (elG o i) m) n i m
 | 0, _, _ => rfl
 | n + 1, i, m => by unfold elsR kidsR; rw [elsR_kids s o n]
theorem strR_sinks (G : List (List Int)) {v : Int → Int → Int → Tr} (hv : ∀ sg, Sinks (v sg)) (o : Ob) (m : Int) (h : 0 ≤ m) : 0 ≤ (strR G v o m).2.1 ∧ (strR G v o m).2.1 ≤ m := by
 have := kidsR_sinks (hv o.sg) o.p.toNat (o.ad + o.d) m h
 unfold strR
 split
 ·exact this
 ·exact this
theorem bodR_sinks (G : List (List Int)) {v : Int → Int → Int → Tr} (hv : ∀ sg, Sinks (v sg)) (o : Ob) (m : Int) (h : 0 ≤ m) : 0 ≤ (bodR G v o m).2.1 ∧ (bodR G v o m).2.1 ≤ m := by
 have h1 := strR_sinks G hv o m h
 have h2 := kidsR_sinks (hv o.sg) o.n.toNat o.ad m h
 have h3 := kidsR_sinks (v := fun i m => strR G v (elG o i) m) (fun i m hm => strR_sinks G hv (elG o i) m hm) o.n.toNat 0 m h
 rw [← elsR_kids] at h3
 unfold bodR
 repeat' split
 all_goals first | exact h1 | exact h2 | exact h3 | exact ⟨h, Int.le_refl _⟩
theorem tagM_c (sg st e m c t : Int) (h : 0 ≤ m) : 0 ≤ (tagM sg st e m c t).1.c := by
 unfold tagM
 repeat' split
 all_goals first | exact Int.le_refl _ | (dsimp only; omega)
theorem objG_c (G : List (List Int)) (s a : Int) : 0 ≤ (objG G s a).1.c := by
 have h1 := fun x => pD_bd x
 have h2 := fun x => pP_bd x
 have h3 := fun x => wordsE_bd (pE x) (pC x) (pC_bd x).1 (pC_bd x).2
 unfold objG desM
 repeat' split
 all_goals first | exact Int.le_refl _ | exact tagM_c _ _ _ _ _ _ (h3 _).1 | exact (h3 _).1 | exact Int.add_nonneg (h1 _).1 (h2 _).1
theorem valR_sinks (G : List (List Int)) : ∀ f sg, Sinks (valR G f sg)
 | 0, sg => fun a m h => by
  rw [valR]
  by_cases h1 : (folM G sg a).2.2.2 ≠ 0
  ·rw [if_pos h1]; exact ⟨h, Int.le_refl _⟩
  ·rw [if_neg h1]
   by_cases h2 : (folM G sg a).1 = 0
   ·rw [if_pos h2]; exact ⟨h, Int.le_refl _⟩
   ·rw [if_neg h2]; exact ⟨h, Int.le_refl _⟩
 | f + 1, sg => fun a m h => by
  rw [valR]
  split
  ·exact ⟨h, Int.le_refl _⟩
  split
  ·exact ⟨h, Int.le_refl _⟩
  split
  ·exact ⟨h, Int.le_refl _⟩
  split
  ·exact ⟨h, Int.le_refl _⟩
  have hc := objG_c G sg a
  have := bodR_sinks G (v := valR G f) (fun sg => valR_sinks G f sg) (objG G sg a).1 (m - (objG G sg a).1.c) (by omega)
  exact ⟨this.1, by omega⟩
structure Rnd (v : Int → Int → Tr) (n : Nat) (a m : Int) (i : Nat) (ks : List S37) (mi : Int) : Prop where
 le : i ≤ n
 len : ks.length = i
 lo : 0 ≤ mi
 hi : mi ≤ m
 eq : kidsR v n a m = (ks ++ (kidsR v (n - i) (a + i) mi).1, (kidsR v (n - i) (a + i) mi).2)
theorem Rnd.start (v : Int → Int → Tr) (n : Nat) (a m : Int) (h : 0 ≤ m) : Rnd v n a m 0 [] m := ⟨Nat.zero_le _, rfl, h, Int.le_refl _, by simp⟩
theorem Rnd.stop {v : Int → Int → Tr} {n : Nat} {a m : Int} {i : Nat} {ks : List S37} {mi : Int} (h : Rnd v n a m i ks mi) (hi : i = n) : kidsR v n a m = (ks, mi, 0) := by
 subst hi
 have := h.eq
 simpa [kidsR] using this
theorem Rnd.fail {v : Int → Int → Tr} {n : Nat} {a m : Int} {i : Nat} {ks : List S37} {mi : Int} (h : Rnd v n a m i ks mi) (hi : i < n) (he : (v (a + i) mi).2.2 ≠ 0) : (kidsR v n a m).2 = ((v (a + i) mi).2.1, (v (a + i) mi).2.2) := by
 rw [h.eq]
 obtain ⟨k, hk⟩ : ∃ k, n - i = k + 1 := ⟨n - i - 1, by omega⟩
 rw [hk, kidsR, if_pos he]
theorem Rnd.next {v : Int → Int → Tr} (hv : Sinks v) {n : Nat} {a m : Int} {i : Nat} {ks : List S37} {mi : Int} (h : Rnd v n a m i ks mi) (hi : i < n) (he : (v (a + i) mi).2.2 = 0) : Rnd v n a m (i + 1) (ks ++ [(v (a + i) mi).1]) (v (a + i) mi).2.1 := by
 have h1 := hv (a + i) mi h.lo
 refine ⟨hi, by simp [h.len], h1.1, Int.le_trans h1.2 h.hi, ?_⟩
 rw [h.eq]
 obtain ⟨k, hk⟩ : ∃ k, n - i = k + 1 := ⟨n - i - 1, by omega⟩
 rw [show n - (i + 1) = k by omega, hk, kidsR, if_neg (by simpa using he)]
 have : a + ((i + 1 : Nat) : Int) = a + i + 1 := by omega
 rw [this]
 simp
end Go.Proofs.YtidglmocekghmaaDoor.Pr
end
section
namespace Go.Proofs.YtidglmocekghmaaDoor.Pr
set_option linter.unusedSimpArgs false
set_option linter.unusedVariables false
def vptrs (v : Nat → Nat → Option Nat) : Nat → Nat → Nat → Option Nat
 | 0, _, nx => some nx
 | n + 1, a, nx => match v a nx with
  | none => none
  | some r => vptrs v n (a + 1) r
def velems (v : Nat → Nat → Option Nat) (p size : Nat) : Nat → Nat → Nat → Option Nat
 | 0, _, nx => some nx
 | k + 1, a, nx => match vptrs v p a nx with
  | none => none
  | some r => velems v p size k (a + size) r
def vstr (s : List Int) (v : Nat → Nat → Option Nat) (a : Nat) (w : Int) (nx : Nat) : Option Nat :=
 if (dataW w).toNat + (ptrsW w).toNat = 0 then if offW w = -1 then some nx else none
 else if (a : Int) + 1 + offW w = nx then
  if lastM s nx (dataW w).toNat = true then
   if (decide ((ptrsW w).toNat = 0) || decide (wd s (nx + (dataW w).toNat + (ptrsW w).toNat - 1) ≠ 0)) = true then vptrs v (ptrsW w).toNat (nx + (dataW w).toNat) (nx + ((dataW w).toNat + (ptrsW w).toNat)) else none
  else none
 else none
def vcomp (s : List Int) (v : Nat → Nat → Option Nat) (a : Nat) (w : Int) (nx : Nat) : Option Nat :=
 if (a : Int) + 1 + offW w = nx then
  if offW (wd s nx) * (dataW (wd s nx) + ptrsW (wd s nx)) = cntW w then
   if ((decide ((dataW (wd s nx)).toNat = 0) || anyM s ((dataW (wd s nx)).toNat + (ptrsW (wd s nx)).toNat) (offW (wd s nx)).toNat (nx + 1 + (dataW (wd s nx)).toNat - 1)) && (decide ((ptrsW (wd s nx)).toNat = 0) || anyM s ((dataW (wd s nx)).toNat + (ptrsW (wd s nx)).toNat) (offW (wd s nx)).toNat (nx + 1 + ((dataW (wd s nx)).toNat + (ptrsW (wd s nx)).toNat) - 1))) = true then
    velems v (ptrsW (wd s nx)).toNat ((dataW (wd s nx)).toNat + (ptrsW (wd s nx)).toNat) (offW (wd s nx)).toNat (nx + 1 + (dataW (wd s nx)).toNat) (nx + ((cntW w).toNat + 1))
   else none
  else none
 else none
def vlist (s : List Int) (v : Nat → Nat → Option Nat) (a : Nat) (w : Int) (nx : Nat) : Option Nat :=
 if elemW w = 7 then vcomp s v a w nx
 else if (a : Int) + 1 + offW w = nx then
  if elemW w = 6 then vptrs v (wordsE (elemW w) (cntW w)).toNat nx (nx + (wordsE (elemW w) (cntW w)).toNat)
  else if restM s (elemW w) (cntW w) nx (wordsE (elemW w) (cntW w)).toNat = true then some (nx + (wordsE (elemW w) (cntW w)).toNat) else none
 else none
def visV (s : List Int) : Nat → Nat → Nat → Option Nat
 | 0, a, nx => if wd s a = 0 then some nx else none
 | f + 1, a, nx =>
  if wd s a = 0 then some nx
  else if kindW (wd s a) = 0 then vstr s (visV s f) a (wd s a) nx
  else if kindW (wd s a) = 1 then vlist s (visV s f) a (wd s a) nx
  else none
def Agr (s : List Int) (v : Int → Int → Tr) (V : Nat → Nat → Option Nat) (M : Nat → Nat → Nat → Option (Nat × Nat)) : Prop :=
 ∀ a nx m : Nat, a < s.length → nx ≤ s.length → M a nx m = if (v a m).2.2 = 0 then (V a nx).map (fun r => (r, (v a m).2.1.toNat)) else none
section
variable {s : List Int} {v : Int → Int → Tr} {V : Nat → Nat → Option Nat} {M : Nat → Nat → Nat → Option (Nat × Nat)}
theorem agr_kids (H : Agr s v V M) (hv : Sinks v) (hM : InM s M) : ∀ n a nx m : Nat, a + n ≤ s.length → nx ≤ s.length → ptrsM M n a nx m = if (kidsR v n a m).2.2 = 0 then (vptrs V n a nx).map (fun r => (r, (kidsR v n a m).2.1.toNat)) else none
 | 0, a, nx, m, h1, h2 => by simp [ptrsM, vptrs, kidsR]
 | n + 1, a, nx, m, h1, h2 => by
  have h3 := H a nx m (by omega) h2
  have h4 := hM a nx m
  have h5 := hv a m (by omega)
  have h6 := agr_kids H hv hM n (a + 1)
  rw [ptrsM, vptrs, kidsR, h3]
  rw [h3] at h4
  by_cases he : (v a m).2.2 = 0
  ·rw [if_pos he] at h4 ⊢
   rw [if_neg (show ¬ (v a m).2.2 ≠ 0 from fun h => h he)]
   cases hV : V a nx with
   | none => simp
   | some r =>
    rw [hV] at h4
    have h7 := (h4 _ rfl h2).2.1
    have h8 := h6 r (v a m).2.1.toNat (by omega) h7
    rw [show ((((v a m).2.1.toNat : Nat)) : Int) = (v a m).2.1 by omega, show (((a + 1 : Nat)) : Int) = (a : Int) + 1 by omega] at h8
    exact h8
  ·rw [if_neg he, if_pos he]
   simp [he]
theorem strR_2 (G : List (List Int)) (v : Int → Int → Int → Tr) (o : Ob) (m : Int) : (strR G v o m).2 = (kidsR (v o.sg) o.p.toNat (o.ad + o.d) m).2 := by
 unfold strR
 split
 ·rfl
 ·rename_i h
  have : (kidsR (v o.sg) o.p.toNat (o.ad + o.d) m).2.2 = 0 := by simpa using h
  exact Prod.ext rfl this.symm
theorem agr_elems (H : Agr s v V M) (hv : Sinks v) (hM : InM s M) (S : Ob → Int → Tr) (o : Ob) (d p ad : Nat) (hd : o.d = d) (hp : o.p = p) (ha : o.ad = ad) (hS : ∀ (o' : Ob) (m : Int), o'.p = (p : Int) → o'.sg = o.sg → (S o' m).2 = (kidsR v p (o'.ad + o'.d) m).2) :
  ∀ k i a nx m : Nat, a = ad + i * (d + p) + d → a + k * (d + p) ≤ s.length + d → nx ≤ s.length → elemsM M p (d + p) k a nx m = if (elsR S o k i m).2.2 = 0 then (velems V p (d + p) k a nx).map (fun r => (r, (elsR S o k i m).2.1.toNat)) else none
 | 0, i, a, nx, m, h0, h1, h2 => by simp [elemsM, velems, elsR]
 | k + 1, i, a, nx, m, h0, h1, h2 => by
  have y1 : (k + 1) * (d + p) = k * (d + p) + (d + p) := by rw [Nat.add_mul, Nat.one_mul]
  have h3 := agr_kids H hv hM p a nx m (by omega) h2
  have h4 := ptrsM_in hM p a nx m
  have h5 := kidsR_sinks hv p a m (by omega)
  have h6 := fun nx m => agr_elems H hv hM S o d p ad hd hp ha hS k (i + 1) (a + (d + p)) nx m
  have h9 : (S (elG o i) m).2 = (kidsR v p a m).2 := by
   rw [hS (elG o i) m hp rfl]
   unfold elG
   dsimp only
   rw [hd, hp, ha, h0]
   congr 2
  rw [elemsM, velems, elsR, h3, h9]
  rw [h3] at h4
  by_cases he : (kidsR v p a m).2.2 = 0
  ·rw [if_pos he] at h4 ⊢
   rw [if_neg (show ¬ (kidsR v p a m).2.2 ≠ 0 from fun h => h he)]
   cases hV : vptrs V p a nx with
   | none => simp
   | some r =>
    rw [hV] at h4
    have h7 := (h4 _ rfl h2).2.1
    have y2 : (i + 1) * (d + p) = i * (d + p) + (d + p) := by rw [Nat.add_mul, Nat.one_mul]
    have h8 := h6 r (kidsR v p a m).2.1.toNat (by omega) (by omega) h7
    rw [show ((((kidsR v p a m).2.1.toNat : Nat)) : Int) = (kidsR v p a m).2.1 by omega, show (((i + 1 : Nat)) : Int) = (i : Int) + 1 by omega] at h8
    exact h8
  ·rw [if_neg he, if_pos he]
   simp [he]
end
theorem inG_one {s : List Int} {a n : Int} : inG [s] 0 a n = decide (0 ≤ a ∧ 0 ≤ n ∧ a + n ≤ s.length) := by
 unfold inG sgG
 simp
theorem wdG_one {s : List Int} {a : Int} (h0 : 0 ≤ a) (h1 : a < s.length) : wdG [s] 0 a = wd s a.toNat := by
 unfold wdG
 rw [inG_one, if_pos (by simp; omega)]
 simp [sgG]
theorem folM_one {s : List Int} {a : Nat} (h : a < s.length) (hk : kindW (wd s a) ≠ 2) : folM [s] 0 a = (wd s a, 0, (a : Int) + 1, 0) := by
 unfold folM
 rw [inG_one, wdG_one (by omega) (by omega), if_neg (by simp; omega), Int.toNat_natCast, if_pos (by simp [farB, hk])]
theorem agr_str {s : List Int} {f : Nat} (H : Agr s (valR [s] f 0) (visV s f) (visM s f)) (a nx m : Nat) (ha : a < s.length) (hn : nx ≤ s.length) (h0 : wd s a ≠ 0) (hk : kindW (wd s a) = 0) :
  structM s (visM s f) a (wd s a) nx m = if (valR [s] (f + 1) 0 a m).2.2 = 0 then (vstr s (visV s f) a (wd s a) nx).map (fun r => (r, (valR [s] (f + 1) 0 a m).2.1.toNat)) else none := by
 have hF := folM_one ha (by omega)
 have hd := dataW_bd (wd s a)
 have hp := ptrsW_bd (wd s a)
 obtain ⟨d, hd1⟩ := Int.eq_ofNat_of_zero_le hd.1
 obtain ⟨p, hp1⟩ := Int.eq_ofNat_of_zero_le hp.1
 have hO : objG [s] 0 a = if inG [s] 0 ((a : Int) + 1 + offW (wd s a)) ((d : Int) + p) = true then (⟨1, 0, (a : Int) + 1 + offW (wd s a), d, p, 0, 0, (d : Int) + p⟩, 0) else (Ob.z, 2) := by
  unfold objG desM
  rw [hF]
  simp only [pO, pD, pP, hk, hd1, hp1, h0, ne_eq, not_true_eq_false, if_false, if_true, show ((0 : Int) = 3) = False by simp, show ((0 : Int) ≤ 1) = True by simp]
 have hV : valR [s] (f + 1) 0 a m = if (objG [s] 0 a).2 ≠ 0 then (ndZ, (m : Int), (objG [s] 0 a).2) else if (m : Int) < (objG [s] 0 a).1.c then (ndZ, (m : Int), 8) else bodR [s] (valR [s] f) (objG [s] 0 a).1 ((m : Int) - (objG [s] 0 a).1.c) := by
  rw [valR, hF]
  simp [h0]
 unfold structM vstr
 simp only [hd1, hp1, Int.toNat_natCast]
 rw [hV, hO]
 clear hV hO hF
 by_cases h1 : d + p = 0
 ·have hd0 : d = 0 := by omega
  have hp0 : p = 0 := by omega
  subst hd0 hp0
  by_cases h2 : offW (wd s a) = -1
  ·have : inG [s] 0 ((a : Int) + 1 + offW (wd s a)) (((0 : Nat) : Int) + ((0 : Nat) : Int)) = true := by rw [inG_one, h2]; simp; omega
   rw [this]
   have h3 : ¬ ((m : Int) < 0) := by omega
   simp [h2, bodR, strR, kidsR, h3]
  ·simp [h2]
 ·simp only [h1, if_false]
  by_cases h2 : (a : Int) + 1 + offW (wd s a) = nx
  ·simp only [h2, if_true]
   have hI : inG [s] 0 (nx : Int) ((d : Int) + p) = decide (nx + (d + p) ≤ s.length) := by rw [inG_one]; congr 1; simp only [eq_iff_iff]; omega
   have hB : objM s a (offW (wd s a)) (d + p) nx = decide (nx + (d + p) ≤ s.length) := by unfold objM; simp [h2]
   rw [hI, hB]
   by_cases h3 : nx + (d + p) ≤ s.length
   ·simp only [h3, decide_true, if_true, ne_eq, not_true_eq_false, if_false]
    by_cases h4 : d + p ≤ m
    ·rw [if_pos h4, if_neg (show ¬ ((m : Int) < (d : Int) + p) by omega)]
     have hK := agr_kids H (valR_sinks [s] f 0) (visM_in s f) p (nx + d) (nx + (d + p)) (m - (d + p)) (by omega) (by omega)
     rw [hK]
     simp only [bodR, if_true]
     rw [strR_2]
     dsimp only
     rw [Int.toNat_natCast, show ((nx : Int) + (d : Int)) = ((nx + d : Nat) : Int) by omega, show ((m : Int) - ((d : Int) + p)) = ((m - (d + p) : Nat) : Int) by omega]
     by_cases h5 : lastM s nx d = true
     ·by_cases h6 : (decide (p = 0) || decide (wd s (nx + d + p - 1) ≠ 0)) = true
      ·rw [if_pos h5, if_pos h6, if_pos h5, if_pos h6]
      ·rw [if_pos h5, if_neg h6, if_pos h5, if_neg h6]; simp
     ·rw [if_neg h5, if_neg h5]; simp
    ·rw [if_neg h4, if_pos (show ((m : Int) < (d : Int) + p) by omega)]
     simp
   ·simp [h3]
  ·have hB : objM s a (offW (wd s a)) (d + p) nx = false := by unfold objM; simp [h2]
   simp [h2, hB]
end Go.Proofs.YtidglmocekghmaaDoor.Pr
end
section
namespace Go.Proofs.YtidglmocekghmaaDoor.Pr
set_option linter.unusedSimpArgs false
set_option linter.unusedVariables false
theorem elemsM_zero (v : Nat → Nat → Nat → Option (Nat × Nat)) : ∀ k a nx m : Nat, elemsM v 0 0 k a nx m = some (nx, m)
 | 0, _, _, _ => rfl
 | k + 1, a, nx, m => by simp [elemsM, ptrsM, elemsM_zero v k]
theorem valR_obj {s : List Int} {f a m : Nat} (ha : a < s.length) (h0 : wd s a ≠ 0) (hk : kindW (wd s a) ≠ 2) : valR [s] (f + 1) 0 a m = if (objG [s] 0 a).2 ≠ 0 then (ndZ, (m : Int), (objG [s] 0 a).2) else if (m : Int) < (objG [s] 0 a).1.c then (ndZ, (m : Int), 8) else bodR [s] (valR [s] f) (objG [s] 0 a).1 ((m : Int) - (objG [s] 0 a).1.c) := by
 rw [valR, folM_one ha hk]
 simp [h0]
theorem agr_comp {s : List Int} {f : Nat} (H : Agr s (valR [s] f 0) (visV s f) (visM s f)) (a nx m : Nat) (ha : a < s.length) (hn : nx ≤ s.length) (h0 : wd s a ≠ 0) (hk : kindW (wd s a) = 1) (he : elemW (wd s a) = 7) :
  compM s (visM s f) a (wd s a) nx m = if (valR [s] (f + 1) 0 a m).2.2 = 0 then (vcomp s (visV s f) a (wd s a) nx).map (fun r => (r, (valR [s] (f + 1) 0 a m).2.1.toNat)) else none := by
 have hF := folM_one ha (by omega)
 obtain ⟨c, hc⟩ := Int.eq_ofNat_of_zero_le (cntW_bd (wd s a)).1
 rw [valR_obj ha h0 (by omega)]
 unfold compM vcomp
 by_cases h2 : (a : Int) + 1 + offW (wd s a) = nx
 ·have hW : wordsE 7 (c : Int) = (c : Int) + 1 := rfl
  have hI : inG [s] 0 (nx : Int) ((c : Int) + 1) = decide (nx + (c + 1) ≤ s.length) := by rw [inG_one]; congr 1; simp only [eq_iff_iff]; omega
  have hB : objM s a (offW (wd s a)) (c + 1) nx = decide (nx + (c + 1) ≤ s.length) := by unfold objM; simp [h2]
  have hO : objG [s] 0 a = if nx + (c + 1) ≤ s.length then tagM 0 nx 7 ((c : Int) + 1) c (wdG [s] 0 nx) else (Ob.z, 2) := by
   unfold objG desM
   rw [hF]
   simp only [pO, pD, pP, pE, pC, hk, he, hc, h0, h2, hW, hI, ne_eq, not_true_eq_false, if_false, if_true, show ((1 : Int) = 3) = False by simp, show ((1 : Int) = 0) = False by simp, show ((1 : Int) ≤ 1) = True by simp, decide_eq_false_iff_not]
   by_cases h3 : nx + (c + 1) ≤ s.length <;> simp [h3]
  simp only [hc, Int.toNat_natCast, h2, if_true]
  rw [hO, hB]
  by_cases h3 : nx + (c + 1) ≤ s.length
  ·simp only [h3, decide_true, if_true]
   rw [wdG_one (by omega) (by omega), Int.toNat_natCast]
   generalize wd s nx = t
   obtain ⟨d, hd1⟩ := Int.eq_ofNat_of_zero_le (dataW_bd t).1
   obtain ⟨p, hp1⟩ := Int.eq_ofNat_of_zero_le (ptrsW_bd t).1
   by_cases hkt : kindW t = 0
   ·have hpo : pO t = offW t := by unfold pO; rw [if_pos (by omega)]
    have hpd : pD t = d := by unfold pD; rw [if_pos hkt, hd1]
    have hpp : pP t = p := by unfold pP; rw [if_pos hkt, hp1]
    by_cases ho : 0 ≤ offW t
    ·obtain ⟨k, hk1⟩ := Int.eq_ofNat_of_zero_le ho
     simp only [hk1, hd1, hp1, Int.toNat_natCast]
     rw [hk1] at hpo
     by_cases hs : (k : Int) * ((d : Int) + p) = c
     ·have hs' : k * (d + p) = c := by exact_mod_cast hs
      by_cases hz : d + p = 0
      ·have hd0 : d = 0 := by omega
       have hp0 : p = 0 := by omega
       subst hd0 hp0
       have hT : tagM 0 nx 7 ((c : Int) + 1) c t = (⟨2, 0, (nx : Int) + 1, 0, 0, 7, k, (c : Int) + 1 + k⟩, 0) := by
        unfold tagM
        simp only [hpo, hpd, hpp, hkt, ne_eq, not_true_eq_false, if_false]
        rw [if_neg (by omega), if_neg (by simp), if_pos (by simp)]
        rfl
       rw [hT]
       simp only [hkt, hs, true_and, Int.natCast_nonneg, if_true, ne_eq, not_true_eq_false, if_false]
       by_cases h4 : c + 1 ≤ m
       ·by_cases h5 : k ≤ m - (c + 1)
        ·have hE := agr_elems H (valR_sinks [s] f 0) (visM_in s f) (strR [s] (valR [s] f)) ⟨2, 0, (nx : Int) + 1, 0, 0, 7, k, (c : Int) + 1 + k⟩ 0 0 (nx + 1) rfl rfl (by simp) (fun o' m hp hg => by rw [strR_2, hp, hg]; rfl) k 0 (nx + 1 + 0) (nx + (c + 1)) (m - (c + 1) - k) (by omega) (by omega) (by omega)
         rw [show (0 : Nat) + 0 = 0 from rfl, elemsM_zero] at hE
         rw [show ((m - (c + 1) - k : Nat) : Int) = (m : Int) - ((c : Int) + 1 + k) by omega] at hE
         have hlt : ¬ ((m : Int) < (c : Int) + 1 + k) := by omega
         simp only [h4, h5, hlt, if_true, if_false, bodR, show ((2 : Int) = 1) = False by simp, show ((7 : Int) < 6) = False by simp, show ((7 : Int) = 6) = False by simp, Int.toNat_natCast]
         simp only [decide_true, Bool.true_or, Bool.and_self, if_true]
         generalize elsR (strR [s] (valR [s] f)) ⟨2, 0, (nx : Int) + 1, 0, 0, 7, k, (c : Int) + 1 + k⟩ k 0 ((m : Int) - ((c : Int) + 1 + k)) = z at *
         obtain ⟨z1, z2, z3⟩ := z
         dsimp only at hE ⊢
         by_cases hz3 : z3 = 0
         ·subst hz3
          simpa using hE
         ·simp [hz3] at hE
        ·have hlt : ((m : Int) < (c : Int) + 1 + k) := by omega
         simp [h4, h5, hlt]
       ·have hlt : ((m : Int) < (c : Int) + 1 + k) := by omega
        simp [h4, hlt]
      ·have hT : tagM 0 nx 7 ((c : Int) + 1) c t = (⟨2, 0, (nx : Int) + 1, d, p, 7, k, (c : Int) + 1⟩, 0) := by
        unfold tagM
        simp only [hpo, hpd, hpp, hkt, ne_eq, not_true_eq_false, if_false]
        rw [if_neg (by omega), if_neg (by omega), if_neg (by omega)]
       rw [hT]
       simp only [hkt, hs, hz, true_and, Int.natCast_nonneg, if_true, ne_eq, not_true_eq_false, if_false]
       by_cases h4 : c + 1 ≤ m
       ·have hE := agr_elems H (valR_sinks [s] f 0) (visM_in s f) (strR [s] (valR [s] f)) ⟨2, 0, (nx : Int) + 1, d, p, 7, k, (c : Int) + 1⟩ d p (nx + 1) rfl rfl (by simp) (fun o' m hp hg => by rw [strR_2, hp, hg]; simp) k 0 (nx + 1 + d) (nx + (c + 1)) (m - (c + 1)) (by omega) (by rw [hs']; omega) (by omega)
        rw [show ((m - (c + 1) : Nat) : Int) = (m : Int) - ((c : Int) + 1) by omega] at hE
        have hlt : ¬ ((m : Int) < (c : Int) + 1) := by omega
        simp only [h4, hlt, if_true, if_false, bodR, show ((2 : Int) = 1) = False by simp, show ((7 : Int) < 6) = False by simp, show ((7 : Int) = 6) = False by simp, Int.toNat_natCast]
        rw [hE]
        generalize elsR (strR [s] (valR [s] f)) ⟨2, 0, (nx : Int) + 1, d, p, 7, k, (c : Int) + 1⟩ k ((0 : Nat) : Int) ((m : Int) - ((c : Int) + 1)) = z
        obtain ⟨z1, z2, z3⟩ := z
        dsimp only
        by_cases hz3 : z3 = 0
        ·subst hz3
         simp only [ne_eq, not_true_eq_false, if_false, if_true]
         split <;> simp
        ·simp [hz3]
       ·have hlt : ((m : Int) < (c : Int) + 1) := by omega
        simp [h4, hlt]
     ·simp [hs]
    ·have hT : (tagM 0 nx 7 ((c : Int) + 1) c t).2 = 5 := by
      unfold tagM
      rw [if_neg (by omega), hpo, if_pos (by omega)]
     simp [ho, hT]
   ·have hT : (tagM 0 nx 7 ((c : Int) + 1) c t).2 = 5 := by
     unfold tagM
     rw [if_pos hkt]
    simp [hkt, hT]
  ·simp [h3]
 ·have hB : objM s a (offW (wd s a)) ((cntW (wd s a)).toNat + 1) nx = false := by unfold objM; simp [h2]
  simp [h2, hB]
theorem agr_list {s : List Int} {f : Nat} (H : Agr s (valR [s] f 0) (visV s f) (visM s f)) (a nx m : Nat) (ha : a < s.length) (hn : nx ≤ s.length) (h0 : wd s a ≠ 0) (hk : kindW (wd s a) = 1) :
  listM s (visM s f) a (wd s a) nx m = if (valR [s] (f + 1) 0 a m).2.2 = 0 then (vlist s (visV s f) a (wd s a) nx).map (fun r => (r, (valR [s] (f + 1) 0 a m).2.1.toNat)) else none := by
 unfold listM vlist
 by_cases he : elemW (wd s a) = 7
 ·rw [if_pos he, if_pos he]
  exact agr_comp H a nx m ha hn h0 hk he
 rw [if_neg he, if_neg he]
 have hF := folM_one ha (by omega)
 obtain ⟨c, hc⟩ := Int.eq_ofNat_of_zero_le (cntW_bd (wd s a)).1
 have heb := elemW_bd (wd s a)
 rw [valR_obj ha h0 (by omega), hc]
 obtain ⟨e, hE⟩ : ∃ e, elemW (wd s a) = e := ⟨_, rfl⟩
 rw [hE] at he heb ⊢
 have hcb := (cntW_bd (wd s a)).2
 obtain ⟨n, hw⟩ := Int.eq_ofNat_of_zero_le (wordsE_bd e (c : Int) (by omega) (by omega)).1
 simp only [hw, Int.toNat_natCast]
 by_cases h2 : (a : Int) + 1 + offW (wd s a) = nx
 ·have hI : inG [s] 0 (nx : Int) (n : Int) = decide (nx + n ≤ s.length) := by rw [inG_one]; congr 1; simp only [eq_iff_iff]; omega
  have hB : objM s a (offW (wd s a)) n nx = decide (nx + n ≤ s.length) := by unfold objM; simp [h2]
  have hO : objG [s] 0 a = if nx + n ≤ s.length then (⟨2, 0, nx, 0, 0, e, c, n⟩, 0) else (Ob.z, 2) := by
   unfold objG desM
   rw [hF]
   simp only [pO, pD, pP, pE, pC, hk, hE, hc, h0, h2, hw, hI, he, ne_eq, not_true_eq_false, not_false_eq_true, if_false, if_true, show ((1 : Int) = 3) = False by simp, show ((1 : Int) = 0) = False by simp, show ((1 : Int) ≤ 1) = True by simp, decide_eq_false_iff_not]
   by_cases h3 : nx + n ≤ s.length <;> simp [h3]
  simp only [h2, if_true]
  rw [hO, hB]
  by_cases h3 : nx + n ≤ s.length
  ·simp only [h3, decide_true, if_true, ne_eq, not_true_eq_false, if_false]
   by_cases h4 : n ≤ m
   ·have hlt : ¬ ((m : Int) < n) := by omega
    simp only [h4, hlt, if_true, if_false, bodR, show ((2 : Int) = 1) = False by simp, Int.toNat_natCast]
    by_cases h6 : e = 6
    ·have hnc : n = c := by
      rw [h6] at hw
      unfold wordsE bitsE at hw
      simp at hw
      omega
     subst hnc
     have hK := agr_kids H (valR_sinks [s] f 0) (visM_in s f) n nx (nx + n) (m - n) (by omega) (by omega)
     rw [show ((m - n : Nat) : Int) = (m : Int) - n by omega] at hK
     have h7 : ¬ e < 6 := by omega
     rw [if_pos h6, if_pos h6, if_neg h7, if_pos h6, hK]
     generalize kidsR (valR [s] f 0) n nx ((m : Int) - n) = z
     obtain ⟨z1, z2, z3⟩ := z
     dsimp only
     by_cases hz3 : z3 = 0
     ·subst hz3
      simp
     ·simp [hz3]
    ·have h7 : e < 6 := by omega
     rw [if_neg h6, if_neg h6, if_pos h7]
     split
     ·simp
     ·simp
   ·have hlt : ((m : Int) < n) := by omega
    simp [h4, hlt]
  ·simp [h3]
 ·have hB : objM s a (offW (wd s a)) n nx = false := by unfold objM; simp [h2]
  simp [h2, hB]
theorem agr_vis (s : List Int) : ∀ f, Agr s (valR [s] f 0) (visV s f) (visM s f)
 | 0 => fun a nx m ha hn => by
  unfold visM visV
  by_cases h0 : wd s a = 0
  ·have hk : kindW (wd s a) ≠ 2 := by rw [h0]; decide
   rw [valR, folM_one ha hk]
   simp [h0]
  ·simp [h0]
 | f + 1 => fun a nx m ha hn => by
  have H := agr_vis s f
  by_cases h0 : wd s a = 0
  ·have hk : kindW (wd s a) ≠ 2 := by rw [h0]; decide
   rw [visM, visV, if_pos h0, if_pos h0, valR, folM_one ha hk]
   simp [h0]
  ·rw [visM, visV, if_neg h0, if_neg h0]
   by_cases h1 : kindW (wd s a) = 0
   ·rw [if_pos h1, if_pos h1]
    exact agr_str H a nx m ha hn h0 h1
   ·rw [if_neg h1, if_neg h1]
    by_cases h2 : kindW (wd s a) = 1
    ·rw [if_pos h2, if_pos h2]
     exact agr_list H a nx m ha hn h0 h2
    ·rw [if_neg h2, if_neg h2]
     simp
end Go.Proofs.YtidglmocekghmaaDoor.Pr
end
section
namespace Go.Proofs.YtidglmocekghmaaDoor.Pr
open Go.RowKit Go.Proofs.YtidglmocekghmaaDoorW.PrintWords Go.Proofs.YtidglmocekghmaaDoorW.PrintLast Go.Proofs.YtidglmocekghmaaDoorW.PrintMore
set_option linter.unusedVariables false
set_option linter.unusedSimpArgs false
theorem cutG_mem {G : List (List Int)} (h : OkG G) (s a n : Int) : ∀ x ∈ cutG G s a n, 0 ≤ x ∧ x < 18446744073709551616 := by
 intro x hx
 have h1 := List.mem_of_mem_drop (List.mem_of_mem_take hx)
 unfold sgG at h1
 by_cases hs : s.toNat < G.length
 ·rw [List.getD_eq_getElem?_getD, List.getElem?_eq_getElem hs] at h1
  exact h _ (List.getElem_mem hs) _ h1
 ·rw [List.getD_eq_getElem?_getD, List.getElem?_eq_none (by omega)] at h1
  cases h1
theorem cutG_len {G : List (List Int)} {s a n : Int} (h : (sgG G s).length ≤ 17592186040320) : (cutG G s a n).length ≤ 17592186040320 := by
 unfold cutG
 rw [List.length_take, List.length_drop]
 omega
theorem TrV.openV {w : World} {q : Tr} {r : Ending} {w' : World} (h : TrV w q r w') : ∃ A3 c3 A4 c4, r = .returned (.tuple #[.agg #[.int .i64 q.1.f0, .int .i64 q.1.f1, .int .i64 q.1.f2, .slice A3 q.1.f3.length c3, .slice A4 q.1.f4.length c4], .agg #[.int .i64 q.2.1], .int .i64 q.2.2]) ∧ k37.M w' w.heap.size (fun _ => True) q.1 [.int .i64 q.1.f0, .int .i64 q.1.f1, .int .i64 q.1.f2, .slice A3 q.1.f3.length c3, .slice A4 q.1.f4.length c4] ∧ Below w.heap.size w w' := by
 obtain ⟨v3, v4, h1, h2, h3⟩ := h
 obtain ⟨A3, c3, A4, c4, e, _⟩ := k37_open (k37.K_of_M h2)
 simp only [List.cons.injEq, true_and, and_true] at e
 obtain ⟨rfl, rfl⟩ := e
 exact ⟨A3, c3, A4, c4, h1, h2, h3⟩
set_option maxRecDepth 100000 in
set_option maxHeartbeats 4000000 in
theorem str_walk (f : Nat) (hv : ValC f) : StrC f := by
  intro A cp G D Wd O m dp o w hE hin d0 d1 p0 p1 m0 m1 D1 dp0 hdp
  obtain ⟨kd, sg, ad, d, p, e, n0, c⟩ := o
  dsimp only at hin d0 d1 p0 p1
  have hb : 0 ≤ sg ∧ sg < G.length ∧ 0 ≤ ad ∧ 0 ≤ d + p ∧ ad + (d + p) ≤ (sgG G sg).length := by unfold inG at hin; rw [decide_eq_true_eq] at hin; exact hin
  obtain ⟨s0, s1, a0, -, hn⟩ := hb
  have hid : inG G sg ad d = true := decide_eq_true ⟨s0, s1, a0, d0, by omega⟩
  have hlen := hE.len
  have hsl : (sgG G sg).length ≤ 17592186040320 := by
    obtain ⟨i, rfl⟩ := Int.eq_ofNat_of_zero_le s0
    exact sg_len hE.sgs i (by omega)
  obtain ⟨n, rfl⟩ := Int.eq_ofNat_of_zero_le p0
  have HS := fun w' (hb : Below w.heap.size w w') => Lib.hid (slice_at A cp G sg ad d w' (Kd.C_below hE.rd hb) hid hE.len hE.sgs)
  have HBY := fun (A' : Option Addr) c' (w' : World) hr => Lib.hid (rbytes_any A' c' (cutG G sg ad d) w' hr (cutG_len hsl) (cutG_mem hE.ok sg ad d))
  have HV := fun (j : Nat) (hj : j < n) mi (q0 : 0 ≤ mi) (q1 : mi ≤ m) w' (hb : Below w.heap.size w w') => Lib.hid (hv A cp G D Wd O mi sg (ad + d + j) (dp + 1) w' (hE.below hb) (by omega) (by omega) (by omega) q0 (by omega) D1 (by omega) (.inl (by omega)))
  have HN := Lib.hid (valR_sinks G f sg)
  have HR := Lib.hid (strR.eq_1 G (valR G f) ⟨kd, sg, ad, d, (n : Int), e, n0, c⟩ m)
  dsimp only at HR
  rw [Int.toNat_natCast] at HR
  have HR0 := Lib.hid (Rnd.start (valR G f sg) n (ad + d) m m0)
  generalize strR G (valR G f) ⟨kd, sg, ad, d, (n : Int), e, n0, c⟩ m = r at *
  generalize cutG G sg ad d = ws at *
  generalize valR G f sg = v at *
  have a1 : ad ≤ 17592186040320 := by omega
  have S := Sep.start w
  clear hv hin hid hn hE
  go_enter Tryd.func53, Tryd.ntmps53
  go_wp2_with (first | go_skip | ((with_reducible refine wl ?_); first | (refine sn S (fun g w1 S => ?_); first | ((fail_if_success (have := gl)); revert g; intro gl S) | ((fail_if_success (have := gm)); revert g; intro gm S) | ((fail_if_success (have := go)); revert g; intro go S) | ((fail_if_success (have := gr)); revert g; intro gr S) | ((fail_if_success (have := gs)); revert g; intro gs S) | ((fail_if_success (have := gN)); revert g; intro gN S) | ((fail_if_success (have := gM)); revert g; intro gM S)) | refine ss S (fun w1 S => ?_) | refine sl S ?_ | refine sa S ?_)  | ((with_reducible refine (HS _ S.below).out.mono ?_); rintro e w' ⟨vs, rfl, hR, hb⟩; obtain ⟨A', c', rfl, hle, hC⟩ := Kd.R_reads hR; replace S := S.call hb) | ((with_reducible refine (HBY _ _ _ hC).out.mono ?_); rintro e w' ⟨v3, rfl, hR, hb⟩; obtain ⟨A3, c3, rfl⟩ := Kd.R_slice hR; replace S := S.push (a := .row (Kd.int .u8) 5 _ (bytesL ws)) hb hR))
  have S := Lib.hid (S.nil k37 37)
  have S := Lib.hid (S.out.pick 1 rfl rfl)
  have S := Lib.hid (S.out.pick 1 rfl rfl)
  go_loopw [17] (fun k wr => ∃ (j : Nat) (ks : List S37) (mi : Int) (Ak : Option Addr) (ck : Nat), Rnd v n (ad + d) m j ks mi ∧ k = .int .i64 j ∧ Hid (Sep w wr [.row k37 37 (.slice Ak ks.length ck) ks, .box gM #[.int .i64 mi] 52, .row (Kd.int .u8) 5 (.slice A3 (bytesL ws).length c3) (bytesL ws), .box gN #[.int .i64 1, .int .i64 0, .int .i64 0, .slice A3 (bytesL ws).length c3, .slice Ak ks.length ck] 37, .box gs #[.int .i64 0] 52, .box gr #[.int .i64 0, .int .i64 0, .int .i64 0, .slice none 0 0, .slice none 0 0] 37, .box go #[.int .i64 kd, .int .i64 sg, .int .i64 ad, .int .i64 d, .int .i64 n, .int .i64 e, .int .i64 n0, .int .i64 c] 75, .box gm #[.int .i64 m] 52, .box gl #[.int .i64 D, .int .i64 Wd, .int .i64 O] 24])) (fun k _ => n - (intOf k).toNat)
  case atStart => exact ⟨0, [], m, none, 0, HR0.out, rfl, S⟩
  case round =>
    clear S
    obtain ⟨j, ks, mi, Ak, ck, hr, rfl, S⟩ := hrel
    by_cases hj : j < n
    · have HVj := HV j hj mi hr.lo hr.hi
      have e1 := hr.fail hj
      have e2 := hr.next HN.out hj
      generalize v (ad + d + j) mi = q at *
      obtain ⟨⟨f0, f1, f2, f3, f4⟩, m', e'⟩ := q
      dsimp only at e1 e2
      by_cases he : e' ≠ 0
      · have HR := Lib.hid (HR.out.trans (by rw [e1 he, if_pos he]))
        have t1 : (e' != 0) = true := bne_iff_ne.2 he
        clear e1 e2 he HR0
        have S := S.out
        go_wp2_with (first | go_skip | ((with_reducible refine wl ?_); first | refine sn S (fun g w1 S => ?_) | refine ss S (fun w1 S => ?_) | refine sl S ?_ | refine sa S ?_)  | ((with_reducible refine (HVj _ S.below).out.mono ?_); rintro r' w' hT; obtain ⟨B3, d3, B4, d4, rfl, hM, hb⟩ := TrV.openV hT; replace S := S.push (a := .made k37 _ _) hb hM; dsimp only at S))
        refine rs [0] S (fun w1 S => ?_)
        refine pu 0 64 ?_
        refine lt 1 S ?_
        refine pu 2 66 ?_
        refine ls 3 S (fun w2 S => ?_)
        refine ls 4 S (fun w3 S => ?_)
        refine pu 5 12 ?_
        refine dn ?_
        go_wp2
        have S1 := ((S.nil k37 37).nil (Kd.int .u8) 5).node (f0 := 0) (f1 := 0) (f2 := 0)
        have HR := HR.out
        subst HR
        exact rt S ⟨_, _, rfl, S1.out .here, S.below⟩
      · obtain rfl : e' = 0 := by omega
        have hr2 := Lib.hid (e2 rfl)
        clear e1 e2 he
        have S := S.out
        have HLL : Hid ((ks.length + 1) * 72 ≤ 140737488355328) := Lib.hid (by have := hr.len; omega)
        go_wp2_with (first | go_skip | ((with_reducible refine wl ?_); first | refine sn S (fun g w1 S => ?_) | refine ss S (fun w1 S => ?_) | refine sl S ?_ | refine sa S ?_)  | ((with_reducible refine (HVj _ S.below).out.mono ?_); rintro r' w' hT; obtain ⟨B3, d3, B4, d4, rfl, hM, hb⟩ := TrV.openV hT; replace S := S.push (a := .made k37 _ _) hb hM; dsimp only at S) | (at_builtin; refine sp_append S.tail.tail.swap rfl rfl Tryd.underlying35 info37 rfl (by decide) (by omega) rfl rfl HLL.out (fun v1 w1 S => ?_); obtain ⟨Ak, ck, rfl⟩ := Kd.R_slice (S.outR .here)))
        go_roundw
        case rel => exact ⟨j + 1, _, m', Ak, ck, hr2.out, by go_num, Lib.hid (by simp only [List.length_append, List.length_singleton] at S ⊢; exact S)⟩
        case measure => simp [intOf]; omega
    · obtain rfl : j = n := by have := hr.le; omega
      have HR := Lib.hid (HR.out.trans (by rw [hr.stop rfl, if_neg (by simp)]))
      dsimp only at HR
      have S := S.out
      go_wp2_with (first | go_skip | ((with_reducible refine wl ?_); first | refine sn S (fun g w1 S => ?_) | refine ss S (fun w1 S => ?_) | refine sl S ?_ | refine sa S ?_) )
      refine rs [3, 1] S (fun w1 S => ?_)
      refine lt 0 S ?_
      refine lt 1 S ?_
      refine ls 2 S (fun w2 S => ?_)
      refine ls 3 S (fun w3 S => ?_)
      refine pu 4 12 ?_
      refine dn ?_
      go_wp2
      have S1 := (S.pick 2 rfl rfl).node (f0 := 1) (f1 := 0) (f2 := 0)
      have HR := HR.out
      subst HR
      exact rt S ⟨_, _, rfl, S1.out .here, S.below⟩
end Go.Proofs.YtidglmocekghmaaDoor.Pr
end
section
namespace Go.Proofs.YtidglmocekghmaaDoor.Pr
set_option linter.unusedSimpArgs false
set_option linter.unusedVariables false
theorem inG_sub {G : List (List Int)} {s a n k b : Int} (h : inG G s a n = true) (hb : a ≤ b) (hk : 0 ≤ k) (hn : b + k ≤ a + n) : inG G s b k = true := by
 unfold inG at *
 rw [decide_eq_true_eq] at *
 omega
theorem inG_bd {G : List (List Int)} {s a n : Int} (h : inG G s a n = true) (hl : ∀ x ∈ G, x.length ≤ 17592186040320) : 0 ≤ s ∧ s < G.length ∧ 0 ≤ a ∧ 0 ≤ n ∧ a + n ≤ 17592186040320 := by
 unfold inG at h
 rw [decide_eq_true_eq] at h
 have := sg_len hl s.toNat (by omega)
 rw [show ((s.toNat : Nat) : Int) = s by omega] at this
 omega
structure ObK (G : List (List Int)) (o : Ob) : Prop where
 c0 : 0 ≤ o.c
 is : (o.kd = 1 ∧ inG G o.sg o.ad (o.d + o.p) = true ∧ 0 ≤ o.d ∧ o.d ≤ 65535 ∧ 0 ≤ o.p ∧ o.p ≤ 65535) ∨
  (o.kd = 2 ∧ 0 ≤ o.e ∧ o.e ≤ 6 ∧ 0 ≤ o.n ∧ o.n ≤ 536870911 ∧ o.c = wordsE o.e o.n ∧ inG G o.sg o.ad o.c = true) ∨
  (o.kd = 2 ∧ o.e = 7 ∧ 0 ≤ o.n ∧ o.n ≤ 536870911 ∧ 0 ≤ o.d ∧ o.d ≤ 65535 ∧ 0 ≤ o.p ∧ o.p ≤ 65535 ∧ ∃ C, inG G o.sg o.ad C = true ∧ o.n * (o.d + o.p) ≤ C)
theorem obj_ok (G : List (List Int)) (s a : Int) (h : (objG G s a).2 = 0) (he : (folM G s a).2.2.2 = 0) (hx : (folM G s a).1 ≠ 0) : ObK G (objG G s a).1 := by
 refine ⟨objG_c G s a, ?_⟩
 revert h
 unfold objG
 rw [if_neg (by simpa using he), if_neg hx]
 generalize folM G s a = q
 obtain ⟨x, sg, ba, er⟩ := q
 dsimp only
 have q1 := pD_bd x
 have q2 := pP_bd x
 have q3 := pE_bd x
 have q4 := pC_bd x
 unfold desM
 split
 ·split
  ·intro h; cases h
  ·intro h; cases h
 split
 ·split
  ·rename_i hi
   intro _
   exact .inl ⟨rfl, hi, q1.1, q1.2, q2.1, q2.2⟩
  ·intro h; cases h
 split
 ·intro h; cases h
 rename_i hi
 have hi : inG G sg (ba + pO x) (wordsE (pE x) (pC x)) = true := by
  cases hh : inG G sg (ba + pO x) (wordsE (pE x) (pC x)) with
  | true => rfl
  | false => exact (hi hh).elim
 split
 ·intro _
  exact .inr (.inl ⟨rfl, q3.1, by dsimp only; omega, q4.1, q4.2, rfl, hi⟩)
 rename_i he7
 have he7 : pE x = 7 := by omega
 have hw : wordsE (pE x) (pC x) = pC x + 1 := by rw [he7]; rfl
 have t1 := pO_bd (wdG G sg (ba + pO x))
 have t2 := pD_bd (wdG G sg (ba + pO x))
 have t3 := pP_bd (wdG G sg (ba + pO x))
 generalize wdG G sg (ba + pO x) = t at *
 rw [hw] at hi ⊢
 unfold tagM
 split
 ·intro h; cases h
 split
 ·intro h; cases h
 split
 ·intro h; cases h
 rename_i h1 h2 h3
 have hC := inG_sub (b := ba + pO x + 1) (k := pC x) hi (by omega) q4.1 (by omega)
 split
 all_goals
  intro _
  exact .inr (.inr ⟨rfl, he7, by dsimp only; omega, t1.2, t2.1, t2.2, t3.1, t3.2, pC x, hC, by dsimp only; omega⟩)
end Go.Proofs.YtidglmocekghmaaDoor.Pr
end
section
namespace Go.Proofs.YtidglmocekghmaaDoor.Pr
open Go.RowKit Go.Proofs.YtidglmocekghmaaDoorW.PrintWords Go.Proofs.YtidglmocekghmaaDoorW.PrintLast Go.Proofs.YtidglmocekghmaaDoorW.PrintMore
set_option linter.unusedVariables false
set_option linter.unusedSimpArgs false
theorem bytesL_bd : ∀ (l : List Int), ∀ x ∈ bytesL l, 0 ≤ x ∧ x < 256
 | [], x, h => by cases h
 | w :: l, x, h => by
  rcases List.mem_append.1 h with h | h
  ·simp only [bytesW, List.mem_cons, List.not_mem_nil, or_false] at h
   omega
  ·exact bytesL_bd l x h
abbrev ObG (G : List (List Int)) (A : Option Addr) (cp : Nat) (sg a : Int) (w : World) (o : Ob) (e : Int) : Prop :=
 ∀ w', Below w.heap.size w w' → Hid (Calls Tryd.prog 40 #[.slice A G.length cp, .int .i64 sg, .int .i64 a] w' fun r w1 => r = .returned (.tuple #[obV o, .int .i64 e]) ∧ Below w'.heap.size w' w1)
abbrev FoG (G : List (List Int)) (A : Option Addr) (cp : Nat) (sg a : Int) (w : World) (x s' b' e : Int) : Prop :=
 ∀ w', Below w.heap.size w w' → Hid (Calls Tryd.prog 51 #[.slice A G.length cp, .int .i64 sg, .int .i64 a] w' fun r w1 => r = .returned (.tuple #[.int .u64 x, .int .i64 s', .int .i64 b', .int .i64 e]) ∧ Below w'.heap.size w' w1)
set_option maxRecDepth 100000 in
set_option maxHeartbeats 4000000 in
theorem val_1 (A : Option Addr) (cp : Nat) (G : List (List Int)) (D Wd O m sg a dp x s' b' : Int) (w : World) (r : Tr) (e : Int) (HF : FoG G A cp sg a w x s' b' e) (he : e ≠ 0) (HR : Hid (r = (ndZ, m, e))) :
    Calls Tryd.prog 27 #[.slice A G.length cp, limV D Wd O, .agg #[.int .i64 m], .int .i64 sg, .int .i64 a, .int .i64 dp] w (TrV w r) := by
  have S := Sep.start w
  have t1 : (e != 0) = true := bne_iff_ne.2 he
  clear he
  go_enter Tryd.func27, Tryd.ntmps27
  go_wp2_with (first | go_skip | ((with_reducible refine wl ?_); first | refine sn S (fun g w1 S => ?_) | refine ss S (fun w1 S => ?_) | refine sl S ?_ | refine sa S ?_) | ((with_reducible refine (HF _ S.below).out.mono ?_); rintro r w' ⟨rfl, hb⟩; replace S := S.call hb))
  refine rs [0, 3] S (fun w1 S => ?_)
  refine pu 2 46 ?_
  refine lt 0 S ?_
  refine lt 1 S ?_
  refine ls 3 S (fun w2 S => ?_)
  refine ls 4 S (fun w2 S => ?_)
  refine pu 5 14 ?_
  refine dn ?_
  go_wp2
  have S1 := ((S.nil k37 37).nil (Kd.int .u8) 5).node (f0 := 0) (f1 := 0) (f2 := 0)
  have HR := HR.out
  subst HR
  exact rt S ⟨_, _, rfl, S1.out .here, S.below⟩
set_option maxRecDepth 100000 in
set_option maxHeartbeats 4000000 in
theorem val_2 (A : Option Addr) (cp : Nat) (G : List (List Int)) (D Wd O m sg a dp x s' b' : Int) (w : World) (r : Tr) (HF : FoG G A cp sg a w 0 s' b' 0) (HR : Hid (r = (ndZ, m, 0))) :
    Calls Tryd.prog 27 #[.slice A G.length cp, limV D Wd O, .agg #[.int .i64 m], .int .i64 sg, .int .i64 a, .int .i64 dp] w (TrV w r) := by
  have S := Sep.start w
  go_enter Tryd.func27, Tryd.ntmps27
  go_wp2_with (first | go_skip | ((with_reducible refine wl ?_); first | refine sn S (fun g w1 S => ?_) | refine ss S (fun w1 S => ?_) | refine sl S ?_ | refine sa S ?_) | ((with_reducible refine (HF _ S.below).out.mono ?_); rintro r w' ⟨rfl, hb⟩; replace S := S.call hb))
  refine rs [0, 3] S (fun w1 S => ?_)
  refine pu 2 46 ?_
  refine lt 0 S ?_
  refine lt 1 S ?_
  refine ls 3 S (fun w2 S => ?_)
  refine ls 4 S (fun w2 S => ?_)
  refine pu 5 14 ?_
  refine dn ?_
  go_wp2
  have S1 := ((S.nil k37 37).nil (Kd.int .u8) 5).node (f0 := 0) (f1 := 0) (f2 := 0)
  have HR := HR.out
  subst HR
  exact rt S ⟨_, _, rfl, S1.out .here, S.below⟩
set_option maxRecDepth 100000 in
set_option maxHeartbeats 4000000 in
theorem val_3 (A : Option Addr) (cp : Nat) (G : List (List Int)) (D Wd O m sg a dp x s' b' : Int) (w : World) (r : Tr) (HF : FoG G A cp sg a w x s' b' 0) (hx : x ≠ 0) (hd : D < dp) (HR : Hid (r = (ndZ, m, 7))) :
    Calls Tryd.prog 27 #[.slice A G.length cp, limV D Wd O, .agg #[.int .i64 m], .int .i64 sg, .int .i64 a, .int .i64 dp] w (TrV w r) := by
  have S := Sep.start w
  have tx : (x == 0) = false := beq_eq_false_iff_ne.2 hx
  clear hx
  have td : decide (D < dp) = true := decide_eq_true hd
  clear hd
  go_enter Tryd.func27, Tryd.ntmps27
  go_wp2_with (first | go_skip | ((with_reducible refine wl ?_); first | refine sn S (fun g w1 S => ?_) | refine ss S (fun w1 S => ?_) | refine sl S ?_ | refine sa S ?_) | ((with_reducible refine (HF _ S.below).out.mono ?_); rintro r w' ⟨rfl, hb⟩; replace S := S.call hb))
  refine rs [0, 3] S (fun w1 S => ?_)
  refine lt 0 S ?_
  refine lt 1 S ?_
  refine ls 2 S (fun w2 S => ?_)
  refine ls 3 S (fun w2 S => ?_)
  refine pu 4 14 ?_
  refine dn ?_
  go_wp2
  have S1 := ((S.nil k37 37).nil (Kd.int .u8) 5).node (f0 := 0) (f1 := 0) (f2 := 0)
  have HR := HR.out
  subst HR
  exact rt S ⟨_, _, rfl, S1.out .here, S.below⟩
set_option maxRecDepth 100000 in
set_option maxHeartbeats 4000000 in
theorem val_4 (A : Option Addr) (cp : Nat) (G : List (List Int)) (D Wd O m sg a dp x s' b' : Int) (w : World) (r : Tr) (o : Ob) (e : Int) (HF : FoG G A cp sg a w x s' b' 0) (hx : x ≠ 0) (hd : dp ≤ D) (HO : ObG G A cp sg a w o e) (he : e ≠ 0) (HR : Hid (r = (ndZ, m, e))) :
    Calls Tryd.prog 27 #[.slice A G.length cp, limV D Wd O, .agg #[.int .i64 m], .int .i64 sg, .int .i64 a, .int .i64 dp] w (TrV w r) := by
  have S := Sep.start w
  have tx : (x == 0) = false := beq_eq_false_iff_ne.2 hx
  clear hx
  have td : decide (D < dp) = false := decide_eq_false (by omega)
  clear hd
  have t1 : (e != 0) = true := bne_iff_ne.2 he
  clear he
  go_enter Tryd.func27, Tryd.ntmps27
  go_wp2_with (first | go_skip | ((with_reducible refine wl ?_); first | refine sn S (fun g w1 S => ?_) | refine ss S (fun w1 S => ?_) | refine sl S ?_ | refine sa S ?_) | ((with_reducible refine (HF _ S.below).out.mono ?_); rintro r w' ⟨rfl, hb⟩; replace S := S.call hb) | ((with_reducible refine (HO _ S.below).out.mono ?_); rintro r w' ⟨rfl, hb⟩; replace S := S.call hb))
  refine rs [1, 4] S (fun w1 S => ?_)
  refine pu 2 64 ?_
  refine lt 0 S ?_
  refine lt 1 S ?_
  refine ls 3 S (fun w2 S => ?_)
  refine ls 4 S (fun w2 S => ?_)
  refine pu 5 14 ?_
  refine dn ?_
  go_wp2
  have S1 := ((S.nil k37 37).nil (Kd.int .u8) 5).node (f0 := 0) (f1 := 0) (f2 := 0)
  have HR := HR.out
  subst HR
  exact rt S ⟨_, _, rfl, S1.out .here, S.below⟩
set_option maxRecDepth 100000 in
set_option maxHeartbeats 4000000 in
theorem val_5 (A : Option Addr) (cp : Nat) (G : List (List Int)) (D Wd O m sg a dp x s' b' : Int) (w : World) (r : Tr) (o : Ob) (HF : FoG G A cp sg a w x s' b' 0) (hx : x ≠ 0) (hd : dp ≤ D) (HO : ObG G A cp sg a w o 0) (hc : m < o.c) (HR : Hid (r = (ndZ, m, 8))) :
    Calls Tryd.prog 27 #[.slice A G.length cp, limV D Wd O, .agg #[.int .i64 m], .int .i64 sg, .int .i64 a, .int .i64 dp] w (TrV w r) := by
  have S := Sep.start w
  have tx : (x == 0) = false := beq_eq_false_iff_ne.2 hx
  clear hx
  have td : decide (D < dp) = false := decide_eq_false (by omega)
  clear hd
  obtain ⟨kd, osg, ad, d, p, e, n, c⟩ := o
  dsimp only at hc
  have HC := fun w => Lib.hid (rcharge_no m c w hc)
  clear hc
  go_enter Tryd.func27, Tryd.ntmps27
  go_wp2_with (first | go_skip | ((with_reducible refine wl ?_); first | refine sn S (fun g w1 S => ?_) | refine ss S (fun w1 S => ?_) | refine sl S ?_ | refine sa S ?_) | ((with_reducible refine (HF _ S.below).out.mono ?_); rintro r w' ⟨rfl, hb⟩; replace S := S.call hb) | ((with_reducible refine (HO _ S.below).out.mono ?_); rintro r w' ⟨rfl, hb⟩; replace S := S.call hb) | ((with_reducible refine (HC _).out.mono ?_); rintro r w' ⟨rfl, hb⟩; replace S := S.call hb))
  refine rs [2, 5] S (fun w1 S => ?_)
  refine pu 2 76 ?_
  refine lt 0 S ?_
  refine lt 1 S ?_
  refine ls 3 S (fun w2 S => ?_)
  refine ls 4 S (fun w2 S => ?_)
  refine pu 5 14 ?_
  refine dn ?_
  go_wp2
  have S1 := ((S.nil k37 37).nil (Kd.int .u8) 5).node (f0 := 0) (f1 := 0) (f2 := 0)
  have HR := HR.out
  subst HR
  exact rt S ⟨_, _, rfl, S1.out .here, S.below⟩
set_option maxRecDepth 100000 in
set_option maxHeartbeats 4000000 in
theorem val_6 (A : Option Addr) (cp : Nat) (G : List (List Int)) (D Wd O m sg a dp x s' b' : Int) (w : World) (r : Tr) (o : Ob) (HF : FoG G A cp sg a w x s' b' 0) (hx : x ≠ 0) (hd : dp ≤ D) (HO : ObG G A cp sg a w o 0) (hc0 : 0 ≤ o.c) (hc : o.c ≤ m) (hm : m ≤ 4611686018427387904) (hk : o.kd = 1) (HS : ∀ w', Below w.heap.size w w' → Hid (Calls Tryd.prog 53 #[.slice A G.length cp, limV D Wd O, .agg #[.int .i64 (m - o.c)], obV o, .int .i64 dp] w' (TrV w' r))) :
    Calls Tryd.prog 27 #[.slice A G.length cp, limV D Wd O, .agg #[.int .i64 m], .int .i64 sg, .int .i64 a, .int .i64 dp] w (TrV w r) := by
  have S := Sep.start w
  have tx : (x == 0) = false := beq_eq_false_iff_ne.2 hx
  clear hx
  have td : decide (D < dp) = false := decide_eq_false (by omega)
  clear hd
  obtain ⟨kd, osg, ad, d, p, e, n, c⟩ := o
  dsimp only at hc hc0 hk HS
  subst hk
  have HC := fun w => Lib.hid (rcharge_yes m c w hc hc0 hm)
  obtain ⟨⟨f0, f1, f2, f3, f4⟩, m', e'⟩ := r
  go_enter Tryd.func27, Tryd.ntmps27
  go_wp2_with (first | go_skip | ((with_reducible refine wl ?_); first | refine sn S (fun g w1 S => ?_) | refine ss S (fun w1 S => ?_) | refine sl S ?_ | refine sa S ?_) | ((with_reducible refine (HF _ S.below).out.mono ?_); rintro r w' ⟨rfl, hb⟩; replace S := S.call hb) | ((with_reducible refine (HO _ S.below).out.mono ?_); rintro r w' ⟨rfl, hb⟩; replace S := S.call hb) | ((with_reducible refine (HC _).out.mono ?_); rintro r w' ⟨rfl, hb⟩; replace S := S.call hb) | ((with_reducible refine (HS _ S.below).out.mono ?_); rintro r' w' hT; obtain ⟨B3, d3, B4, d4, rfl, hM, hb⟩ := TrV.openV hT; replace S := S.push (a := .made k37 _ _) hb hM; dsimp only at S))
  exact rt S ⟨_, _, rfl, S.out .here, S.below⟩
set_option maxRecDepth 100000 in
set_option maxHeartbeats 4000000 in
theorem val_7 (A : Option Addr) (cp : Nat) (G : List (List Int)) (D Wd O m sg a dp x s' b' : Int) (w : World) (r : Tr) (o : Ob) (ws : List Int) (HF : FoG G A cp sg a w x s' b' 0) (hx : x ≠ 0) (hd : dp ≤ D) (HO : ObG G A cp sg a w o 0) (hc0 : 0 ≤ o.c) (hc : o.c ≤ m) (hm : m ≤ 4611686018427387904) (hk : o.kd = 2) (he : o.e < 6) (hn0 : 0 ≤ o.n) (hn1 : o.n ≤ 536870911) (HSl : ∀ w', Below w.heap.size w w' → Hid (Calls Tryd.prog 54 #[.slice A G.length cp, .int .i64 o.sg, .int .i64 o.ad, .int .i64 o.c] w' fun e w1 => ∃ v, e = .returned (.tuple #[v, .bool true]) ∧ Kd.R (Kd.int .u64) 32 w1 w'.heap.size (fun _ => True) v ws ∧ Below w'.heap.size w' w1)) (hl : ws.length ≤ 17592186040320) (hw : ∀ x ∈ ws, 0 ≤ x ∧ x < 18446744073709551616) (hb8 : (bytesE o.e o.n).toNat ≤ (bytesL ws).length) (HR : Hid (r = (⟨2, o.e, o.n, trimE o.e o.n (bytesL ws), []⟩, m - o.c, 0))) :
    Calls Tryd.prog 27 #[.slice A G.length cp, limV D Wd O, .agg #[.int .i64 m], .int .i64 sg, .int .i64 a, .int .i64 dp] w (TrV w r) := by
  have S := Sep.start w
  have tx : (x == 0) = false := beq_eq_false_iff_ne.2 hx
  clear hx
  have td : decide (D < dp) = false := decide_eq_false (by omega)
  clear hd
  obtain ⟨kd, osg, ad, d, p, e, n, c⟩ := o
  dsimp only at hc hc0 hk hn0 hn1 he HSl hb8 HR
  have HBY := fun A' c' w' hr => Lib.hid (rbytes_any A' c' ws w' hr hl hw)
  have HTR := fun A' c' w' hr => Lib.hid (rtrim_any e n A' c' (bytesL ws) w' hr (bytesL_bd ws) hn0 hn1 hb8)
  clear hw hl hb8
  subst hk
  have HC := fun w => Lib.hid (rcharge_yes m c w hc hc0 hm)
  have te : decide (e < 6) = true := decide_eq_true he
  clear he
  go_enter Tryd.func27, Tryd.ntmps27
  go_wp2_with (first | go_skip | ((with_reducible refine wl ?_); first | refine sn S (fun g w1 S => ?_) | refine ss S (fun w1 S => ?_) | refine sl S ?_ | refine sa S ?_) | ((with_reducible refine (HF _ S.below).out.mono ?_); rintro r w' ⟨rfl, hb⟩; replace S := S.call hb) | ((with_reducible refine (HO _ S.below).out.mono ?_); rintro r w' ⟨rfl, hb⟩; replace S := S.call hb) | ((with_reducible refine (HC _).out.mono ?_); rintro r w' ⟨rfl, hb⟩; replace S := S.call hb) | ((with_reducible refine (HSl _ S.below).out.mono ?_); rintro r' w' ⟨vs, rfl, hR, hb⟩; obtain ⟨A', c', rfl⟩ := Kd.R_slice hR; replace S := S.push (a := .row (Kd.int .u64) 32 _ ws) hb hR))
  refine rs [2] S (fun w1 S => ?_)
  refine pu 0 110 ?_
  refine lt 1 S ?_
  refine pu 2 112 ?_
  refine lt 3 S ?_
  refine pu 4 114 ?_
  have hC := R_C (S.outR .here)
  refine lc 5 115 Tryd.func38 (HBY _ _ _ hC).out (fun r' w2 hT => ?_)
  obtain ⟨v, rfl, hR2, hb2⟩ := hT
  obtain ⟨A2, c2, rfl, hle2, hC2⟩ := Kd.R_reads hR2
  replace S := S.call hb2
  refine ⟨_, rfl, S.kpq 0, _, rfl, ?_⟩
  simp only [Act.put, List.setIfInBounds_toArray, List.set_cons_zero, List.set_cons_succ]
  refine lc 6 116 Tryd.func39 (HTR _ _ _ hC2).out (fun r' w3 hT => ?_)
  obtain ⟨v, rfl, hR3, hb3⟩ := hT
  obtain ⟨A4, c4, rfl⟩ := Kd.R_slice hR3
  replace S := S.push (a := .row (Kd.int .u8) 5 _ _) hb3 hR3
  refine ⟨_, rfl, S.kpq 1, _, rfl, ?_⟩
  simp only [Act.put, List.setIfInBounds_toArray, List.set_cons_zero, List.set_cons_succ]
  refine pu 7 117 ?_
  refine lsd 8 1 S (fun w4 S => ?_)
  refine dn ?_
  go_wp2
  refine rs [4, 2] S (fun w1 S => ?_)
  refine lt 0 S ?_
  refine lt 1 S ?_
  refine ls 2 S (fun w2 S => ?_)
  refine ls 3 S (fun w2 S => ?_)
  refine pu 4 14 ?_
  refine dn ?_
  go_wp2
  have S1 := (S.nil k37 37).swap.node (f0 := 2) (f1 := e) (f2 := n)
  have HR := HR.out
  subst HR
  exact rt S ⟨_, _, rfl, S1.out .here, S.below⟩
end Go.Proofs.YtidglmocekghmaaDoor.Pr
end
section
namespace Go.Proofs.YtidglmocekghmaaDoor.Pr
open Go.RowKit Go.Proofs.YtidglmocekghmaaDoorW.PrintWords Go.Proofs.YtidglmocekghmaaDoorW.PrintLast Go.Proofs.YtidglmocekghmaaDoorW.PrintMore
set_option linter.unusedVariables false
set_option linter.unusedSimpArgs false
set_option maxRecDepth 100000 in
set_option maxHeartbeats 8000000 in
theorem val_8 (A : Option Addr) (cp : Nat) (G : List (List Int)) (D Wd O m sg a dp x s' b' : Int) (w : World) (r : Tr) (o : Ob) (v : Int → Int → Tr) (HF : FoG G A cp sg a w x s' b' 0) (hx : x ≠ 0) (hd : dp ≤ D) (HO : ObG G A cp sg a w o 0) (hc0 : 0 ≤ o.c) (hc : o.c ≤ m) (hm : m ≤ 4611686018427387904) (hk : o.kd = 2) (hn0 : 0 ≤ o.n) (hn1 : o.n ≤ 536870911) (hdp : 0 ≤ dp) (hD : D ≤ 4611686018427387904) (he : o.e = 6) (ha0 : 0 ≤ o.ad) (ha1 : o.ad ≤ 17592186040320) (HN : Hid (Sinks v)) (HV : ∀ j : Nat, (j : Int) < o.n → ∀ mi, 0 ≤ mi → mi ≤ m - o.c → ∀ w', Below w.heap.size w w' → Hid (Calls Tryd.prog 27 #[.slice A G.length cp, limV D Wd O, .agg #[.int .i64 mi], .int .i64 o.sg, .int .i64 (o.ad + j), .int .i64 (dp + 1)] w' (TrV w' (v (o.ad + j) mi)))) (HR : Hid (r = if (kidsR v o.n.toNat o.ad (m - o.c)).2.2 ≠ 0 then (ndZ, (kidsR v o.n.toNat o.ad (m - o.c)).2) else (⟨2, o.e, o.n, [], (kidsR v o.n.toNat o.ad (m - o.c)).1⟩, (kidsR v o.n.toNat o.ad (m - o.c)).2.1, 0))) :
    Calls Tryd.prog 27 #[.slice A G.length cp, limV D Wd O, .agg #[.int .i64 m], .int .i64 sg, .int .i64 a, .int .i64 dp] w (TrV w r) := by
  have S := Sep.start w
  have tx : (x == 0) = false := beq_eq_false_iff_ne.2 hx
  clear hx
  have td : decide (D < dp) = false := decide_eq_false (by omega)
  obtain ⟨kd, osg, ad, d, p, e, n, c⟩ := o
  dsimp only at hc hc0 hk hn0 hn1 he HV HR ha0 ha1
  have te : decide (e < 6) = false := decide_eq_false (by omega)
  have te6 : (e == 6) = true := beq_iff_eq.2 he
  clear he
  have tk : (kd == 1) = false := beq_eq_false_iff_ne.2 (by omega)
  clear hk
  have HC := fun w => Lib.hid (rcharge_yes m c w hc hc0 hm)
  obtain ⟨n, rfl⟩ := Int.eq_ofNat_of_zero_le hn0
  rw [Int.toNat_natCast] at HR
  obtain ⟨m2, hm2⟩ : ∃ m2, m - c = m2 := ⟨_, rfl⟩
  have hm0 : 0 ≤ m2 := by omega
  have hm1 : m2 ≤ 4611686018427387904 := by omega
  rw [hm2] at HR HC HV
  clear hm2 hc hc0
  have HR0 := Lib.hid (Rnd.start v n ad m2 hm0)
  go_enter Tryd.func27, Tryd.ntmps27
  go_wp2_with (first | go_skip | ((with_reducible refine wl ?_); first | (refine sn S (fun g w1 S => ?_); first | ((fail_if_success (have := g7)); revert g; intro g7 S) | ((fail_if_success (have := g8)); revert g; intro g8 S) | ((fail_if_success (have := g12)); revert g; intro g12 S) | ((fail_if_success (have := g13)); revert g; intro g13 S) | ((fail_if_success (have := g15)); revert g; intro g15 S) | ((fail_if_success (have := g20)); revert g; intro g20 S) | ((fail_if_success (have := g22)); revert g; intro g22 S)) | refine ss S (fun w1 S => ?_) | refine sl S ?_ | refine sa S ?_) | ((with_reducible refine (HF _ S.below).out.mono ?_); rintro r w' ⟨rfl, hb⟩; replace S := S.call hb) | ((with_reducible refine (HO _ S.below).out.mono ?_); rintro r w' ⟨rfl, hb⟩; replace S := S.call hb) | ((with_reducible refine (HC _).out.mono ?_); rintro r w' ⟨rfl, hb⟩; replace S := S.call hb))
  have S := Lib.hid (S.nil k37 37)
  simp only [List.getElem_toArray, List.getElem_cons_zero, List.getElem_cons_succ]
  go_loopw [26] (fun k wr => ∃ (j : Nat) (ks : List S37) (mi : Int) (Ak : Option Addr) (ck : Nat), Rnd v n ad m2 j ks mi ∧ k = .int .i64 j ∧ Hid (Sep w wr [.row k37 37 (.slice Ak ks.length ck) ks, .box g22 #[.int .i64 mi] 52, .box g20 #[.int .i64 kd, .int .i64 osg, .int .i64 ad, .int .i64 d, .int .i64 p, .int .i64 e, .int .i64 n, .int .i64 c] 75, .box g15 #[.int .i64 2, .int .i64 e, .int .i64 n, .slice none 0 0, .slice Ak ks.length ck] 37, .box g13 #[.int .i64 0] 52, .box g12 #[.int .i64 0, .int .i64 0, .int .i64 0, .slice none 0 0, .slice none 0 0] 37, .box g8 #[.int .i64 m] 52, .box g7 #[.int .i64 D, .int .i64 Wd, .int .i64 O] 24])) (fun k _ => n - (intOf k).toNat)
  case atStart => exact ⟨0, [], m2, none, 0, HR0.out, rfl, S⟩
  case round =>
    clear S
    obtain ⟨j, ks, mi, Ak, ck, hr, rfl, S⟩ := hrel
    by_cases hj : j < n
    · have HVj := HV j (by omega) mi hr.lo hr.hi
      have e1 := hr.fail hj
      have e2 := hr.next HN.out hj
      generalize v (ad + j) mi = q at *
      obtain ⟨⟨f0, f1, f2, f3, f4⟩, m', e'⟩ := q
      dsimp only at e1 e2
      by_cases he : e' ≠ 0
      · have HR := Lib.hid (HR.out.trans (by rw [e1 he, if_pos he]))
        have t1 : (e' != 0) = true := bne_iff_ne.2 he
        clear e1 e2 he HR0
        have S := S.out
        go_wp2_with (first | go_skip | ((with_reducible refine wl ?_); first | refine sn S (fun g w1 S => ?_) | refine ss S (fun w1 S => ?_) | refine sl S ?_ | refine sa S ?_) | ((with_reducible refine (HVj _ S.below).out.mono ?_); rintro r' w' hT; obtain ⟨B3, d3, B4, d4, rfl, hM, hb⟩ := TrV.openV hT; replace S := S.push (a := .made k37 _ _) hb hM; dsimp only at S))
        refine rs [3] S (fun w1 S => ?_)
        refine pu 0 159 ?_
        refine lt 1 S ?_
        refine pu 2 161 ?_
        refine ls 3 S (fun w2 S => ?_)
        refine ls 4 S (fun w2 S => ?_)
        refine pu 5 14 ?_
        refine dn ?_
        go_wp2
        have S1 := ((S.nil k37 37).nil (Kd.int .u8) 5).node (f0 := 0) (f1 := 0) (f2 := 0)
        have HR := HR.out
        subst HR
        exact rt S ⟨_, _, rfl, S1.out .here, S.below⟩
      · obtain rfl : e' = 0 := by omega
        have hr2 := Lib.hid (e2 rfl)
        clear e1 e2 he
        have S := S.out
        have HLL : Hid ((ks.length + 1) * 72 ≤ 140737488355328) := Lib.hid (by have := hr.len; omega)
        go_wp2_with (first | go_skip | ((with_reducible refine wl ?_); first | refine sn S (fun g w1 S => ?_) | refine ss S (fun w1 S => ?_) | refine sl S ?_ | refine sa S ?_) | ((with_reducible refine (HVj _ S.below).out.mono ?_); rintro r' w' hT; obtain ⟨B3, d3, B4, d4, rfl, hM, hb⟩ := TrV.openV hT; replace S := S.push (a := .made k37 _ _) hb hM; dsimp only at S) | (at_builtin; refine sp_append S.swap.tail.swap rfl rfl Tryd.underlying35 info37 rfl (by decide) (by omega) rfl rfl HLL.out (fun v1 w1 S => ?_); obtain ⟨Ak, ck, rfl⟩ := Kd.R_slice (S.outR .here)))
        go_roundw
        case rel => exact ⟨j + 1, _, m', Ak, ck, hr2.out, by go_num, Lib.hid (by simp only [List.length_append, List.length_singleton] at S ⊢; exact S)⟩
        case measure => simp [intOf]; omega
    · obtain rfl : j = n := by have := hr.le; omega
      have HR := Lib.hid (HR.out.trans (by rw [hr.stop rfl, if_neg (by simp)]))
      dsimp only at HR
      have S := S.out
      go_wp2_with (first | go_skip | ((with_reducible refine wl ?_); first | refine sn S (fun g w1 S => ?_) | refine ss S (fun w1 S => ?_) | refine sl S ?_ | refine sa S ?_))
      refine rs [3, 1] S (fun w1 S => ?_)
      refine lt 0 S ?_
      refine lt 1 S ?_
      refine ls 2 S (fun w2 S => ?_)
      refine ls 3 S (fun w2 S => ?_)
      refine pu 4 14 ?_
      refine dn ?_
      go_wp2
      have S1 := (S.nil (Kd.int .u8) 5).node (f0 := 2) (f1 := e) (f2 := j)
      have HR := HR.out
      subst HR
      exact rt S ⟨_, _, rfl, S1.out .here, S.below⟩
set_option maxRecDepth 100000 in
set_option maxHeartbeats 8000000 in
theorem val_9 (A : Option Addr) (cp : Nat) (G : List (List Int)) (D Wd O m sg a dp x s' b' : Int) (w : World) (r : Tr) (o : Ob) (v : Int → Int → Tr) (HF : FoG G A cp sg a w x s' b' 0) (hx : x ≠ 0) (hd : dp ≤ D) (HO : ObG G A cp sg a w o 0) (hc0 : 0 ≤ o.c) (hc : o.c ≤ m) (hm : m ≤ 4611686018427387904) (hk : o.kd = 2) (hn0 : 0 ≤ o.n) (hn1 : o.n ≤ 536870911) (hdp : 0 ≤ dp) (hD : D ≤ 4611686018427387904) (he : o.e = 7) (HN : Hid (Sinks v)) (HE : ∀ j : Nat, (j : Int) < o.n → ∀ w', Hid (Calls Tryd.prog 41 #[obV o, .int .i64 j] w' fun e w1 => e = .returned (obV (elG o j)) ∧ Below w'.heap.size w' w1)) (HV : ∀ j : Nat, (j : Int) < o.n → ∀ mi, 0 ≤ mi → mi ≤ m - o.c → ∀ w', Below w.heap.size w w' → Hid (Calls Tryd.prog 53 #[.slice A G.length cp, limV D Wd O, .agg #[.int .i64 mi], obV (elG o j), .int .i64 dp] w' (TrV w' (v (0 + j) mi)))) (HR : Hid (r = if (kidsR v o.n.toNat 0 (m - o.c)).2.2 ≠ 0 then (ndZ, (kidsR v o.n.toNat 0 (m - o.c)).2) else (⟨2, o.e, o.n, [], (kidsR v o.n.toNat 0 (m - o.c)).1⟩, (kidsR v o.n.toNat 0 (m - o.c)).2.1, 0))) :
    Calls Tryd.prog 27 #[.slice A G.length cp, limV D Wd O, .agg #[.int .i64 m], .int .i64 sg, .int .i64 a, .int .i64 dp] w (TrV w r) := by
  have S := Sep.start w
  have tx : (x == 0) = false := beq_eq_false_iff_ne.2 hx
  clear hx
  have td : decide (D < dp) = false := decide_eq_false (by omega)
  obtain ⟨kd, osg, ad, d, p, e, n, c⟩ := o
  dsimp only at hc hc0 hk hn0 hn1 he HV HR HE
  have te : decide (e < 6) = false := decide_eq_false (by omega)
  have te6 : (e == 6) = false := beq_eq_false_iff_ne.2 (by omega)
  clear he
  have tk : (kd == 1) = false := beq_eq_false_iff_ne.2 (by omega)
  clear hk
  have HC := fun w => Lib.hid (rcharge_yes m c w hc hc0 hm)
  obtain ⟨n, rfl⟩ := Int.eq_ofNat_of_zero_le hn0
  rw [Int.toNat_natCast] at HR
  obtain ⟨m2, hm2⟩ : ∃ m2, m - c = m2 := ⟨_, rfl⟩
  have hm0 : 0 ≤ m2 := by omega
  have hm1 : m2 ≤ 4611686018427387904 := by omega
  rw [hm2] at HR HC HV
  clear hm2 hc hc0
  have HR0 := Lib.hid (Rnd.start v n 0 m2 hm0)
  go_enter Tryd.func27, Tryd.ntmps27
  go_wp2_with (first | go_skip | ((with_reducible refine wl ?_); first | (refine sn S (fun g w1 S => ?_); first | ((fail_if_success (have := g7)); revert g; intro g7 S) | ((fail_if_success (have := g8)); revert g; intro g8 S) | ((fail_if_success (have := g12)); revert g; intro g12 S) | ((fail_if_success (have := g13)); revert g; intro g13 S) | ((fail_if_success (have := g15)); revert g; intro g15 S) | ((fail_if_success (have := g20)); revert g; intro g20 S) | ((fail_if_success (have := g22)); revert g; intro g22 S)) | refine ss S (fun w1 S => ?_) | refine sl S ?_ | refine sa S ?_) | ((with_reducible refine (HF _ S.below).out.mono ?_); rintro r w' ⟨rfl, hb⟩; replace S := S.call hb) | ((with_reducible refine (HO _ S.below).out.mono ?_); rintro r w' ⟨rfl, hb⟩; replace S := S.call hb) | ((with_reducible refine (HC _).out.mono ?_); rintro r w' ⟨rfl, hb⟩; replace S := S.call hb))
  have S := Lib.hid (S.nil k37 37)
  simp only [List.getElem_toArray, List.getElem_cons_zero, List.getElem_cons_succ]
  go_loopw [26] (fun k wr => ∃ (j : Nat) (ks : List S37) (mi : Int) (Ak : Option Addr) (ck : Nat), Rnd v n 0 m2 j ks mi ∧ k = .int .i64 j ∧ Hid (Sep w wr [.row k37 37 (.slice Ak ks.length ck) ks, .box g22 #[.int .i64 mi] 52, .box g20 #[.int .i64 kd, .int .i64 osg, .int .i64 ad, .int .i64 d, .int .i64 p, .int .i64 e, .int .i64 n, .int .i64 c] 75, .box g15 #[.int .i64 2, .int .i64 e, .int .i64 n, .slice none 0 0, .slice Ak ks.length ck] 37, .box g13 #[.int .i64 0] 52, .box g12 #[.int .i64 0, .int .i64 0, .int .i64 0, .slice none 0 0, .slice none 0 0] 37, .box g8 #[.int .i64 m] 52, .box g7 #[.int .i64 D, .int .i64 Wd, .int .i64 O] 24])) (fun k _ => n - (intOf k).toNat)
  case atStart => exact ⟨0, [], m2, none, 0, HR0.out, rfl, S⟩
  case round =>
    clear S
    obtain ⟨j, ks, mi, Ak, ck, hr, rfl, S⟩ := hrel
    by_cases hj : j < n
    · have HVj := HV j (by omega) mi hr.lo hr.hi
      have e1 := hr.fail hj
      have e2 := hr.next HN.out hj
      generalize v (0 + j) mi = q at *
      obtain ⟨⟨f0, f1, f2, f3, f4⟩, m', e'⟩ := q
      dsimp only at e1 e2
      by_cases he : e' ≠ 0
      · have HR := Lib.hid (HR.out.trans (by rw [e1 he, if_pos he]))
        have t1 : (e' != 0) = true := bne_iff_ne.2 he
        clear e1 e2 he HR0
        have S := S.out
        go_wp2_with (first | go_skip | ((with_reducible refine wl ?_); first | refine sn S (fun g w1 S => ?_) | refine ss S (fun w1 S => ?_) | refine sl S ?_ | refine sa S ?_))
        refine rsd [2, 3, 8] [13] S (fun w1 S => ?_)
        refine pu 0 146 ?_
        refine ltd 1 S ?_
        refine ltd 2 S ?_
        refine ltd 3 S ?_
        refine pu 4 150 ?_
        refine pu 6 152 ?_
        refine lcd 5 151 Tryd.func41 (HE j (by omega) _).out (fun r' w2 hT => ?_)
        obtain ⟨rfl, hb2⟩ := hT
        replace S := S.call hb2
        refine ⟨_, rfl, S.kpq 0, _, rfl, ?_⟩
        simp only [Act.put, List.setIfInBounds_toArray, List.set_cons_zero, List.set_cons_succ]
        refine lcd 7 153 Tryd.func53 (HVj _ S.below).out (fun r' w3 hT => ?_)
        obtain ⟨B3, d3, B4, d4, rfl, hM, hb3⟩ := TrV.openV hT
        replace S := S.push (a := .made k37 _ _) hb3 hM
        dsimp only at S
        refine ⟨_, rfl, S.kpq 1, _, rfl, ?_⟩
        simp only [Act.put, List.setIfInBounds_toArray, List.set_cons_zero, List.set_cons_succ]
        refine pu 8 145 ?_
        refine pu 9 154 ?_
        refine pu 10 155 ?_
        refine pu 11 156 ?_
        refine lse 12 1 S (fun w4 S => ?_)
        refine lsl 13 S (fun w5 S => ?_)
        refine pu 14 28 ?_
        refine dn ?_
        go_wp2_with (first | go_skip | ((with_reducible refine wl ?_); first | refine sn S (fun g w1 S => ?_) | refine ss S (fun w1 S => ?_) | refine sl S ?_ | refine sa S ?_))
        refine rs [3] S (fun w1 S => ?_)
        refine pu 0 159 ?_
        refine lt 1 S ?_
        refine pu 2 161 ?_
        refine ls 3 S (fun w2 S => ?_)
        refine ls 4 S (fun w2 S => ?_)
        refine pu 5 14 ?_
        refine dn ?_
        go_wp2
        have S1 := ((S.nil k37 37).nil (Kd.int .u8) 5).node (f0 := 0) (f1 := 0) (f2 := 0)
        have HR := HR.out
        subst HR
        exact rt S ⟨_, _, rfl, S1.out .here, S.below⟩
      · obtain rfl : e' = 0 := by omega
        have hr2 := Lib.hid (e2 rfl)
        clear e1 e2 he
        have S := S.out
        have HLL : Hid ((ks.length + 1) * 72 ≤ 140737488355328) := Lib.hid (by have := hr.len; omega)
        go_wp2_with (first | go_skip | ((with_reducible refine wl ?_); first | refine sn S (fun g w1 S => ?_) | refine ss S (fun w1 S => ?_) | refine sl S ?_ | refine sa S ?_))
        refine rsd [2, 3, 8] [13] S (fun w1 S => ?_)
        refine pu 0 146 ?_
        refine ltd 1 S ?_
        refine ltd 2 S ?_
        refine ltd 3 S ?_
        refine pu 4 150 ?_
        refine pu 6 152 ?_
        refine lcd 5 151 Tryd.func41 (HE j (by omega) _).out (fun r' w2 hT => ?_)
        obtain ⟨rfl, hb2⟩ := hT
        replace S := S.call hb2
        refine ⟨_, rfl, S.kpq 0, _, rfl, ?_⟩
        simp only [Act.put, List.setIfInBounds_toArray, List.set_cons_zero, List.set_cons_succ]
        refine lcd 7 153 Tryd.func53 (HVj _ S.below).out (fun r' w3 hT => ?_)
        obtain ⟨B3, d3, B4, d4, rfl, hM, hb3⟩ := TrV.openV hT
        replace S := S.push (a := .made k37 _ _) hb3 hM
        dsimp only at S
        refine ⟨_, rfl, S.kpq 1, _, rfl, ?_⟩
        simp only [Act.put, List.setIfInBounds_toArray, List.set_cons_zero, List.set_cons_succ]
        refine pu 8 145 ?_
        refine pu 9 154 ?_
        refine pu 10 155 ?_
        refine pu 11 156 ?_
        refine lse 12 1 S (fun w4 S => ?_)
        refine lsl 13 S (fun w5 S => ?_)
        refine pu 14 28 ?_
        refine dn ?_
        go_wp2_with (first | go_skip | ((with_reducible refine wl ?_); first | refine sn S (fun g w1 S => ?_) | refine ss S (fun w1 S => ?_) | refine sl S ?_ | refine sa S ?_) | (at_builtin; refine sp_append S.swap.tail.swap rfl rfl Tryd.underlying35 info37 rfl (by decide) (by omega) rfl rfl HLL.out (fun v1 w1 S => ?_); obtain ⟨Ak, ck, rfl⟩ := Kd.R_slice (S.outR .here)))
        go_roundw
        case rel => exact ⟨j + 1, _, m', Ak, ck, hr2.out, by go_num, Lib.hid (by simp only [List.length_append, List.length_singleton] at S ⊢; exact S)⟩
        case measure => simp [intOf]; omega
    · obtain rfl : j = n := by have := hr.le; omega
      have HR := Lib.hid (HR.out.trans (by rw [hr.stop rfl, if_neg (by simp)]))
      dsimp only at HR
      have S := S.out
      go_wp2_with (first | go_skip | ((with_reducible refine wl ?_); first | refine sn S (fun g w1 S => ?_) | refine ss S (fun w1 S => ?_) | refine sl S ?_ | refine sa S ?_))
      refine rs [3, 1] S (fun w1 S => ?_)
      refine lt 0 S ?_
      refine lt 1 S ?_
      refine ls 2 S (fun w2 S => ?_)
      refine ls 3 S (fun w2 S => ?_)
      refine pu 4 14 ?_
      refine dn ?_
      go_wp2
      have S1 := (S.nil (Kd.int .u8) 5).node (f0 := 2) (f1 := e) (f2 := j)
      have HR := HR.out
      subst HR
      exact rt S ⟨_, _, rfl, S1.out .here, S.below⟩
end Go.Proofs.YtidglmocekghmaaDoor.Pr
end
section
namespace Go.Proofs.YtidglmocekghmaaDoor.Pr
open Go.RowKit Go.Proofs.YtidglmocekghmaaDoorW.PrintWords Go.Proofs.YtidglmocekghmaaDoorW.PrintLast Go.Proofs.YtidglmocekghmaaDoorW.PrintMore
set_option linter.unusedVariables false
set_option linter.unusedSimpArgs false
theorem bytes_fit {G : List (List Int)} {s a e n : Int} (h : inG G s a (wordsE e n) = true) (he : e < 6) (n0 : 0 ≤ n) : (bytesE e n).toNat ≤ (bytesL (cutG G s a (wordsE e n))).length := by
 unfold inG at h
 rw [decide_eq_true_eq] at h
 rw [bytesL_length]
 unfold cutG
 rw [List.length_take, List.length_drop]
 have hw : wordsE e n = (bitsE e * n + 63) / 64 := by unfold wordsE; rw [if_neg (by omega)]
 have hb := (bitsE_bd e).1
 have hn := Int.mul_nonneg hb n0
 unfold bytesE
 rw [hw] at h ⊢
 clear hw
 generalize bitsE e * n = b at *
 omega
theorem val_walk (f : Nat) (hf : ∀ f', f = f' + 1 → ValC f' ∧ StrC f') : ValC f := by
 intro A cp G D Wd O m sg a dp w hE a0 a1 s1 m0 m1 D1 dp0 hdp
 have hlen : ∀ x ∈ G, x.length ≤ 4611686018427387904 := fun x hx => Nat.le_trans (hE.sgs x hx) (by omega)
 have HF : FoG G A cp sg a w (folM G sg a).1 (folM G sg a).2.1 (folM G sg a).2.2.1 (folM G sg a).2.2.2 := fun w' hb => Lib.hid (fol_any A cp G sg a w' (Kd.C_below hE.rd hb) hE.len hlen hE.ok (by omega) (by omega))
 by_cases he : (folM G sg a).2.2.2 ≠ 0
 ·exact val_1 A cp G D Wd O m sg a dp _ _ _ w _ _ HF he (Lib.hid (by cases f <;> rw [valR, if_pos he]))
 have he0 : (folM G sg a).2.2.2 = 0 := by omega
 rw [he0] at HF
 by_cases hx : (folM G sg a).1 = 0
 ·rw [hx] at HF
  exact val_2 A cp G D Wd O m sg a dp 0 _ _ w _ HF (Lib.hid (by cases f <;> rw [valR, if_neg he, if_pos hx]))
 cases f with
 | zero => exact val_3 A cp G D Wd O m sg a dp _ _ _ w _ HF hx (by omega) (Lib.hid (by rw [valR, if_neg he, if_neg hx]))
 | succ f =>
  obtain ⟨hv, hs⟩ := hf f rfl
  have hd : dp + f = D := by omega
  have hV : valR G (f + 1) sg a m = if (objG G sg a).2 ≠ 0 then (ndZ, m, (objG G sg a).2) else if m < (objG G sg a).1.c then (ndZ, m, 8) else bodR G (valR G f) (objG G sg a).1 (m - (objG G sg a).1.c) := by rw [valR, if_neg he, if_neg hx]
  have HO : ObG G A cp sg a w (objG G sg a).1 (objG G sg a).2 := fun w' hb => Lib.hid (objG_any A cp G sg a w' (Kd.C_below hE.rd hb) hE.len hlen hE.ok a0 a1 s1)
  by_cases ho : (objG G sg a).2 ≠ 0
  ·exact val_4 A cp G D Wd O m sg a dp _ _ _ w _ _ _ HF hx (by omega) HO ho (Lib.hid (by rw [hV, if_pos ho]))
  have ho0 : (objG G sg a).2 = 0 := by omega
  have hK := obj_ok G sg a ho0 he0 hx
  rw [if_neg ho] at hV
  rw [ho0] at HO
  clear he ho ho0 he0
  generalize objG G sg a = q at *
  obtain ⟨o, _⟩ := q
  dsimp only at hV HO hK
  by_cases hc : m < o.c
  ·exact val_5 A cp G D Wd O m sg a dp _ _ _ w _ o HF hx (by omega) HO hc (Lib.hid (by rw [hV, if_pos hc]))
  rw [if_neg hc] at hV
  have hc0 := hK.c0
  unfold bodR at hV
  rcases hK.is with ⟨hk, hi, d0, d1, p0, p1⟩ | ⟨hk, e0, e6, n0, n1, hw, hi⟩ | ⟨hk, e7, n0, n1, d0, d1, p0, p1, C, hi, hC⟩
  ·rw [if_pos hk] at hV
   rw [hV]
   exact val_6 A cp G D Wd O m sg a dp _ _ _ w _ o HF hx (by omega) HO hc0 (by omega) m1 hk (fun w' hb => Lib.hid (hs A cp G D Wd O (m - o.c) dp o w' (hE.below hb) hi d0 d1 p0 p1 (by omega) (by omega) D1 dp0 hd))
  ·rw [if_neg (by omega)] at hV
   have hib := inG_bd hi hE.sgs
   by_cases he : o.e < 6
   ·rw [if_pos he] at hV
    have hsl : (sgG G o.sg).length ≤ 17592186040320 := by
     have := sg_len hE.sgs o.sg.toNat (by omega)
     rwa [show ((o.sg.toNat : Nat) : Int) = o.sg by omega] at this
    exact val_7 A cp G D Wd O m sg a dp _ _ _ w _ o (cutG G o.sg o.ad o.c) HF hx (by omega) HO hc0 (by omega) m1 hk he n0 n1 (fun w' hb => Lib.hid (slice_at A cp G o.sg o.ad o.c w' (Kd.C_below hE.rd hb) hi hE.len hE.sgs)) (cutG_len hsl) (cutG_mem hE.ok _ _ _) (by rw [hw] at hi ⊢; exact bytes_fit hi he n0) (Lib.hid hV)
   ·have he6 : o.e = 6 := by omega
    rw [if_neg he, if_pos he6] at hV
    have hwn : o.c = o.n := by rw [hw, he6]; unfold wordsE bitsE; simp; omega
    exact val_8 A cp G D Wd O m sg a dp _ _ _ w _ o (valR G f o.sg) HF hx (by omega) HO hc0 (by omega) m1 hk n0 n1 dp0 D1 he6 (by omega) (by omega) (Lib.hid (valR_sinks G f o.sg)) (fun j hj mi q0 q1 w' hb => Lib.hid (hv A cp G D Wd O mi o.sg (o.ad + j) (dp + 1) w' (hE.below hb) (by omega) (by omega) (by have := hE.len; omega) q0 (by omega) D1 (by omega) (.inl (by omega)))) (Lib.hid hV)
  ·rw [if_neg (by omega), if_neg (by omega), if_neg (by omega)] at hV
   rw [elsR_kids] at hV
   have hib := inG_bd hi hE.sgs
   refine val_9 A cp G D Wd O m sg a dp _ _ _ w _ o (fun i m => strR G (valR G f) (elG o i) m) HF hx (by omega) HO hc0 (by omega) m1 hk n0 n1 dp0 D1 e7 (Lib.hid (fun i m h => strR_sinks G (valR_sinks G f) (elG o i) m h)) (fun j hj w' => Lib.hid (el_any o j w' (by omega) (by omega) d0 d1 p0 p1 (by omega) (by omega))) (fun j hj mi q0 q1 w' hb => Lib.hid ?_) (Lib.hid hV)
   rw [Int.zero_add]
   have y0 : 0 ≤ (j : Int) * (o.d + o.p) := Int.mul_nonneg (by omega) (by omega)
   have y1 : ((j : Int) + 1) * (o.d + o.p) ≤ o.n * (o.d + o.p) := Int.mul_le_mul_of_nonneg_right (by omega) (by omega)
   rw [Int.add_mul, Int.one_mul] at y1
   exact hs A cp G D Wd O mi dp (elG o j) w' (hE.below hb) (inG_sub hi (by unfold elG; dsimp only; omega) (by unfold elG; dsimp only; omega) (by unfold elG; dsimp only; omega)) d0 d1 p0 p1 q0 (by omega) D1 dp0 hd
theorem val_any : ∀ f, ValC f
  | 0 => val_walk 0 (fun f' h => by omega)
  | f + 1 => val_walk (f + 1) (fun f' h => by
    obtain rfl : f = f' := by omega
    exact ⟨val_any f, str_walk f (val_any f)⟩)
end Go.Proofs.YtidglmocekghmaaDoor.Pr
end
section
namespace Go.Proofs.YtidglmocekghmaaDoor.Pr
set_option linter.unusedSimpArgs false
set_option linter.unusedVariables false
def Good (k : Int) (q : Tr) (m : Int) : Prop := q.2.2 = 0 → (tsize q.1 : Int) ≤ k + 9 * (m - q.2.1) ∧ wordsT q.1
theorem kidsR_good {v : Int → Int → Tr} (hs : Sinks v) (k : Int) (hv : ∀ a m, 0 ≤ m → Good k (v a m) m) : ∀ (n : Nat) (a m : Int), 0 ≤ m → (kidsR v n a m).2.2 = 0 → (tsizes (kidsR v n a m).1 : Int) ≤ n * k + 9 * (m - (kidsR v n a m).2.1) ∧ ∀ x ∈ (kidsR v n a m).1, wordsT x
 | 0, a, m, hm, h => by simp [kidsR, tsizes]
 | n + 1, a, m, hm, h => by
  revert h
  unfold kidsR
  split
  ·rename_i he
   intro h
   exact (he h).elim
  ·rename_i he
   have he : (v a m).2.2 = 0 := by omega
   intro h
   have h1 := hv a m hm he
   have h2 := kidsR_good hs k hv n (a + 1) (v a m).2.1 (hs a m hm).1 h
   have h3 : ((n + 1 : Nat) : Int) * k = n * k + k := by rw [Int.natCast_add, Int.add_mul]; simp
   dsimp only
   rw [tsizes]
   refine ⟨by rw [h3]; omega, fun x hx => ?_⟩
   rcases List.mem_cons.1 hx with rfl | hx
   ·exact h1.2
   ·exact h2.2 x hx
theorem ndZ_good (k m : Int) (e : Int) (h : 1 ≤ k) (hw : wordsT ndZ) : Good k (ndZ, m, e) m := fun _ => ⟨by rw [tsize_eq]; simp [ndZ, tsizes]; omega, hw⟩
theorem ndZ_words : wordsT ndZ := .mk (by intro h; simp [ndZ] at h) (by intro x hx; simp [ndZ] at hx)
theorem cutG_length_le (G : List (List Int)) (s a : Int) (n : Int) (h : 0 ≤ n) : ((cutG G s a n).length : Int) ≤ n := by
 unfold cutG
 rw [List.length_take]
 omega
theorem strR_good (G : List (List Int)) {v : Int → Int → Int → Tr} (hs : ∀ sg, Sinks (v sg)) (hv : ∀ sg a m, 0 ≤ m → Good 1 (v sg a m) m) (o : Ob) (m : Int) (hm : 0 ≤ m) (d0 : 0 ≤ o.d) (p0 : 0 ≤ o.p) : Good (1 + 8 * o.d + o.p) (strR G v o m) m := by
 intro h
 have hk := kidsR_good (hs o.sg) 1 (hv o.sg) o.p.toNat (o.ad + o.d) m hm
 have hc := cutG_length_le G o.sg o.ad o.d d0
 revert h
 unfold strR
 split
 ·rename_i he
  intro h
  exact (he h).elim
 ·rename_i he
  intro h
  obtain ⟨h1, h2⟩ := hk (by omega)
  refine ⟨?_, .mk (fun _ => ?_) h2⟩
  ·rw [tsize_eq, bytesL_length]
   dsimp only
   omega
  ·rw [bytesL_length]
   omega
theorem trimE_len_le (e c : Int) (b : List Int) : (trimE e c b).length ≤ b.length := by
 unfold trimE
 split
 ·rw [List.length_set, List.length_take]; omega
 ·rw [List.length_take]; omega
theorem obj_c (G : List (List Int)) (s a : Int) (h : (objG G s a).2 = 0) (he : (folM G s a).2.2.2 = 0) (hx : (folM G s a).1 ≠ 0) : ((objG G s a).1.kd = 1 → (objG G s a).1.c = (objG G s a).1.d + (objG G s a).1.p) ∧ ((objG G s a).1.kd = 2 → (objG G s a).1.e = 7 → (objG G s a).1.n * ((objG G s a).1.d + (objG G s a).1.p) ≤ (objG G s a).1.c ∧ ((objG G s a).1.d + (objG G s a).1.p = 0 → (objG G s a).1.n ≤ (objG G s a).1.c)) := by
 revert h
 unfold objG
 rw [if_neg (by simpa using he), if_neg hx]
 generalize folM G s a = q
 obtain ⟨x, sg, ba, er⟩ := q
 dsimp only
 have q1 := pD_bd x
 have q2 := pP_bd x
 have q3 := pE_bd x
 have q4 := pC_bd x
 unfold desM
 split
 ·split
  ·intro h; cases h
  ·intro h; cases h
 split
 ·split
  ·rename_i hi
   intro _
   exact ⟨fun _ => rfl, fun h => by simp at h⟩
  ·intro h; cases h
 split
 ·intro h; cases h
 rename_i hi
 have hi : inG G sg (ba + pO x) (wordsE (pE x) (pC x)) = true := by
  cases hh : inG G sg (ba + pO x) (wordsE (pE x) (pC x)) with
  | true => rfl
  | false => exact (hi hh).elim
 split
 ·intro _
  exact ⟨fun h => by simp at h, fun _ h7 => by dsimp only at h7; omega⟩
 rename_i he7
 have he7 : pE x = 7 := by omega
 have hw : wordsE (pE x) (pC x) = pC x + 1 := by rw [he7]; rfl
 have t1 := pO_bd (wdG G sg (ba + pO x))
 have t2 := pD_bd (wdG G sg (ba + pO x))
 have t3 := pP_bd (wdG G sg (ba + pO x))
 generalize wdG G sg (ba + pO x) = t at *
 rw [hw] at hi ⊢
 unfold tagM
 split
 ·intro h; cases h
 split
 ·intro h; cases h
 split
 ·intro h; cases h
 rename_i h1 h2 h3
 have hC := inG_sub (b := ba + pO x + 1) (k := pC x) hi (by omega) q4.1 (by omega)
 split
 all_goals
  intro _
  exact ⟨fun h => by simp at h, fun _ _ => ⟨by dsimp only; omega, fun hz => by dsimp only at hz ⊢; omega⟩⟩
theorem valR_good (G : List (List Int)) : ∀ f sg a m, 0 ≤ m → Good 1 (valR G f sg a m) m
 | f, sg, a, m => by
  intro hm
  induction f generalizing sg a m with
  | zero =>
   rw [valR]
   split
   ·exact ndZ_good _ _ _ (by omega) ndZ_words
   split
   ·exact ndZ_good _ _ _ (by omega) ndZ_words
   ·exact ndZ_good _ _ _ (by omega) ndZ_words
  | succ f ih =>
   rw [valR]
   split
   ·exact ndZ_good _ _ _ (by omega) ndZ_words
   rename_i he
   split
   ·exact ndZ_good _ _ _ (by omega) ndZ_words
   rename_i hx
   split
   ·exact ndZ_good _ _ _ (by omega) ndZ_words
   rename_i ho
   have hK := obj_ok G sg a (by omega) (by omega) hx
   have hC := obj_c G sg a (by omega) (by omega) hx
   generalize objG G sg a = q at *
   obtain ⟨o, _⟩ := q
   dsimp only at hK hC ⊢
   split
   ·exact ndZ_good _ _ _ (by omega) ndZ_words
   have hs := valR_sinks G f
   have hst := fun (o : Ob) m => strR_good G hs (fun sg a m hm => ih sg a m hm) o m
   have hc0 := hK.c0
   have hm1 : 0 ≤ m - o.c := by omega
   unfold bodR
   rcases hK.is with ⟨hk, hi, d0, d1, p0, p1⟩ | ⟨hk, e0, e6, n0, n1, hw, hi⟩ | ⟨hk, e7, n0, n1, d0, d1, p0, p1, C, hi, hCC⟩
   ·rw [if_pos hk]
    intro h
    have := hst o (m - o.c) hm1 d0 p0 h
    have hcc := hC.1 hk
    exact ⟨by omega, this.2⟩
   ·rw [if_neg (by omega)]
    by_cases he6 : o.e < 6
    ·rw [if_pos he6]
     intro _
     have h1 := trimE_len_le o.e o.n (bytesL (cutG G o.sg o.ad o.c))
     rw [bytesL_length] at h1
     have h2 := cutG_length_le G o.sg o.ad o.c hc0
     refine ⟨?_, .mk (fun h => by simp at h) (fun x hx => by simp at hx)⟩
     rw [tsize_eq]
     dsimp only
     rw [tsizes]
     omega
    ·have he6 : o.e = 6 := by omega
     rw [if_neg (by omega), if_pos he6]
     have hwn : o.c = o.n := by rw [hw, he6]; unfold wordsE bitsE; simp; omega
     have hk := kidsR_good (hs o.sg) 1 (fun a m hm => ih o.sg a m hm) o.n.toNat o.ad (m - o.c) hm1
     split
     ·rename_i hh
      intro h
      exact (hh h).elim
     ·rename_i hh
      intro _
      obtain ⟨h1, h2⟩ := hk (by omega)
      refine ⟨?_, .mk (fun h => by simp at h) h2⟩
      rw [tsize_eq]
      dsimp only [List.length_nil]
      omega
   ·rw [if_neg (by omega), if_neg (by omega), if_neg (by omega), elsR_kids]
    have hkk := kidsR_good (v := fun i m => strR G (valR G f) (elG o i) m) (fun i m h => strR_sinks G hs (elG o i) m h) (1 + 8 * o.d + o.p) (fun i m hm => hst (elG o i) m hm d0 p0) o.n.toNat 0 (m - o.c) hm1
    split
    ·rename_i hh
     intro h
     exact (hh h).elim
    ·rename_i hh
     intro _
     obtain ⟨h1, h2⟩ := hkk (by omega)
     refine ⟨?_, .mk (fun h => by simp at h) h2⟩
     rw [tsize_eq]
     dsimp only [List.length_nil]
     obtain ⟨c1, c2⟩ := hC.2 hk e7
     rw [show ((o.n.toNat : Nat) : Int) = o.n by omega] at h1
     have y : o.n * (1 + 8 * o.d + o.p) ≤ 9 * o.c := by
      by_cases hz : o.d + o.p = 0
      ·have := c2 hz
       rw [show 1 + 8 * o.d + o.p = 1 by omega]
       omega
      ·have y1 : o.n * (1 + 8 * o.d + o.p) ≤ o.n * (9 * (o.d + o.p)) := Int.mul_le_mul_of_nonneg_left (by omega) n0
       rw [Int.mul_left_comm] at y1
       omega
     generalize o.n * (1 + 8 * o.d + o.p) = z at *
     omega
end Go.Proofs.YtidglmocekghmaaDoor.Pr
end
section
namespace Go.Proofs.YtidglmocekghmaaDoor.Pr
open Go.RowKit Go.Proofs.YtidglmocekghmaaDoorW.PrintWords Go.Proofs.YtidglmocekghmaaDoorW.PrintLast Go.Proofs.YtidglmocekghmaaDoorW.PrintMore
set_option linter.unusedVariables false
set_option linter.unusedSimpArgs false
def visI : Option Nat → Int
 | none => -1
 | some r => r
abbrev AtS (w : World) (ad : Addr) (i : Nat) (x : Int) : Prop := w.cell? (ad.add i) = some (.int .u64 x)
end Go.Proofs.YtidglmocekghmaaDoor.Pr
end
section
namespace Go.Proofs.YtidglmocekghmaaDoor.Pr
set_option linter.unusedSimpArgs false
open Go.RowKit Go.Proofs.YtidglmocekghmaaDoorW.PrintWords Go.Proofs.YtidglmocekghmaaDoorW.PrintLast Go.Proofs.YtidglmocekghmaaDoorW.PrintMore
set_option linter.unusedVariables false
section
variable {P : Program} {ops : Array Oper} {rest : List Oper} {o : Oper} {a : Act} {Q : Exit → Act → World → Prop} {w0 W : World} {L : List Asr}
def isBs (o : Oper) : Bool := match o.op with
 | .buildSlice _ _ _ => true
 | _ => false
def BsAt (P : Program) (W : World) (o : Oper) (a : Act) (cs : Array Value) (t k : Nat) (f : Nat → Act) : Prop :=
 (execOp a.eval o).run P W = .ok (.value (.slice (some ⟨W.heap.size, 0, none⟩) k k)) (W.alloc (.cells cs t (0, 0))) ∧ ∀ g, a.put o.dst (.slice (some ⟨g, 0, none⟩) k k) = f g
theorem sb (S : Sep w0 W L) {cs : Array Value} {t k : Nat} {f : Nat → Act} (h : ∀ g w1, Sep w0 w1 (.box g cs t :: L) → wpList P ops Q rest (f g) w1) (_ : isBs o = true := by rfl) (hg : o.guard = none := by rfl)
    (k : BsAt P W o a cs t k f := by
      refine ⟨?_, fun g => ?_⟩
      · first | (go_simp; done) | (go_simp; rfl)
      · simp only [Act.put, List.setIfInBounds_toArray, List.set_cons_zero, List.set_cons_succ]; rfl) : wpList P ops Q (o :: rest) a W := by
  obtain ⟨hr, hf⟩ := k
  refine Kd.event_run hg hr ?_
  rw [hf]
  exact h _ _ (S.new cs t)
end
theorem C_sl1 {w : World} {g e cp : Nat} {A : Option Addr} {s : List Int} (hb : w.heap[g]? = some (.cells #[.slice A s.length cp] e (0, 0))) (hc : s.length ≤ cp) (h : (Kd.int .u64).C w A s.length s) : (Kd.slice 32 (Kd.int .u64)).C w (some ⟨g, 0, none⟩) 1 [s] := by
 refine ⟨rfl, by simp, fun hn => ⟨_, rfl, fun j p hj => ?_⟩⟩
 have hj0 : j = 0 := by
  have := (List.getElem?_eq_some_iff.1 hj).1
  simpa using this
 subst hj0
 obtain rfl : s = p := by simpa using hj
 refine ⟨[.slice A s.length cp], rfl, ⟨A, cp, rfl, hc, h⟩, fun i u hu => ?_⟩
 match i with
 | 0 =>
  obtain rfl : Value.slice A s.length cp = u := by simpa using hu
  rw [add_zero_at, blk_cell hb]
  simp
 | i + 1 => simp at hu
end Go.Proofs.YtidglmocekghmaaDoor.Pr
end
section
namespace Go.Proofs.YtidglmocekghmaaDoor.Pr
open Go.RowKit Go.Proofs.YtidglmocekghmaaDoorW.PrintWords Go.Proofs.YtidglmocekghmaaDoorW.PrintLast Go.Proofs.YtidglmocekghmaaDoorW.PrintMore
set_option linter.unusedVariables false
set_option linter.unusedSimpArgs false
def tb (T : List Int) (i : Nat) : Int := if i < T.length then wd T i else 0
end Go.Proofs.YtidglmocekghmaaDoor.Pr
end
section
namespace Go.Proofs.YtidglmocekghmaaDoor.Pr
open Go.RowKit Go.Proofs.YtidglmocekghmaaDoorW.PrintWords Go.Proofs.YtidglmocekghmaaDoorW.PrintLast Go.Proofs.YtidglmocekghmaaDoorW.PrintMore
set_option linter.unusedVariables false
set_option linter.unusedSimpArgs false
theorem wl0 {P : Program} {ops : Array Oper} {rest : List Oper} {o : Oper} {a : Act} {Q : Exit → Act → World → Prop} {W : World} (_ : o.guard = none) (h : wpList P ops Q (o :: rest) a W) : wpList P ops Q (o :: rest) a W := h
end Go.Proofs.YtidglmocekghmaaDoor.Pr
end
section
namespace Go.Proofs.YtidglmocekghmaaDoor.Pr
open Go.RowKit Go.Proofs.YtidglmocekghmaaDoorW.PrintWords Go.Proofs.YtidglmocekghmaaDoorW.PrintLast Go.Proofs.YtidglmocekghmaaDoorW.PrintMore
set_option linter.unusedVariables false
set_option linter.unusedSimpArgs false
def msgR (G : List (List Int)) (D Wd : Int) : S37 × Int :=
 if G.length ≠ 0 ∧ (sgG G 0).length = 0 then (ndZ, 0)
 else if (valR G D.toNat 0 0 (startM Wd)).2.2 ≠ 0 then (ndZ, (valR G D.toNat 0 0 (startM Wd)).2.2)
 else (ttrim (valR G D.toNat 0 0 (startM Wd)).1, 0)
theorem jn {P : Program} {Q : Exit → Act → World → Prop} {c : Code} {a : Act} {w : World} {σ : Type} (F : σ → World → Prop) (ns : σ → List (Tmp × Value)) (h1 : ∀ s w', F s w' → Q .normal (putAll a (ns s)) w') (h2 : (∀ s w', F s w' → Q .normal (putAll a (ns s)) w') → c.wp P Q a w) : c.wp P Q a w := h2 h1
theorem trim_opn (a : S37) (hw : wordsT a) (hs : tsize a ≤ 1000000000000) (w : World) {A3 A4 : Option Addr} {c3 c4 : Nat} (h : k37.K w a [.int .i64 a.f0, .int .i64 a.f1, .int .i64 a.f2, .slice A3 a.f3.length c3, .slice A4 a.f4.length c4]) :
  Calls Tryd.prog 29 #[.agg #[.int .i64 a.f0, .int .i64 a.f1, .int .i64 a.f2, .slice A3 a.f3.length c3, .slice A4 a.f4.length c4]] w fun r w' => ∃ B3 d3 B4 d4, r = .returned (.agg #[.int .i64 (ttrim a).f0, .int .i64 (ttrim a).f1, .int .i64 (ttrim a).f2, .slice B3 (ttrim a).f3.length d3, .slice B4 (ttrim a).f4.length d4]) ∧ k37.M w' w.heap.size (fun _ => True) (ttrim a) [.int .i64 (ttrim a).f0, .int .i64 (ttrim a).f1, .int .i64 (ttrim a).f2, .slice B3 (ttrim a).f3.length d3, .slice B4 (ttrim a).f4.length d4] ∧ Below w.heap.size w w' := by
 refine (trim_any a hw hs w h).mono ?_
 rintro r w' ⟨v3, v4, rfl, hM, hb⟩
 obtain ⟨B3, d3, B4, d4, e, _⟩ := k37_open (k37.K_of_M hM)
 simp only [List.cons.injEq, true_and, and_true] at e
 obtain ⟨rfl, rfl⟩ := e
 exact ⟨B3, d3, B4, d4, rfl, hM, hb⟩
def MsV (w : World) (q : S37 × Int) (r : Ending) (w' : World) : Prop := ∃ v3 v4, r = .returned (.tuple #[.agg #[.int .i64 q.1.f0, .int .i64 q.1.f1, .int .i64 q.1.f2, v3, v4], .int .i64 q.2]) ∧ k37.M w' w.heap.size (fun _ => True) q.1 [.int .i64 q.1.f0, .int .i64 q.1.f1, .int .i64 q.1.f2, v3, v4] ∧ Below w.heap.size w w'
set_option maxRecDepth 100000 in
set_option maxHeartbeats 4000000 in
theorem msg_any (A : Option Addr) (cp : Nat) (G : List (List Int)) (D Wd O : Int) (w : World) (hE : EnvG w A G) (hD : D ≤ 40) (hW : Wd ≤ 2000) :
    Calls Tryd.prog 16 #[.slice A G.length cp, limV D Wd O] w (MsV w (msgR G D Wd)) := by
  have hs0 : 0 ≤ startM Wd ∧ startM Wd ≤ 2000 := by unfold startM; split <;> omega
  have HV := fun w' (hb : Below w.heap.size w w') => Lib.hid (val_any D.toNat A cp G D Wd O (startM Wd) 0 0 1 w' (hE.below hb) (by omega) (by omega) (by omega) hs0.1 (by omega) (by omega) (by omega) (by omega))
  have HG := Lib.hid (valR_good G D.toNat 0 0 (startM Wd) hs0.1)
  have HN := Lib.hid (valR_sinks G D.toNat 0 0 (startM Wd) hs0.1)
  have HS := fun w' => Lib.hid (start_any D Wd O w')
  have HR := Lib.hid (msgR.eq_1 G D Wd)
  have HX : Hid (∀ i : Nat, i < G.length → ∃ ad A0 c0, A = some ad ∧ w.cell? (ad.add i) = some (.slice A0 (sgG G i).length c0)) := Lib.hid (fun i hi => by
    obtain ⟨ad, A0, c0, h1, h2, _⟩ := at_G hE.rd i hi
    exact ⟨ad, A0, c0, h1, h2⟩)
  have hlen := hE.len
  have S := Sep.start w
  clear hE hD hW
  generalize msgR G D Wd = r at *
  generalize valR G D.toNat 0 0 (startM Wd) = q at *
  obtain ⟨⟨f0, f1, f2, f3, f4⟩, m', e'⟩ := q
  dsimp only at HR HG HN
  generalize startM Wd = m at *
  by_cases h0 : G.length ≠ 0 ∧ (sgG G 0).length = 0
  · replace HR := Lib.hid (HR.out.trans (if_pos h0))
    obtain ⟨ad, A0, c0, rfl, hv⟩ := HX.out 0 (by omega)
    have h1 : 0 < G.length := by omega
    rw [show sgG G ((0 : Nat) : Int) = sgG G 0 from rfl, h0.2] at hv
    have h2 : ((G.length : Int) > 0) := by omega
    have hv0 : ad.add 0 = ad := rfl
    rw [hv0] at hv
    clear h0 hv0
    go_enter Tryd.func16, Tryd.ntmps16
    go_wp2_with (first | go_skip | ((with_reducible refine wl ?_); first | refine sn S (fun g w1 S => ?_) | refine ss S (fun w1 S => ?_) | refine sl S ?_ | refine sa S ?_ | refine sx S hv ?_))
    have S1 := ((S.nil k37 37).nil (Kd.int .u8) 5).node (f0 := 0) (f1 := 0) (f2 := 0)
    have HR := HR.out
    subst HR
    exact rt S ⟨_, _, rfl, S1.out .here, S.below⟩
  replace HR := Lib.hid (HR.out.trans (if_neg h0))
  replace HS := HS
  by_cases h1 : G.length = 0
  · obtain rfl : G = [] := List.eq_nil_of_length_eq_zero h1
    clear h0 h1
    go_enter Tryd.func16, Tryd.ntmps16
    go_wp2_with (first | go_skip | ((with_reducible refine wl ?_); first | (refine sn S (fun g w1 S => ?_); first | ((fail_if_success (have := g3)); revert g; intro g3 S) | ((fail_if_success (have := g4)); revert g; intro g4 S)) | refine ss S (fun w1 S => ?_) | refine sl S ?_ | refine sa S ?_ ))
    refine jn (fun (s : Nat × Nat × Option Addr × Nat × Option Addr × Nat) w' => Sep w w' [.made k37 ⟨f0, f1, f2, f3, f4⟩ [.int .i64 f0, .int .i64 f1, .int .i64 f2, .slice s.2.2.1 f3.length s.2.2.2.1, .slice s.2.2.2.2.1 f4.length s.2.2.2.2.2], .box s.2.1 #[.int .i64 m'] 52, .box s.1 [.int .i64 f0, .int .i64 f1, .int .i64 f2, .slice s.2.2.1 f3.length s.2.2.2.1, .slice s.2.2.2.2.1 f4.length s.2.2.2.2.2].toArray 37, .box g4 #[.int .i64 0, .int .i64 0, .int .i64 0, .slice none 0 0, .slice none 0 0] 37, .box g3 #[.int .i64 D, .int .i64 Wd, .int .i64 O] 24]) (fun s => [(21, .slice A ([] : List (List Int)).length cp), (22, limV D Wd O), (23, limV D Wd O), (24, .agg #[.int .i64 m]), (25, .tuple #[.agg #[.int .i64 f0, .int .i64 f1, .int .i64 f2, .slice s.2.2.1 f3.length s.2.2.2.1, .slice s.2.2.2.2.1 f4.length s.2.2.2.2.2], .agg #[.int .i64 m'], .int .i64 e']), (20, .tuple #[.agg #[.int .i64 f0, .int .i64 f1, .int .i64 f2, .slice s.2.2.1 f3.length s.2.2.2.1, .slice s.2.2.2.2.1 f4.length s.2.2.2.2.2], .agg #[.int .i64 m'], .int .i64 e']), (26, .agg #[.int .i64 f0, .int .i64 f1, .int .i64 f2, .slice s.2.2.1 f3.length s.2.2.2.1, .slice s.2.2.2.2.1 f4.length s.2.2.2.2.2]), (27, .agg #[.int .i64 m']), (28, .int .i64 e'), (6, .pointer (some ⟨s.1, 0, none⟩)), (7, .pointer (some ⟨s.2.1, 0, none⟩)), (8, .int .i64 e')]) (fun s w' S => ?_) (fun hJ => ?_)
    · obtain ⟨g6, g7, B3, d3, B4, d4⟩ := s
      dsimp only at S
      simp only [putAll, Act.put, List.setIfInBounds_toArray, List.set_cons_zero, List.set_cons_succ]
      by_cases he : e' ≠ 0
      · replace HR := Lib.hid (HR.out.trans (if_pos he))
        have t1 : (e' != 0) = true := bne_iff_ne.2 he
        clear he HG HN
        go_wp2_with (first | go_skip | ((with_reducible refine wl ?_); first | refine sn S (fun g w1 S => ?_) | refine ss S (fun w1 S => ?_) | refine sl S ?_ | refine sa S ?_))
        have S1 := ((S.nil k37 37).nil (Kd.int .u8) 5).node (f0 := 0) (f1 := 0) (f2 := 0)
        have HR := HR.out
        subst HR
        exact rt S ⟨_, _, rfl, S1.out .here, S.below⟩
      · replace HR := Lib.hid (HR.out.trans (if_neg he))
        obtain rfl : e' = 0 := by omega
        obtain ⟨hg1, hg2⟩ := HG.out rfl
        have HT := fun w' (h : k37.K w' ⟨f0, f1, f2, f3, f4⟩ [.int .i64 f0, .int .i64 f1, .int .i64 f2, .slice B3 f3.length d3, .slice B4 f4.length d4]) => Lib.hid (trim_opn ⟨f0, f1, f2, f3, f4⟩ hg2 (by have := HN.out; dsimp only at hg1; omega) w' h)
        clear hg1 hg2 HG HN he
        generalize ttrim ⟨f0, f1, f2, f3, f4⟩ = z at *
        obtain ⟨z0, z1, z2, z3, z4⟩ := z
        dsimp only at HT
        go_wp2_with (first | go_skip | ((with_reducible refine wl ?_); first | refine sn S (fun g w1 S => ?_) | refine ss S (fun w1 S => ?_) | refine sl S ?_ | refine sa S ?_) | ((with_reducible refine (HT _ (k37.K_of_M (S.out .here))).out.mono ?_); rintro r' w' ⟨C3, d5, C4, d6, rfl, hM, hb⟩; replace S := S.push (a := .made k37 _ _) hb hM))
        have HR := HR.out
        subst HR
        exact rt S ⟨_, _, rfl, S.out .here, S.below⟩
    refine rs [1] S (fun w1 S => ?_)
    refine pu 0 21 ?_
    refine lt 1 S ?_
    refine lt 2 S ?_
    refine rdo [3, 9, 10] (by simp) (List.forall_mem_cons.2 ⟨?_, List.forall_mem_cons.2 ⟨?_, List.forall_mem_cons.2 ⟨?_, List.forall_mem_nil _⟩⟩⟩)
    · refine rc 24 Tryd.func28 (HS _).out (fun r' w2 hT => ?_)
      obtain ⟨rfl, hb⟩ := hT
      replace S := S.call hb
      refine ⟨_, rfl, S.kpq 0, _, rfl, ?_⟩
      simp only [Act.put, List.setIfInBounds_toArray, List.set_cons_zero, List.set_cons_succ]
      refine rdo [4, 9, 10] (by simp) (List.forall_mem_cons.2 ⟨?_, List.forall_mem_cons.2 ⟨?_, List.forall_mem_cons.2 ⟨?_, List.forall_mem_nil _⟩⟩⟩)
      · refine rc 25 Tryd.func27 (HV _ S.below).out (fun r' w2 hT => ?_)
        obtain ⟨B3, d3, B4, d4, rfl, hM, hb⟩ := TrV.openV hT
        replace S := S.push (a := .made k37 _ _) hb hM
        dsimp only at S
        refine ⟨_, rfl, S.kpq 1, _, rfl, ?_⟩
        simp only [Act.put, List.setIfInBounds_toArray, List.set_cons_zero, List.set_cons_succ]
        refine pu 5 20 ?_
        refine pu 6 26 ?_
        refine pu 7 27 ?_
        refine pu 8 28 ?_
        refine rdo [9, 10] (by simp) (List.forall_mem_cons.2 ⟨?_, List.forall_mem_cons.2 ⟨?_, List.forall_mem_nil _⟩⟩)
        · refine rn 6 S (fun g6 w2 S => ⟨S.kpq 2, ?_⟩)
          refine rdo [10] (by simp) (List.forall_mem_cons.2 ⟨?_, List.forall_mem_nil _⟩)
          · refine rn 7 S (fun g7 w2 S => ⟨S.kpq 3, ?_⟩)
            refine lsd 11 3 S (fun w2 S => ?_)
            refine lsd 12 3 S (fun w2 S => ?_)
            refine pu 13 8 ?_
            refine dn ?_
            replace S := S.pick 1 rfl rfl
            replace S := S.pick 1 rfl rfl
            replace S := S.pick 2 rfl rfl
            have hj := hJ (g6, g7, B3, d3, B4, d4) _ S
            simp only [putAll, Act.put, List.setIfInBounds_toArray, List.set_cons_zero, List.set_cons_succ] at hj
            exact hj
        · refine rn 7 S (fun g7 w2 S => ⟨S.kpq 2, ?_⟩)
          refine rdo [9] (by simp) (List.forall_mem_cons.2 ⟨?_, List.forall_mem_nil _⟩)
          · refine rn 6 S (fun g6 w2 S => ⟨S.kpq 3, ?_⟩)
            refine lsd 11 3 S (fun w2 S => ?_)
            refine lsd 12 3 S (fun w2 S => ?_)
            refine pu 13 8 ?_
            refine dn ?_
            replace S := S.pick 0 rfl rfl
            replace S := S.pick 1 rfl rfl
            replace S := S.pick 2 rfl rfl
            have hj := hJ (g6, g7, B3, d3, B4, d4) _ S
            simp only [putAll, Act.put, List.setIfInBounds_toArray, List.set_cons_zero, List.set_cons_succ] at hj
            exact hj
      · refine rn 6 S (fun g6 w2 S => ⟨S.kpq 1, ?_⟩)
        refine rdo [4, 10] (by simp) (List.forall_mem_cons.2 ⟨?_, List.forall_mem_cons.2 ⟨?_, List.forall_mem_nil _⟩⟩)
        · refine rc 25 Tryd.func27 (HV _ S.below).out (fun r' w2 hT => ?_)
          obtain ⟨B3, d3, B4, d4, rfl, hM, hb⟩ := TrV.openV hT
          replace S := S.push (a := .made k37 _ _) hb hM
          dsimp only at S
          refine ⟨_, rfl, S.kpq 2, _, rfl, ?_⟩
          simp only [Act.put, List.setIfInBounds_toArray, List.set_cons_zero, List.set_cons_succ]
          refine pu 5 20 ?_
          refine pu 6 26 ?_
          refine pu 7 27 ?_
          refine pu 8 28 ?_
          refine rdo [10] (by simp) (List.forall_mem_cons.2 ⟨?_, List.forall_mem_nil _⟩)
          · refine rn 7 S (fun g7 w2 S => ⟨S.kpq 3, ?_⟩)
            refine lsd 11 3 S (fun w2 S => ?_)
            refine lsd 12 3 S (fun w2 S => ?_)
            refine pu 13 8 ?_
            refine dn ?_
            replace S := S.pick 2 rfl rfl
            replace S := S.pick 1 rfl rfl
            replace S := S.pick 2 rfl rfl
            have hj := hJ (g6, g7, B3, d3, B4, d4) _ S
            simp only [putAll, Act.put, List.setIfInBounds_toArray, List.set_cons_zero, List.set_cons_succ] at hj
            exact hj
        · refine rn 7 S (fun g7 w2 S => ⟨S.kpq 2, ?_⟩)
          refine rdo [4] (by simp) (List.forall_mem_cons.2 ⟨?_, List.forall_mem_nil _⟩)
          · refine rc 25 Tryd.func27 (HV _ S.below).out (fun r' w2 hT => ?_)
            obtain ⟨B3, d3, B4, d4, rfl, hM, hb⟩ := TrV.openV hT
            replace S := S.push (a := .made k37 _ _) hb hM
            dsimp only at S
            refine ⟨_, rfl, S.kpq 3, _, rfl, ?_⟩
            simp only [Act.put, List.setIfInBounds_toArray, List.set_cons_zero, List.set_cons_succ]
            refine pu 5 20 ?_
            refine pu 6 26 ?_
            refine pu 7 27 ?_
            refine pu 8 28 ?_
            refine lsd 11 3 S (fun w2 S => ?_)
            refine lsd 12 3 S (fun w2 S => ?_)
            refine pu 13 8 ?_
            refine dn ?_
            replace S := S.pick 2 rfl rfl
            replace S := S.pick 2 rfl rfl
            replace S := S.pick 2 rfl rfl
            have hj := hJ (g6, g7, B3, d3, B4, d4) _ S
            simp only [putAll, Act.put, List.setIfInBounds_toArray, List.set_cons_zero, List.set_cons_succ] at hj
            exact hj
      · refine rn 7 S (fun g7 w2 S => ⟨S.kpq 1, ?_⟩)
        refine rdo [4, 9] (by simp) (List.forall_mem_cons.2 ⟨?_, List.forall_mem_cons.2 ⟨?_, List.forall_mem_nil _⟩⟩)
        · refine rc 25 Tryd.func27 (HV _ S.below).out (fun r' w2 hT => ?_)
          obtain ⟨B3, d3, B4, d4, rfl, hM, hb⟩ := TrV.openV hT
          replace S := S.push (a := .made k37 _ _) hb hM
          dsimp only at S
          refine ⟨_, rfl, S.kpq 2, _, rfl, ?_⟩
          simp only [Act.put, List.setIfInBounds_toArray, List.set_cons_zero, List.set_cons_succ]
          refine pu 5 20 ?_
          refine pu 6 26 ?_
          refine pu 7 27 ?_
          refine pu 8 28 ?_
          refine rdo [9] (by simp) (List.forall_mem_cons.2 ⟨?_, List.forall_mem_nil _⟩)
          · refine rn 6 S (fun g6 w2 S => ⟨S.kpq 3, ?_⟩)
            refine lsd 11 3 S (fun w2 S => ?_)
            refine lsd 12 3 S (fun w2 S => ?_)
            refine pu 13 8 ?_
            refine dn ?_
            replace S := S.pick 0 rfl rfl
            replace S := S.pick 2 rfl rfl
            replace S := S.pick 2 rfl rfl
            have hj := hJ (g6, g7, B3, d3, B4, d4) _ S
            simp only [putAll, Act.put, List.setIfInBounds_toArray, List.set_cons_zero, List.set_cons_succ] at hj
            exact hj
        · refine rn 6 S (fun g6 w2 S => ⟨S.kpq 2, ?_⟩)
          refine rdo [4] (by simp) (List.forall_mem_cons.2 ⟨?_, List.forall_mem_nil _⟩)
          · refine rc 25 Tryd.func27 (HV _ S.below).out (fun r' w2 hT => ?_)
            obtain ⟨B3, d3, B4, d4, rfl, hM, hb⟩ := TrV.openV hT
            replace S := S.push (a := .made k37 _ _) hb hM
            dsimp only at S
            refine ⟨_, rfl, S.kpq 3, _, rfl, ?_⟩
            simp only [Act.put, List.setIfInBounds_toArray, List.set_cons_zero, List.set_cons_succ]
            refine pu 5 20 ?_
            refine pu 6 26 ?_
            refine pu 7 27 ?_
            refine pu 8 28 ?_
            refine lsd 11 3 S (fun w2 S => ?_)
            refine lsd 12 3 S (fun w2 S => ?_)
            refine pu 13 8 ?_
            refine dn ?_
            replace S := S.pick 1 rfl rfl
            replace S := S.pick 2 rfl rfl
            replace S := S.pick 2 rfl rfl
            have hj := hJ (g6, g7, B3, d3, B4, d4) _ S
            simp only [putAll, Act.put, List.setIfInBounds_toArray, List.set_cons_zero, List.set_cons_succ] at hj
            exact hj
    · refine rn 6 S (fun g6 w2 S => ⟨S.kpq 1, ?_⟩)
      refine rdo [3, 10] (by simp) (List.forall_mem_cons.2 ⟨?_, List.forall_mem_cons.2 ⟨?_, List.forall_mem_nil _⟩⟩)
      · refine rc 24 Tryd.func28 (HS _).out (fun r' w2 hT => ?_)
        obtain ⟨rfl, hb⟩ := hT
        replace S := S.call hb
        refine ⟨_, rfl, S.kpq 1, _, rfl, ?_⟩
        simp only [Act.put, List.setIfInBounds_toArray, List.set_cons_zero, List.set_cons_succ]
        refine rdo [4, 10] (by simp) (List.forall_mem_cons.2 ⟨?_, List.forall_mem_cons.2 ⟨?_, List.forall_mem_nil _⟩⟩)
        · refine rc 25 Tryd.func27 (HV _ S.below).out (fun r' w2 hT => ?_)
          obtain ⟨B3, d3, B4, d4, rfl, hM, hb⟩ := TrV.openV hT
          replace S := S.push (a := .made k37 _ _) hb hM
          dsimp only at S
          refine ⟨_, rfl, S.kpq 2, _, rfl, ?_⟩
          simp only [Act.put, List.setIfInBounds_toArray, List.set_cons_zero, List.set_cons_succ]
          refine pu 5 20 ?_
          refine pu 6 26 ?_
          refine pu 7 27 ?_
          refine pu 8 28 ?_
          refine rdo [10] (by simp) (List.forall_mem_cons.2 ⟨?_, List.forall_mem_nil _⟩)
          · refine rn 7 S (fun g7 w2 S => ⟨S.kpq 3, ?_⟩)
            refine lsd 11 3 S (fun w2 S => ?_)
            refine lsd 12 3 S (fun w2 S => ?_)
            refine pu 13 8 ?_
            refine dn ?_
            replace S := S.pick 2 rfl rfl
            replace S := S.pick 1 rfl rfl
            replace S := S.pick 2 rfl rfl
            have hj := hJ (g6, g7, B3, d3, B4, d4) _ S
            simp only [putAll, Act.put, List.setIfInBounds_toArray, List.set_cons_zero, List.set_cons_succ] at hj
            exact hj
        · refine rn 7 S (fun g7 w2 S => ⟨S.kpq 2, ?_⟩)
          refine rdo [4] (by simp) (List.forall_mem_cons.2 ⟨?_, List.forall_mem_nil _⟩)
          · refine rc 25 Tryd.func27 (HV _ S.below).out (fun r' w2 hT => ?_)
            obtain ⟨B3, d3, B4, d4, rfl, hM, hb⟩ := TrV.openV hT
            replace S := S.push (a := .made k37 _ _) hb hM
            dsimp only at S
            refine ⟨_, rfl, S.kpq 3, _, rfl, ?_⟩
            simp only [Act.put, List.setIfInBounds_toArray, List.set_cons_zero, List.set_cons_succ]
            refine pu 5 20 ?_
            refine pu 6 26 ?_
            refine pu 7 27 ?_
            refine pu 8 28 ?_
            refine lsd 11 3 S (fun w2 S => ?_)
            refine lsd 12 3 S (fun w2 S => ?_)
            refine pu 13 8 ?_
            refine dn ?_
            replace S := S.pick 2 rfl rfl
            replace S := S.pick 2 rfl rfl
            replace S := S.pick 2 rfl rfl
            have hj := hJ (g6, g7, B3, d3, B4, d4) _ S
            simp only [putAll, Act.put, List.setIfInBounds_toArray, List.set_cons_zero, List.set_cons_succ] at hj
            exact hj
      · refine rn 7 S (fun g7 w2 S => ⟨S.kpq 2, ?_⟩)
        refine rdo [3] (by simp) (List.forall_mem_cons.2 ⟨?_, List.forall_mem_nil _⟩)
        · refine rc 24 Tryd.func28 (HS _).out (fun r' w2 hT => ?_)
          obtain ⟨rfl, hb⟩ := hT
          replace S := S.call hb
          refine ⟨_, rfl, S.kpq 2, _, rfl, ?_⟩
          simp only [Act.put, List.setIfInBounds_toArray, List.set_cons_zero, List.set_cons_succ]
          refine rdo [4] (by simp) (List.forall_mem_cons.2 ⟨?_, List.forall_mem_nil _⟩)
          · refine rc 25 Tryd.func27 (HV _ S.below).out (fun r' w2 hT => ?_)
            obtain ⟨B3, d3, B4, d4, rfl, hM, hb⟩ := TrV.openV hT
            replace S := S.push (a := .made k37 _ _) hb hM
            dsimp only at S
            refine ⟨_, rfl, S.kpq 3, _, rfl, ?_⟩
            simp only [Act.put, List.setIfInBounds_toArray, List.set_cons_zero, List.set_cons_succ]
            refine pu 5 20 ?_
            refine pu 6 26 ?_
            refine pu 7 27 ?_
            refine pu 8 28 ?_
            refine lsd 11 3 S (fun w2 S => ?_)
            refine lsd 12 3 S (fun w2 S => ?_)
            refine pu 13 8 ?_
            refine dn ?_
            replace S := S.pick 2 rfl rfl
            replace S := S.pick 2 rfl rfl
            replace S := S.pick 2 rfl rfl
            have hj := hJ (g6, g7, B3, d3, B4, d4) _ S
            simp only [putAll, Act.put, List.setIfInBounds_toArray, List.set_cons_zero, List.set_cons_succ] at hj
            exact hj
    · refine rn 7 S (fun g7 w2 S => ⟨S.kpq 1, ?_⟩)
      refine rdo [3, 9] (by simp) (List.forall_mem_cons.2 ⟨?_, List.forall_mem_cons.2 ⟨?_, List.forall_mem_nil _⟩⟩)
      · refine rc 24 Tryd.func28 (HS _).out (fun r' w2 hT => ?_)
        obtain ⟨rfl, hb⟩ := hT
        replace S := S.call hb
        refine ⟨_, rfl, S.kpq 1, _, rfl, ?_⟩
        simp only [Act.put, List.setIfInBounds_toArray, List.set_cons_zero, List.set_cons_succ]
        refine rdo [4, 9] (by simp) (List.forall_mem_cons.2 ⟨?_, List.forall_mem_cons.2 ⟨?_, List.forall_mem_nil _⟩⟩)
        · refine rc 25 Tryd.func27 (HV _ S.below).out (fun r' w2 hT => ?_)
          obtain ⟨B3, d3, B4, d4, rfl, hM, hb⟩ := TrV.openV hT
          replace S := S.push (a := .made k37 _ _) hb hM
          dsimp only at S
          refine ⟨_, rfl, S.kpq 2, _, rfl, ?_⟩
          simp only [Act.put, List.setIfInBounds_toArray, List.set_cons_zero, List.set_cons_succ]
          refine pu 5 20 ?_
          refine pu 6 26 ?_
          refine pu 7 27 ?_
          refine pu 8 28 ?_
          refine rdo [9] (by simp) (List.forall_mem_cons.2 ⟨?_, List.forall_mem_nil _⟩)
          · refine rn 6 S (fun g6 w2 S => ⟨S.kpq 3, ?_⟩)
            refine lsd 11 3 S (fun w2 S => ?_)
            refine lsd 12 3 S (fun w2 S => ?_)
            refine pu 13 8 ?_
            refine dn ?_
            replace S := S.pick 0 rfl rfl
            replace S := S.pick 2 rfl rfl
            replace S := S.pick 2 rfl rfl
            have hj := hJ (g6, g7, B3, d3, B4, d4) _ S
            simp only [putAll, Act.put, List.setIfInBounds_toArray, List.set_cons_zero, List.set_cons_succ] at hj
            exact hj
        · refine rn 6 S (fun g6 w2 S => ⟨S.kpq 2, ?_⟩)
          refine rdo [4] (by simp) (List.forall_mem_cons.2 ⟨?_, List.forall_mem_nil _⟩)
          · refine rc 25 Tryd.func27 (HV _ S.below).out (fun r' w2 hT => ?_)
            obtain ⟨B3, d3, B4, d4, rfl, hM, hb⟩ := TrV.openV hT
            replace S := S.push (a := .made k37 _ _) hb hM
            dsimp only at S
            refine ⟨_, rfl, S.kpq 3, _, rfl, ?_⟩
            simp only [Act.put, List.setIfInBounds_toArray, List.set_cons_zero, List.set_cons_succ]
            refine pu 5 20 ?_
            refine pu 6 26 ?_
            refine pu 7 27 ?_
            refine pu 8 28 ?_
            refine lsd 11 3 S (fun w2 S => ?_)
            refine lsd 12 3 S (fun w2 S => ?_)
            refine pu 13 8 ?_
            refine dn ?_
            replace S := S.pick 1 rfl rfl
            replace S := S.pick 2 rfl rfl
            replace S := S.pick 2 rfl rfl
            have hj := hJ (g6, g7, B3, d3, B4, d4) _ S
            simp only [putAll, Act.put, List.setIfInBounds_toArray, List.set_cons_zero, List.set_cons_succ] at hj
            exact hj
      · refine rn 6 S (fun g6 w2 S => ⟨S.kpq 2, ?_⟩)
        refine rdo [3] (by simp) (List.forall_mem_cons.2 ⟨?_, List.forall_mem_nil _⟩)
        · refine rc 24 Tryd.func28 (HS _).out (fun r' w2 hT => ?_)
          obtain ⟨rfl, hb⟩ := hT
          replace S := S.call hb
          refine ⟨_, rfl, S.kpq 2, _, rfl, ?_⟩
          simp only [Act.put, List.setIfInBounds_toArray, List.set_cons_zero, List.set_cons_succ]
          refine rdo [4] (by simp) (List.forall_mem_cons.2 ⟨?_, List.forall_mem_nil _⟩)
          · refine rc 25 Tryd.func27 (HV _ S.below).out (fun r' w2 hT => ?_)
            obtain ⟨B3, d3, B4, d4, rfl, hM, hb⟩ := TrV.openV hT
            replace S := S.push (a := .made k37 _ _) hb hM
            dsimp only at S
            refine ⟨_, rfl, S.kpq 3, _, rfl, ?_⟩
            simp only [Act.put, List.setIfInBounds_toArray, List.set_cons_zero, List.set_cons_succ]
            refine pu 5 20 ?_
            refine pu 6 26 ?_
            refine pu 7 27 ?_
            refine pu 8 28 ?_
            refine lsd 11 3 S (fun w2 S => ?_)
            refine lsd 12 3 S (fun w2 S => ?_)
            refine pu 13 8 ?_
            refine dn ?_
            replace S := S.pick 1 rfl rfl
            replace S := S.pick 2 rfl rfl
            replace S := S.pick 2 rfl rfl
            have hj := hJ (g6, g7, B3, d3, B4, d4) _ S
            simp only [putAll, Act.put, List.setIfInBounds_toArray, List.set_cons_zero, List.set_cons_succ] at hj
            exact hj
  · obtain ⟨ad, A0, c0, rfl, hv⟩ := HX.out 0 (by omega)
    have h2 : ((G.length : Int) > 0) := by omega
    have hv0 : ad.add 0 = ad := rfl
    rw [hv0] at hv
    have h5 : (((sgG G ((0 : Nat) : Int)).length : Int) == 0) = false := beq_eq_false_iff_ne.2 (fun h => h0 ⟨h1, by simpa using h⟩)
    generalize (sgG G ((0 : Nat) : Int)).length = k at *
    clear h0 hv0 h1
    go_enter Tryd.func16, Tryd.ntmps16
    go_wp2_with (first | go_skip | ((with_reducible refine wl ?_); first | (refine sn S (fun g w1 S => ?_); first | ((fail_if_success (have := g3)); revert g; intro g3 S) | ((fail_if_success (have := g4)); revert g; intro g4 S)) | refine ss S (fun w1 S => ?_) | refine sl S ?_ | refine sa S ?_ | refine sx S hv ?_))
    refine jn (fun (s : Nat × Nat × Option Addr × Nat × Option Addr × Nat) w' => Sep w w' [.made k37 ⟨f0, f1, f2, f3, f4⟩ [.int .i64 f0, .int .i64 f1, .int .i64 f2, .slice s.2.2.1 f3.length s.2.2.2.1, .slice s.2.2.2.2.1 f4.length s.2.2.2.2.2], .box s.2.1 #[.int .i64 m'] 52, .box s.1 [.int .i64 f0, .int .i64 f1, .int .i64 f2, .slice s.2.2.1 f3.length s.2.2.2.1, .slice s.2.2.2.2.1 f4.length s.2.2.2.2.2].toArray 37, .box g4 #[.int .i64 0, .int .i64 0, .int .i64 0, .slice none 0 0, .slice none 0 0] 37, .box g3 #[.int .i64 D, .int .i64 Wd, .int .i64 O] 24]) (fun s => [(21, .slice (some ad) G.length cp), (22, limV D Wd O), (23, limV D Wd O), (24, .agg #[.int .i64 m]), (25, .tuple #[.agg #[.int .i64 f0, .int .i64 f1, .int .i64 f2, .slice s.2.2.1 f3.length s.2.2.2.1, .slice s.2.2.2.2.1 f4.length s.2.2.2.2.2], .agg #[.int .i64 m'], .int .i64 e']), (20, .tuple #[.agg #[.int .i64 f0, .int .i64 f1, .int .i64 f2, .slice s.2.2.1 f3.length s.2.2.2.1, .slice s.2.2.2.2.1 f4.length s.2.2.2.2.2], .agg #[.int .i64 m'], .int .i64 e']), (26, .agg #[.int .i64 f0, .int .i64 f1, .int .i64 f2, .slice s.2.2.1 f3.length s.2.2.2.1, .slice s.2.2.2.2.1 f4.length s.2.2.2.2.2]), (27, .agg #[.int .i64 m']), (28, .int .i64 e'), (6, .pointer (some ⟨s.1, 0, none⟩)), (7, .pointer (some ⟨s.2.1, 0, none⟩)), (8, .int .i64 e')]) (fun s w' S => ?_) (fun hJ => ?_)
    · obtain ⟨g6, g7, B3, d3, B4, d4⟩ := s
      dsimp only at S
      simp only [putAll, Act.put, List.setIfInBounds_toArray, List.set_cons_zero, List.set_cons_succ]
      by_cases he : e' ≠ 0
      · replace HR := Lib.hid (HR.out.trans (if_pos he))
        have t1 : (e' != 0) = true := bne_iff_ne.2 he
        clear he HG HN
        go_wp2_with (first | go_skip | ((with_reducible refine wl ?_); first | refine sn S (fun g w1 S => ?_) | refine ss S (fun w1 S => ?_) | refine sl S ?_ | refine sa S ?_))
        have S1 := ((S.nil k37 37).nil (Kd.int .u8) 5).node (f0 := 0) (f1 := 0) (f2 := 0)
        have HR := HR.out
        subst HR
        exact rt S ⟨_, _, rfl, S1.out .here, S.below⟩
      · replace HR := Lib.hid (HR.out.trans (if_neg he))
        obtain rfl : e' = 0 := by omega
        obtain ⟨hg1, hg2⟩ := HG.out rfl
        have HT := fun w' (h : k37.K w' ⟨f0, f1, f2, f3, f4⟩ [.int .i64 f0, .int .i64 f1, .int .i64 f2, .slice B3 f3.length d3, .slice B4 f4.length d4]) => Lib.hid (trim_opn ⟨f0, f1, f2, f3, f4⟩ hg2 (by have := HN.out; dsimp only at hg1; omega) w' h)
        clear hg1 hg2 HG HN he
        generalize ttrim ⟨f0, f1, f2, f3, f4⟩ = z at *
        obtain ⟨z0, z1, z2, z3, z4⟩ := z
        dsimp only at HT
        go_wp2_with (first | go_skip | ((with_reducible refine wl ?_); first | refine sn S (fun g w1 S => ?_) | refine ss S (fun w1 S => ?_) | refine sl S ?_ | refine sa S ?_) | ((with_reducible refine (HT _ (k37.K_of_M (S.out .here))).out.mono ?_); rintro r' w' ⟨C3, d5, C4, d6, rfl, hM, hb⟩; replace S := S.push (a := .made k37 _ _) hb hM))
        have HR := HR.out
        subst HR
        exact rt S ⟨_, _, rfl, S.out .here, S.below⟩
    refine rs [1] S (fun w1 S => ?_)
    refine pu 0 21 ?_
    refine lt 1 S ?_
    refine lt 2 S ?_
    refine rdo [3, 9, 10] (by simp) (List.forall_mem_cons.2 ⟨?_, List.forall_mem_cons.2 ⟨?_, List.forall_mem_cons.2 ⟨?_, List.forall_mem_nil _⟩⟩⟩)
    · refine rc 24 Tryd.func28 (HS _).out (fun r' w2 hT => ?_)
      obtain ⟨rfl, hb⟩ := hT
      replace S := S.call hb
      refine ⟨_, rfl, S.kpq 0, _, rfl, ?_⟩
      simp only [Act.put, List.setIfInBounds_toArray, List.set_cons_zero, List.set_cons_succ]
      refine rdo [4, 9, 10] (by simp) (List.forall_mem_cons.2 ⟨?_, List.forall_mem_cons.2 ⟨?_, List.forall_mem_cons.2 ⟨?_, List.forall_mem_nil _⟩⟩⟩)
      · refine rc 25 Tryd.func27 (HV _ S.below).out (fun r' w2 hT => ?_)
        obtain ⟨B3, d3, B4, d4, rfl, hM, hb⟩ := TrV.openV hT
        replace S := S.push (a := .made k37 _ _) hb hM
        dsimp only at S
        refine ⟨_, rfl, S.kpq 1, _, rfl, ?_⟩
        simp only [Act.put, List.setIfInBounds_toArray, List.set_cons_zero, List.set_cons_succ]
        refine pu 5 20 ?_
        refine pu 6 26 ?_
        refine pu 7 27 ?_
        refine pu 8 28 ?_
        refine rdo [9, 10] (by simp) (List.forall_mem_cons.2 ⟨?_, List.forall_mem_cons.2 ⟨?_, List.forall_mem_nil _⟩⟩)
        · refine rn 6 S (fun g6 w2 S => ⟨S.kpq 2, ?_⟩)
          refine rdo [10] (by simp) (List.forall_mem_cons.2 ⟨?_, List.forall_mem_nil _⟩)
          · refine rn 7 S (fun g7 w2 S => ⟨S.kpq 3, ?_⟩)
            refine lsd 11 3 S (fun w2 S => ?_)
            refine lsd 12 3 S (fun w2 S => ?_)
            refine pu 13 8 ?_
            refine dn ?_
            replace S := S.pick 1 rfl rfl
            replace S := S.pick 1 rfl rfl
            replace S := S.pick 2 rfl rfl
            have hj := hJ (g6, g7, B3, d3, B4, d4) _ S
            simp only [putAll, Act.put, List.setIfInBounds_toArray, List.set_cons_zero, List.set_cons_succ] at hj
            exact hj
        · refine rn 7 S (fun g7 w2 S => ⟨S.kpq 2, ?_⟩)
          refine rdo [9] (by simp) (List.forall_mem_cons.2 ⟨?_, List.forall_mem_nil _⟩)
          · refine rn 6 S (fun g6 w2 S => ⟨S.kpq 3, ?_⟩)
            refine lsd 11 3 S (fun w2 S => ?_)
            refine lsd 12 3 S (fun w2 S => ?_)
            refine pu 13 8 ?_
            refine dn ?_
            replace S := S.pick 0 rfl rfl
            replace S := S.pick 1 rfl rfl
            replace S := S.pick 2 rfl rfl
            have hj := hJ (g6, g7, B3, d3, B4, d4) _ S
            simp only [putAll, Act.put, List.setIfInBounds_toArray, List.set_cons_zero, List.set_cons_succ] at hj
            exact hj
      · refine rn 6 S (fun g6 w2 S => ⟨S.kpq 1, ?_⟩)
        refine rdo [4, 10] (by simp) (List.forall_mem_cons.2 ⟨?_, List.forall_mem_cons.2 ⟨?_, List.forall_mem_nil _⟩⟩)
        · refine rc 25 Tryd.func27 (HV _ S.below).out (fun r' w2 hT => ?_)
          obtain ⟨B3, d3, B4, d4, rfl, hM, hb⟩ := TrV.openV hT
          replace S := S.push (a := .made k37 _ _) hb hM
          dsimp only at S
          refine ⟨_, rfl, S.kpq 2, _, rfl, ?_⟩
          simp only [Act.put, List.setIfInBounds_toArray, List.set_cons_zero, List.set_cons_succ]
          refine pu 5 20 ?_
          refine pu 6 26 ?_
          refine pu 7 27 ?_
          refine pu 8 28 ?_
          refine rdo [10] (by simp) (List.forall_mem_cons.2 ⟨?_, List.forall_mem_nil _⟩)
          · refine rn 7 S (fun g7 w2 S => ⟨S.kpq 3, ?_⟩)
            refine lsd 11 3 S (fun w2 S => ?_)
            refine lsd 12 3 S (fun w2 S => ?_)
            refine pu 13 8 ?_
            refine dn ?_
            replace S := S.pick 2 rfl rfl
            replace S := S.pick 1 rfl rfl
            replace S := S.pick 2 rfl rfl
            have hj := hJ (g6, g7, B3, d3, B4, d4) _ S
            simp only [putAll, Act.put, List.setIfInBounds_toArray, List.set_cons_zero, List.set_cons_succ] at hj
            exact hj
        · refine rn 7 S (fun g7 w2 S => ⟨S.kpq 2, ?_⟩)
          refine rdo [4] (by simp) (List.forall_mem_cons.2 ⟨?_, List.forall_mem_nil _⟩)
          · refine rc 25 Tryd.func27 (HV _ S.below).out (fun r' w2 hT => ?_)
            obtain ⟨B3, d3, B4, d4, rfl, hM, hb⟩ := TrV.openV hT
            replace S := S.push (a := .made k37 _ _) hb hM
            dsimp only at S
            refine ⟨_, rfl, S.kpq 3, _, rfl, ?_⟩
            simp only [Act.put, List.setIfInBounds_toArray, List.set_cons_zero, List.set_cons_succ]
            refine pu 5 20 ?_
            refine pu 6 26 ?_
            refine pu 7 27 ?_
            refine pu 8 28 ?_
            refine lsd 11 3 S (fun w2 S => ?_)
            refine lsd 12 3 S (fun w2 S => ?_)
            refine pu 13 8 ?_
            refine dn ?_
            replace S := S.pick 2 rfl rfl
            replace S := S.pick 2 rfl rfl
            replace S := S.pick 2 rfl rfl
            have hj := hJ (g6, g7, B3, d3, B4, d4) _ S
            simp only [putAll, Act.put, List.setIfInBounds_toArray, List.set_cons_zero, List.set_cons_succ] at hj
            exact hj
      · refine rn 7 S (fun g7 w2 S => ⟨S.kpq 1, ?_⟩)
        refine rdo [4, 9] (by simp) (List.forall_mem_cons.2 ⟨?_, List.forall_mem_cons.2 ⟨?_, List.forall_mem_nil _⟩⟩)
        · refine rc 25 Tryd.func27 (HV _ S.below).out (fun r' w2 hT => ?_)
          obtain ⟨B3, d3, B4, d4, rfl, hM, hb⟩ := TrV.openV hT
          replace S := S.push (a := .made k37 _ _) hb hM
          dsimp only at S
          refine ⟨_, rfl, S.kpq 2, _, rfl, ?_⟩
          simp only [Act.put, List.setIfInBounds_toArray, List.set_cons_zero, List.set_cons_succ]
          refine pu 5 20 ?_
          refine pu 6 26 ?_
          refine pu 7 27 ?_
          refine pu 8 28 ?_
          refine rdo [9] (by simp) (List.forall_mem_cons.2 ⟨?_, List.forall_mem_nil _⟩)
          · refine rn 6 S (fun g6 w2 S => ⟨S.kpq 3, ?_⟩)
            refine lsd 11 3 S (fun w2 S => ?_)
            refine lsd 12 3 S (fun w2 S => ?_)
            refine pu 13 8 ?_
            refine dn ?_
            replace S := S.pick 0 rfl rfl
            replace S := S.pick 2 rfl rfl
            replace S := S.pick 2 rfl rfl
            have hj := hJ (g6, g7, B3, d3, B4, d4) _ S
            simp only [putAll, Act.put, List.setIfInBounds_toArray, List.set_cons_zero, List.set_cons_succ] at hj
            exact hj
        · refine rn 6 S (fun g6 w2 S => ⟨S.kpq 2, ?_⟩)
          refine rdo [4] (by simp) (List.forall_mem_cons.2 ⟨?_, List.forall_mem_nil _⟩)
          · refine rc 25 Tryd.func27 (HV _ S.below).out (fun r' w2 hT => ?_)
            obtain ⟨B3, d3, B4, d4, rfl, hM, hb⟩ := TrV.openV hT
            replace S := S.push (a := .made k37 _ _) hb hM
            dsimp only at S
            refine ⟨_, rfl, S.kpq 3, _, rfl, ?_⟩
            simp only [Act.put, List.setIfInBounds_toArray, List.set_cons_zero, List.set_cons_succ]
            refine pu 5 20 ?_
            refine pu 6 26 ?_
            refine pu 7 27 ?_
            refine pu 8 28 ?_
            refine lsd 11 3 S (fun w2 S => ?_)
            refine lsd 12 3 S (fun w2 S => ?_)
            refine pu 13 8 ?_
            refine dn ?_
            replace S := S.pick 1 rfl rfl
            replace S := S.pick 2 rfl rfl
            replace S := S.pick 2 rfl rfl
            have hj := hJ (g6, g7, B3, d3, B4, d4) _ S
            simp only [putAll, Act.put, List.setIfInBounds_toArray, List.set_cons_zero, List.set_cons_succ] at hj
            exact hj
    · refine rn 6 S (fun g6 w2 S => ⟨S.kpq 1, ?_⟩)
      refine rdo [3, 10] (by simp) (List.forall_mem_cons.2 ⟨?_, List.forall_mem_cons.2 ⟨?_, List.forall_mem_nil _⟩⟩)
      · refine rc 24 Tryd.func28 (HS _).out (fun r' w2 hT => ?_)
        obtain ⟨rfl, hb⟩ := hT
        replace S := S.call hb
        refine ⟨_, rfl, S.kpq 1, _, rfl, ?_⟩
        simp only [Act.put, List.setIfInBounds_toArray, List.set_cons_zero, List.set_cons_succ]
        refine rdo [4, 10] (by simp) (List.forall_mem_cons.2 ⟨?_, List.forall_mem_cons.2 ⟨?_, List.forall_mem_nil _⟩⟩)
        · refine rc 25 Tryd.func27 (HV _ S.below).out (fun r' w2 hT => ?_)
          obtain ⟨B3, d3, B4, d4, rfl, hM, hb⟩ := TrV.openV hT
          replace S := S.push (a := .made k37 _ _) hb hM
          dsimp only at S
          refine ⟨_, rfl, S.kpq 2, _, rfl, ?_⟩
          simp only [Act.put, List.setIfInBounds_toArray, List.set_cons_zero, List.set_cons_succ]
          refine pu 5 20 ?_
          refine pu 6 26 ?_
          refine pu 7 27 ?_
          refine pu 8 28 ?_
          refine rdo [10] (by simp) (List.forall_mem_cons.2 ⟨?_, List.forall_mem_nil _⟩)
          · refine rn 7 S (fun g7 w2 S => ⟨S.kpq 3, ?_⟩)
            refine lsd 11 3 S (fun w2 S => ?_)
            refine lsd 12 3 S (fun w2 S => ?_)
            refine pu 13 8 ?_
            refine dn ?_
            replace S := S.pick 2 rfl rfl
            replace S := S.pick 1 rfl rfl
            replace S := S.pick 2 rfl rfl
            have hj := hJ (g6, g7, B3, d3, B4, d4) _ S
            simp only [putAll, Act.put, List.setIfInBounds_toArray, List.set_cons_zero, List.set_cons_succ] at hj
            exact hj
        · refine rn 7 S (fun g7 w2 S => ⟨S.kpq 2, ?_⟩)
          refine rdo [4] (by simp) (List.forall_mem_cons.2 ⟨?_, List.forall_mem_nil _⟩)
          · refine rc 25 Tryd.func27 (HV _ S.below).out (fun r' w2 hT => ?_)
            obtain ⟨B3, d3, B4, d4, rfl, hM, hb⟩ := TrV.openV hT
            replace S := S.push (a := .made k37 _ _) hb hM
            dsimp only at S
            refine ⟨_, rfl, S.kpq 3, _, rfl, ?_⟩
            simp only [Act.put, List.setIfInBounds_toArray, List.set_cons_zero, List.set_cons_succ]
            refine pu 5 20 ?_
            refine pu 6 26 ?_
            refine pu 7 27 ?_
            refine pu 8 28 ?_
            refine lsd 11 3 S (fun w2 S => ?_)
            refine lsd 12 3 S (fun w2 S => ?_)
            refine pu 13 8 ?_
            refine dn ?_
            replace S := S.pick 2 rfl rfl
            replace S := S.pick 2 rfl rfl
            replace S := S.pick 2 rfl rfl
            have hj := hJ (g6, g7, B3, d3, B4, d4) _ S
            simp only [putAll, Act.put, List.setIfInBounds_toArray, List.set_cons_zero, List.set_cons_succ] at hj
            exact hj
      · refine rn 7 S (fun g7 w2 S => ⟨S.kpq 2, ?_⟩)
        refine rdo [3] (by simp) (List.forall_mem_cons.2 ⟨?_, List.forall_mem_nil _⟩)
        · refine rc 24 Tryd.func28 (HS _).out (fun r' w2 hT => ?_)
          obtain ⟨rfl, hb⟩ := hT
          replace S := S.call hb
          refine ⟨_, rfl, S.kpq 2, _, rfl, ?_⟩
          simp only [Act.put, List.setIfInBounds_toArray, List.set_cons_zero, List.set_cons_succ]
          refine rdo [4] (by simp) (List.forall_mem_cons.2 ⟨?_, List.forall_mem_nil _⟩)
          · refine rc 25 Tryd.func27 (HV _ S.below).out (fun r' w2 hT => ?_)
            obtain ⟨B3, d3, B4, d4, rfl, hM, hb⟩ := TrV.openV hT
            replace S := S.push (a := .made k37 _ _) hb hM
            dsimp only at S
            refine ⟨_, rfl, S.kpq 3, _, rfl, ?_⟩
            simp only [Act.put, List.setIfInBounds_toArray, List.set_cons_zero, List.set_cons_succ]
            refine pu 5 20 ?_
            refine pu 6 26 ?_
            refine pu 7 27 ?_
            refine pu 8 28 ?_
            refine lsd 11 3 S (fun w2 S => ?_)
            refine lsd 12 3 S (fun w2 S => ?_)
            refine pu 13 8 ?_
            refine dn ?_
            replace S := S.pick 2 rfl rfl
            replace S := S.pick 2 rfl rfl
            replace S := S.pick 2 rfl rfl
            have hj := hJ (g6, g7, B3, d3, B4, d4) _ S
            simp only [putAll, Act.put, List.setIfInBounds_toArray, List.set_cons_zero, List.set_cons_succ] at hj
            exact hj
    · refine rn 7 S (fun g7 w2 S => ⟨S.kpq 1, ?_⟩)
      refine rdo [3, 9] (by simp) (List.forall_mem_cons.2 ⟨?_, List.forall_mem_cons.2 ⟨?_, List.forall_mem_nil _⟩⟩)
      · refine rc 24 Tryd.func28 (HS _).out (fun r' w2 hT => ?_)
        obtain ⟨rfl, hb⟩ := hT
        replace S := S.call hb
        refine ⟨_, rfl, S.kpq 1, _, rfl, ?_⟩
        simp only [Act.put, List.setIfInBounds_toArray, List.set_cons_zero, List.set_cons_succ]
        refine rdo [4, 9] (by simp) (List.forall_mem_cons.2 ⟨?_, List.forall_mem_cons.2 ⟨?_, List.forall_mem_nil _⟩⟩)
        · refine rc 25 Tryd.func27 (HV _ S.below).out (fun r' w2 hT => ?_)
          obtain ⟨B3, d3, B4, d4, rfl, hM, hb⟩ := TrV.openV hT
          replace S := S.push (a := .made k37 _ _) hb hM
          dsimp only at S
          refine ⟨_, rfl, S.kpq 2, _, rfl, ?_⟩
          simp only [Act.put, List.setIfInBounds_toArray, List.set_cons_zero, List.set_cons_succ]
          refine pu 5 20 ?_
          refine pu 6 26 ?_
          refine pu 7 27 ?_
          refine pu 8 28 ?_
          refine rdo [9] (by simp) (List.forall_mem_cons.2 ⟨?_, List.forall_mem_nil _⟩)
          · refine rn 6 S (fun g6 w2 S => ⟨S.kpq 3, ?_⟩)
            refine lsd 11 3 S (fun w2 S => ?_)
            refine lsd 12 3 S (fun w2 S => ?_)
            refine pu 13 8 ?_
            refine dn ?_
            replace S := S.pick 0 rfl rfl
            replace S := S.pick 2 rfl rfl
            replace S := S.pick 2 rfl rfl
            have hj := hJ (g6, g7, B3, d3, B4, d4) _ S
            simp only [putAll, Act.put, List.setIfInBounds_toArray, List.set_cons_zero, List.set_cons_succ] at hj
            exact hj
        · refine rn 6 S (fun g6 w2 S => ⟨S.kpq 2, ?_⟩)
          refine rdo [4] (by simp) (List.forall_mem_cons.2 ⟨?_, List.forall_mem_nil _⟩)
          · refine rc 25 Tryd.func27 (HV _ S.below).out (fun r' w2 hT => ?_)
            obtain ⟨B3, d3, B4, d4, rfl, hM, hb⟩ := TrV.openV hT
            replace S := S.push (a := .made k37 _ _) hb hM
            dsimp only at S
            refine ⟨_, rfl, S.kpq 3, _, rfl, ?_⟩
            simp only [Act.put, List.setIfInBounds_toArray, List.set_cons_zero, List.set_cons_succ]
            refine pu 5 20 ?_
            refine pu 6 26 ?_
            refine pu 7 27 ?_
            refine pu 8 28 ?_
            refine lsd 11 3 S (fun w2 S => ?_)
            refine lsd 12 3 S (fun w2 S => ?_)
            refine pu 13 8 ?_
            refine dn ?_
            replace S := S.pick 1 rfl rfl
            replace S := S.pick 2 rfl rfl
            replace S := S.pick 2 rfl rfl
            have hj := hJ (g6, g7, B3, d3, B4, d4) _ S
            simp only [putAll, Act.put, List.setIfInBounds_toArray, List.set_cons_zero, List.set_cons_succ] at hj
            exact hj
      · refine rn 6 S (fun g6 w2 S => ⟨S.kpq 2, ?_⟩)
        refine rdo [3] (by simp) (List.forall_mem_cons.2 ⟨?_, List.forall_mem_nil _⟩)
        · refine rc 24 Tryd.func28 (HS _).out (fun r' w2 hT => ?_)
          obtain ⟨rfl, hb⟩ := hT
          replace S := S.call hb
          refine ⟨_, rfl, S.kpq 2, _, rfl, ?_⟩
          simp only [Act.put, List.setIfInBounds_toArray, List.set_cons_zero, List.set_cons_succ]
          refine rdo [4] (by simp) (List.forall_mem_cons.2 ⟨?_, List.forall_mem_nil _⟩)
          · refine rc 25 Tryd.func27 (HV _ S.below).out (fun r' w2 hT => ?_)
            obtain ⟨B3, d3, B4, d4, rfl, hM, hb⟩ := TrV.openV hT
            replace S := S.push (a := .made k37 _ _) hb hM
            dsimp only at S
            refine ⟨_, rfl, S.kpq 3, _, rfl, ?_⟩
            simp only [Act.put, List.setIfInBounds_toArray, List.set_cons_zero, List.set_cons_succ]
            refine pu 5 20 ?_
            refine pu 6 26 ?_
            refine pu 7 27 ?_
            refine pu 8 28 ?_
            refine lsd 11 3 S (fun w2 S => ?_)
            refine lsd 12 3 S (fun w2 S => ?_)
            refine pu 13 8 ?_
            refine dn ?_
            replace S := S.pick 1 rfl rfl
            replace S := S.pick 2 rfl rfl
            replace S := S.pick 2 rfl rfl
            have hj := hJ (g6, g7, B3, d3, B4, d4) _ S
            simp only [putAll, Act.put, List.setIfInBounds_toArray, List.set_cons_zero, List.set_cons_succ] at hj
            exact hj
end Go.Proofs.YtidglmocekghmaaDoor.Pr
end
section
namespace Go.Proofs.YtidglmocekghmaaDoor.Pr
set_option linter.unusedSimpArgs false
open Go.RowKit Go.Proofs.YtidglmocekghmaaDoorW.PrintWords Go.Proofs.YtidglmocekghmaaDoorW.PrintLast Go.Proofs.YtidglmocekghmaaDoorW.PrintMore
set_option linter.unusedVariables false
structure EnvS (w : World) (ad : Addr) (cp : Nat) (s : List Int) : Prop where
 rd : (Kd.int .u64).C w (some ad) s.length s
 le : s.length ≤ cp
 len : s.length ≤ 17592186040320
 ok : ∀ x ∈ s, 0 ≤ x ∧ x < 18446744073709551616
theorem EnvS.below {w w' : World} {ad : Addr} {cp : Nat} {s : List Int} (h : EnvS w ad cp s) (hb : Below w.heap.size w w') : EnvS w' ad cp s := ⟨Kd.C_below h.rd hb, h.le, h.len, h.ok⟩
theorem EnvS.at_ {w : World} {ad : Addr} {cp : Nat} {s : List Int} (h : EnvS w ad cp s) (i : Nat) (hi : i < s.length) : AtS w ad i (wd s i) := by
 obtain ⟨a0, c, e0, _, hK, hcc⟩ := Kd.C_get h.rd (0 : Int) i (by omega) (Int.ofNat_lt.2 hi)
 obtain rfl : c = [.int .u64 (wd s i)] := hK
 injection e0 with e0
 subst e0
 have := hcc 0 _ rfl
 simpa [Kd.int, Kd.scalar] using this
def Okv (s : List Int) (f a : Nat) : Prop := ∃ m : Nat, (valR [s] f 0 a m).2.2 = 0
theorem vis_bd {s : List Int} {f a nx r : Nat} (h : Okv s f a) (ha : a < s.length) (hn : nx ≤ s.length) (hr : visV s f a nx = some r) : r ≤ s.length := by
 obtain ⟨m, hm⟩ := h
 have h1 := agr_vis s f a nx m ha hn
 rw [if_pos hm, hr] at h1
 exact (visM_in s f a nx m _ h1 hn).2.1
theorem vptrs_bd {V : Nat → Nat → Option Nat} {n : Nat} : ∀ {p i e r : Nat}, (∀ j, j < p → ∀ e, e ≤ n → ∀ r, V (i + j) e = some r → r ≤ n) → e ≤ n → vptrs V p i e = some r → r ≤ n
 | 0, i, e, r, _, he, h => by
  simp only [vptrs, Option.some.injEq] at h
  omega
 | p + 1, i, e, r, hV, he, h => by
  rw [vptrs] at h
  cases hq : V i e with
  | none => rw [hq] at h; cases h
  | some q =>
   rw [hq] at h
   exact vptrs_bd (p := p) (i := i + 1) (e := q) (fun j hj e he r hr => hV (j + 1) (by omega) e he r (by rw [show i + (j + 1) = i + 1 + j by omega]; exact hr)) (hV 0 (by omega) e he q hq) h
theorem kidsR_ok {v : Int → Int → Tr} (hs : Sinks v) : ∀ (n : Nat) (a m : Int), 0 ≤ m → (kidsR v n a m).2.2 = 0 → ∀ i : Nat, i < n → ∃ m' : Nat, (v (a + i) m').2.2 = 0
 | 0, _, _, _, _, i, hi => by omega
 | n + 1, a, m, hm, h, i, hi => by
  revert h
  unfold kidsR
  split
  ·rename_i he
   intro h
   exact (he h).elim
  ·rename_i he
   intro h
   match i with
   | 0 => exact ⟨m.toNat, by rw [show ((m.toNat : Nat) : Int) = m by omega]; simpa using he⟩
   | i + 1 =>
    obtain ⟨m', hm'⟩ := kidsR_ok hs n (a + 1) _ (hs a m hm).1 h i (by omega)
    exact ⟨m', by rw [show a + ((i + 1 : Nat) : Int) = a + 1 + i by omega]; exact hm'⟩
theorem ok_obj {s : List Int} {f a m : Nat} (ha : a < s.length) (h0 : wd s a ≠ 0) (hk : kindW (wd s a) ≠ 2) (h : (valR [s] (f + 1) 0 a m).2.2 = 0) : (objG [s] 0 a).2 = 0 ∧ 0 ≤ (m : Int) - (objG [s] 0 a).1.c ∧ (bodR [s] (valR [s] f) (objG [s] 0 a).1 ((m : Int) - (objG [s] 0 a).1.c)).2.2 = 0 := by
 rw [valR_obj ha h0 hk] at h
 by_cases h1 : (objG [s] 0 a).2 ≠ 0
 ·rw [if_pos h1] at h
  exact (h1 h).elim
 ·rw [if_neg h1] at h
  by_cases h2 : (m : Int) < (objG [s] 0 a).1.c
  ·rw [if_pos h2] at h
   simp at h
  ·rw [if_neg h2] at h
   exact ⟨by simpa using h1, by omega, h⟩
theorem str_ok {s : List Int} {f a nx d p : Nat} (ha : a < s.length) (h0 : wd s a ≠ 0) (hk : kindW (wd s a) = 0) (hd : dataW (wd s a) = d) (hp : ptrsW (wd s a) = p) (hst : (a : Int) + 1 + offW (wd s a) = nx) (h : Okv s (f + 1) a) : nx + (d + p) ≤ s.length ∧ ∀ j, j < p → Okv s f (nx + d + j) := by
 obtain ⟨m, hm⟩ := h
 obtain ⟨h1, h2, h3⟩ := ok_obj ha h0 (by omega) hm
 have hO : objG [s] 0 a = if inG [s] 0 (nx : Int) ((d : Int) + p) = true then (⟨1, 0, nx, d, p, 0, 0, (d : Int) + p⟩, 0) else (Ob.z, 2) := by
  unfold objG desM
  rw [folM_one ha (by omega)]
  simp only [pO, pD, pP, hk, hd, hp, h0, hst, ne_eq, not_true_eq_false, if_false, if_true, show ((0 : Int) = 3) = False by simp, show ((0 : Int) ≤ 1) = True by simp]
 by_cases hi : inG [s] 0 (nx : Int) ((d : Int) + p) = true
 ·rw [if_pos hi] at hO
  rw [hO] at h2 h3
  rw [inG_one, decide_eq_true_eq] at hi
  refine ⟨by omega, fun j hj => ?_⟩
  unfold bodR at h3
  rw [if_pos rfl, strR_2] at h3
  dsimp only at h3 h2
  rw [Int.toNat_natCast] at h3
  obtain ⟨m', hm'⟩ := kidsR_ok (valR_sinks [s] f 0) p _ _ h2 h3 j hj
  exact ⟨m', by rw [show ((nx + d + j : Nat) : Int) = (nx : Int) + d + j by omega]; exact hm'⟩
 ·rw [if_neg hi] at hO
  rw [hO] at h1
  simp at h1
theorem lst_ok {s : List Int} {f a nx c n : Nat} (ha : a < s.length) (h0 : wd s a ≠ 0) (hk : kindW (wd s a) = 1) (he : elemW (wd s a) ≠ 7) (hc : cntW (wd s a) = c) (hw : wordsE (elemW (wd s a)) c = n) (hst : (a : Int) + 1 + offW (wd s a) = nx) (h : Okv s (f + 1) a) : nx + n ≤ s.length ∧ (elemW (wd s a) = 6 → ∀ j, j < c → Okv s f (nx + j)) := by
 obtain ⟨m, hm⟩ := h
 obtain ⟨h1, h2, h3⟩ := ok_obj ha h0 (by omega) hm
 have hO : objG [s] 0 a = if inG [s] 0 (nx : Int) n = true then (⟨2, 0, nx, 0, 0, elemW (wd s a), c, n⟩, 0) else (Ob.z, 2) := by
  unfold objG desM
  rw [folM_one ha (by omega)]
  simp only [pO, pD, pP, pE, pC, hk, hc, h0, hst, hw, he, ne_eq, not_true_eq_false, not_false_eq_true, if_false, if_true, show ((1 : Int) = 3) = False by simp, show ((1 : Int) = 0) = False by simp, show ((1 : Int) ≤ 1) = True by simp]
  by_cases hi : inG [s] 0 (nx : Int) n = true <;> simp [hi]
 by_cases hi : inG [s] 0 (nx : Int) n = true
 ·rw [if_pos hi] at hO
  rw [hO] at h2 h3
  rw [inG_one, decide_eq_true_eq] at hi
  refine ⟨by omega, fun h6 j hj => ?_⟩
  unfold bodR at h3
  dsimp only at h3 h2
  rw [if_neg (by omega), if_neg (by omega), if_pos h6, Int.toNat_natCast] at h3
  have h4 : (kidsR (valR [s] f 0) c (nx : Int) ((m : Int) - n)).2.2 = 0 := by
   revert h3
   split
   ·exact fun h => h
   ·rename_i hh
    intro _
    simpa using hh
  obtain ⟨m', hm'⟩ := kidsR_ok (valR_sinks [s] f 0) c _ _ h2 h4 j hj
  exact ⟨m', by rw [show ((nx + j : Nat) : Int) = (nx : Int) + j by omega]; exact hm'⟩
 ·rw [if_neg hi] at hO
  rw [hO] at h1
  simp at h1
theorem cmp_ok {s : List Int} {f a nx c : Nat} (ha : a < s.length) (h0 : wd s a ≠ 0) (hk : kindW (wd s a) = 1) (he : elemW (wd s a) = 7) (hc : cntW (wd s a) = c) (hst : (a : Int) + 1 + offW (wd s a) = nx) (h : Okv s (f + 1) a) :
  nx + (c + 1) ≤ s.length ∧ ∃ (d p k : Nat) (cost : Int), dataW (wd s nx) = d ∧ ptrsW (wd s nx) = p ∧ offW (wd s nx) = k ∧ k * (d + p) ≤ c ∧ objG [s] 0 a = (⟨2, 0, (nx : Int) + 1, d, p, 7, k, cost⟩, 0) ∧ ∀ i, i < k → ∀ j, j < p → Okv s f (nx + 1 + i * (d + p) + d + j) := by
 obtain ⟨m, hm⟩ := h
 obtain ⟨h1, h2, h3⟩ := ok_obj ha h0 (by omega) hm
 have hI : inG [s] 0 (nx : Int) ((c : Int) + 1) = decide (nx + (c + 1) ≤ s.length) := by rw [inG_one]; congr 1; simp only [eq_iff_iff]; omega
 have hW : wordsE 7 (c : Int) = (c : Int) + 1 := rfl
 have hO : objG [s] 0 a = if nx + (c + 1) ≤ s.length then tagM 0 nx 7 ((c : Int) + 1) c (wdG [s] 0 nx) else (Ob.z, 2) := by
  unfold objG desM
  rw [folM_one ha (by omega)]
  simp only [pO, pD, pP, pE, pC, hk, he, hc, h0, hst, hW, hI, ne_eq, not_true_eq_false, if_false, if_true, show ((1 : Int) = 3) = False by simp, show ((1 : Int) = 0) = False by simp, show ((1 : Int) ≤ 1) = True by simp, decide_eq_false_iff_not]
  by_cases h3 : nx + (c + 1) ≤ s.length <;> simp [h3]
 by_cases hn : nx + (c + 1) ≤ s.length
 ·rw [if_pos hn, wdG_one (by omega) (by omega), Int.toNat_natCast] at hO
  refine ⟨hn, ?_⟩
  generalize wd s nx = t at *
  obtain ⟨d, hd⟩ := Int.eq_ofNat_of_zero_le (dataW_bd t).1
  obtain ⟨p, hp⟩ := Int.eq_ofNat_of_zero_le (ptrsW_bd t).1
  rw [hO] at h1
  revert h1
  have hO2 := hO
  revert hO2
  unfold tagM
  split
  ·intro _ h1; simp at h1
  rename_i hkt
  have hkt : kindW t = 0 := by omega
  have hpo : pO t = offW t := by unfold pO; rw [if_pos (by omega)]
  have hpd : pD t = d := by unfold pD; rw [if_pos hkt, hd]
  have hpp : pP t = p := by unfold pP; rw [if_pos hkt, hp]
  rw [hpo, hpd, hpp]
  split
  ·intro _ h1; simp at h1
  rename_i ho
  obtain ⟨k, hk1⟩ := Int.eq_ofNat_of_zero_le (show 0 ≤ offW t by omega)
  rw [hk1]
  split
  ·intro _ h1; simp at h1
  rename_i hkc
  have hkc' : k * (d + p) ≤ c := by
   have h5 : (k : Int) * ((d : Int) + p) ≤ c := by omega
   exact_mod_cast h5
  have fin : ∀ cost : Int, objG [s] 0 a = (⟨2, 0, (nx : Int) + 1, d, p, 7, k, cost⟩, 0) → ∃ (d' p' k' : Nat) (cost : Int), dataW t = d' ∧ ptrsW t = p' ∧ offW t = k' ∧ k' * (d' + p') ≤ c ∧ objG [s] 0 a = (⟨2, 0, (nx : Int) + 1, d', p', 7, k', cost⟩, 0) ∧ ∀ i, i < k' → ∀ j, j < p' → Okv s f (nx + 1 + i * (d' + p') + d' + j) := by
   intro cost hO3
   refine ⟨d, p, k, cost, hd, hp, hk1, hkc', hO3, fun i hi j hj => ?_⟩
   rw [hO3] at h3 h2
   unfold bodR at h3
   dsimp only at h3 h2
   rw [if_neg (by omega), if_neg (by omega), if_neg (by omega), Int.toNat_natCast, elsR_kids] at h3
   have h4 : (kidsR (fun i m => strR [s] (valR [s] f) (elG ⟨2, 0, (nx : Int) + 1, d, p, 7, k, cost⟩ i) m) k 0 ((m : Int) - cost)).2.2 = 0 := by
    revert h3
    split
    ·exact fun h => h
    ·rename_i hh
     intro _
     simpa using hh
   obtain ⟨m1, hm1⟩ := kidsR_ok (v := fun i m => strR [s] (valR [s] f) (elG ⟨2, 0, (nx : Int) + 1, d, p, 7, k, cost⟩ i) m) (fun i m h => strR_sinks [s] (valR_sinks [s] f) _ m h) k 0 _ h2 h4 i hi
   rw [Int.zero_add, strR_2] at hm1
   unfold elG at hm1
   dsimp only at hm1
   rw [Int.toNat_natCast] at hm1
   obtain ⟨m2, hm2⟩ := kidsR_ok (valR_sinks [s] f 0) p _ _ (by omega) hm1 j hj
   refine ⟨m2, ?_⟩
   rw [show ((nx + 1 + i * (d + p) + d + j : Nat) : Int) = (nx : Int) + 1 + (i : Int) * ((d : Int) + p) + d + j by push_cast; rfl]
   exact hm2
  split
  ·intro hO2 _
   obtain ⟨d', p', k', cost, e1, e2, e3, e4, e5, e6⟩ := fin _ hO2
   exact ⟨d', p', k', cost, e1, e2, hk1.symm.trans e3, e4, e5, e6⟩
  ·intro hO2 _
   obtain ⟨d', p', k', cost, e1, e2, e3, e4, e5, e6⟩ := fin _ hO2
   exact ⟨d', p', k', cost, e1, e2, hk1.symm.trans e3, e4, e5, e6⟩
 ·rw [if_neg hn] at hO
  rw [hO] at h1
  simp at h1
theorem visI_some (n : Nat) : visI (some n) = (n : Int) := rfl
end Go.Proofs.YtidglmocekghmaaDoor.Pr
end
section
namespace Go.Proofs.YtidglmocekghmaaDoor.Pr
theorem lays_append {s : List Int} : ∀ (l m : List S37) (a nx r : Nat), lays s (l ++ m) a nx r ↔ ∃ q, lays s l a nx q ∧ lays s m (a + l.length) q r
 | [], m, a, nx, r => by
  simp only [List.nil_append, lays, List.length_nil, Nat.add_zero]
  exact ⟨fun h => ⟨nx, rfl, h⟩, fun ⟨q, h1, h2⟩ => h1 ▸ h2⟩
 | x :: l, m, a, nx, r => by
  simp only [List.cons_append, lays, List.length_cons]
  rw [show a + (l.length + 1) = a + 1 + l.length by omega]
  constructor
  ·rintro ⟨q, h1, h2⟩
   obtain ⟨q2, h3, h4⟩ := (lays_append l m (a + 1) q r).1 h2
   exact ⟨q2, ⟨q, h1, h3⟩, h4⟩
  ·rintro ⟨q2, ⟨q, h1, h3⟩, h4⟩
   exact ⟨q, h1, (lays_append l m (a + 1) q r).2 ⟨q2, h3, h4⟩⟩
theorem lays_null {s : List Int} : ∀ (m : List S37) (a nx r : Nat), (∀ x ∈ m, x.f0 = 0) → lays s m a nx r → r = nx
 | [], a, nx, r, _, h => h
 | x :: m, a, nx, r, hx, h => by
  obtain ⟨q, h1, h2⟩ := h
  have h3 := lays_null m (a + 1) q r (fun y hy => hx y (List.mem_cons_of_mem _ hy)) h2
  obtain ⟨k, e, n, b, l⟩ := x
  have hk : k = 0 := hx _ List.mem_cons_self
  unfold lay at h1
  rw [if_pos hk] at h1
  omega
theorem ttrim_struct (e n : Int) (b : List Int) (kids : List S37) : ttrim ⟨1, e, n, b, kids⟩ = ⟨1, e, n, b.take (8 * twords b), (kids.take (keptN nullN kids)).map ttrim⟩ := by
 rw [ttrim_eq]
 rfl
theorem ttrim_list (e n : Int) (b : List Int) (kids : List S37) : ttrim ⟨2, e, n, b, kids⟩ = ⟨2, e, n, b, kids.map ttrim⟩ := by
 rw [ttrim_eq]
 rfl
theorem ttrim_null : ttrim ndZ = ndZ := by
 rw [ttrim_eq]
 rfl
theorem kept_zero {b : List Int} {i : Nat} (h : keptN zeroB b ≤ i) : b.getD i 0 = 0 := by
 obtain ⟨m, h1, h2, h3⟩ := keptN_parts zeroB b
 rw [h1, List.getD_eq_getElem?_getD, List.getElem?_append_right (by omega)]
 cases hq : m[i - (b.take (keptN zeroB b)).length]? with
 | none => rfl
 | some x =>
  have := h2 x (List.mem_of_getElem? hq)
  simpa [zeroB] using this
theorem cut_getD (b : List Int) (i : Nat) : (b.take (8 * twords b)).getD i 0 = b.getD i 0 := by
 rw [List.getD_eq_getElem?_getD, List.getElem?_take]
 split
 ·rw [List.getD_eq_getElem?_getD]
 ·rename_i h
  have := twords_ge b
  exact (kept_zero (by omega)).symm
theorem wordsB_cut (ws : List Int) (h : ∀ x ∈ ws, 0 ≤ x ∧ x < 18446744073709551616) : wordsB ws.length ((bytesL ws).take (8 * twords (bytesL ws))) = ws := by
 conv => rhs; rw [← wordsB_bytesL ws h]
 exact wordsB_eq _ (fun i _ => cut_getD _ i)
theorem bytesL_getD : ∀ (ws : List Int) (i j : Nat), i < ws.length → j < 8 → (bytesL ws).getD (8 * i + j) 0 = (bytesW (wd ws i)).getD j 0
 | [], i, j, h, _ => by simp at h
 | w :: ws, 0, j, h, hj => by
  rw [bytesL, List.getD_eq_getElem?_getD, List.getElem?_append_left (by rw [bytesW_len]; omega), List.getD_eq_getElem?_getD]
  simp [wd]
 | w :: ws, i + 1, j, h, hj => by
  have := bytesL_getD ws i j (by simpa using h) hj
  rw [bytesL, List.getD_eq_getElem?_getD, List.getElem?_append_right (by rw [bytesW_len]; omega), bytesW_len, show 8 * (i + 1) + j - 8 = 8 * i + j by omega, ← List.getD_eq_getElem?_getD, this]
  rfl
theorem twords_le_len (ws : List Int) : twords (bytesL ws) ≤ ws.length := by
 have := twords_le (bytesL ws) (by rw [bytesL_length]; omega)
 rw [bytesL_length] at this
 omega
theorem twords_last (ws : List Int) (h : ∀ x ∈ ws, 0 ≤ x ∧ x < 18446744073709551616) (hl : 0 < ws.length) (hz : wd ws (ws.length - 1) ≠ 0) : twords (bytesL ws) = ws.length := by
 have h1 := twords_le_len ws
 have h2 := twords_ge (bytesL ws)
 rcases Nat.lt_or_ge (twords (bytesL ws)) ws.length with hlt | hge
 ·exfalso
  apply hz
  have hb : ∀ j, j < 8 → (bytesW (wd ws (ws.length - 1))).getD j 0 = 0 := fun j hj => by
   rw [← bytesL_getD ws (ws.length - 1) j (by omega) hj]
   exact kept_zero (by omega)
  have hw : 0 ≤ wd ws (ws.length - 1) ∧ wd ws (ws.length - 1) < 18446744073709551616 := h _ (by
   unfold wd
   rw [List.getD_eq_getElem?_getD, List.getElem?_eq_getElem (by omega)]
   exact List.getElem_mem _)
  rw [← wordB_bytesW hw.1 hw.2]
  unfold wordB
  rw [hb 0 (by omega), hb 1 (by omega), hb 2 (by omega), hb 3 (by omega), hb 4 (by omega), hb 5 (by omega), hb 6 (by omega), hb 7 (by omega)]
  rfl
 ·omega
def LayP (s : List Int) (f : Nat) : Prop := ∀ (a nx r m : Nat), a < s.length → nx ≤ s.length → (valR [s] f 0 a m).2.2 = 0 → visV s f a nx = some r → lay s (ttrim (valR [s] f 0 a m).1) a nx r ∧ ((valR [s] f 0 a m).1.f0 = 0 ↔ wd s a = 0)
theorem kids_lay {s : List Int} {f : Nat} (H : LayP s f) : ∀ (p a nx r m : Nat), a + p ≤ s.length → nx ≤ s.length → (kidsR (valR [s] f 0) p a m).2.2 = 0 → vptrs (visV s f) p a nx = some r →
  lays s ((kidsR (valR [s] f 0) p a m).1.map ttrim) a nx r ∧ (kidsR (valR [s] f 0) p a m).1.length = p ∧ ∀ j (x : S37), (kidsR (valR [s] f 0) p a m).1[j]? = some x → (x.f0 = 0 ↔ wd s (a + j) = 0)
 | 0, a, nx, r, m, _, _, _, h => by
  simp only [vptrs, Option.some.injEq] at h
  exact ⟨h.symm, rfl, fun j x hx => by simp [kidsR] at hx⟩
 | p + 1, a, nx, r, m, ha, hn, he, h => by
  have hs := valR_sinks [s] f 0 a m (by omega)
  revert he
  unfold kidsR
  by_cases h1 : (valR [s] f 0 a m).2.2 ≠ 0
  ·rw [if_pos h1]
   intro he
   exact (h1 he).elim
  ·rw [if_neg h1]
   intro he
   have h1 : (valR [s] f 0 a m).2.2 = 0 := by simpa using h1
   rw [vptrs] at h
   cases hq : visV s f a nx with
   | none => rw [hq] at h; cases h
   | some q =>
    rw [hq] at h
    obtain ⟨i1, i2⟩ := H a nx q m (by omega) hn h1 hq
    have hqn := vis_bd ⟨m, h1⟩ (by omega) hn hq
    have e1 : (((valR [s] f 0 a m).2.1.toNat : Nat) : Int) = (valR [s] f 0 a m).2.1 := by omega
    have e2 : ((a + 1 : Nat) : Int) = (a : Int) + 1 := by omega
    dsimp only at he
    have := kids_lay H p (a + 1) q r (valR [s] f 0 a m).2.1.toNat (by omega) hqn (by rw [e1, e2]; exact he) h
    rw [e1, e2] at this
    obtain ⟨j1, j2, j3⟩ := this
    refine ⟨⟨q, i1, j1⟩, by simp [j2], fun j x hx => ?_⟩
    cases j with
    | zero =>
     simp only [List.getElem?_cons_zero, Option.some.injEq] at hx
     subst hx
     exact i2
    | succ j =>
     simp only [List.getElem?_cons_succ] at hx
     have := j3 j x hx
     rwa [show a + 1 + j = a + (j + 1) by omega] at this
theorem cut_lays {s : List Int} {a nx r : Nat} {kids : List S37} (h : lays s (kids.map ttrim) a nx r) : lays s ((kids.take (keptN nullN kids)).map ttrim) a nx r := by
  obtain ⟨m, h1, h2, h3⟩ := keptN_parts nullN kids
  have h4 := h
  rw [h1, List.map_append, lays_append] at h4
  obtain ⟨q, h5, h6⟩ := h4
  have := lays_null _ _ _ _ (fun x hx => by
    obtain ⟨y, hy, rfl⟩ := List.mem_map.1 hx
    rw [ttrim_f0]
    have := h2 y hy
    simpa [nullN] using this) h6
  exact this ▸ h5
theorem kept_all {kids : List S37} (hl : 0 < kids.length) (hx : ∀ x, kids[kids.length - 1]? = some x → x.f0 ≠ 0) : keptN nullN kids = kids.length := by
 have h1 : kids.length - 1 < kids.length := by omega
 have h2 := hx _ (List.getElem?_eq_getElem h1)
 have e : kids = kids.take (kids.length - 1) ++ [kids[kids.length - 1]] := by
  rw [← take_one kids _ h1, List.take_of_length_le (by omega)]
 rw [e, keptN_last nullN _ _ (by simp [nullN, h2])]
 rw [← e]
 simp
 omega
theorem str_lay {s : List Int} {f : Nat} (H : LayP s f) (hok : ∀ x ∈ s, 0 ≤ x ∧ x < 18446744073709551616) (a nx r m d p : Nat) (ha : a < s.length) (hw : wd s a = encS ((nx : Int) - a - 1) d p) (hz : d + p ≠ 0) (hin : nx + (d + p) ≤ s.length) (hd : d = 0 ∨ wd s (nx + d - 1) ≠ 0) (hp : p = 0 ∨ wd s (nx + d + p - 1) ≠ 0)
  (he : (kidsR (valR [s] f 0) p (nx + d : Nat) m).2.2 = 0) (h : vptrs (visV s f) p (nx + d) (nx + (d + p)) = some r) :
  lay s (ttrim ⟨1, 0, 0, bytesL (seg s nx d), (kidsR (valR [s] f 0) p (nx + d : Nat) m).1⟩) a nx r := by
 obtain ⟨h1, h2, h3⟩ := kids_lay H p (nx + d) (nx + (d + p)) r m (by omega) hin he h
 generalize (kidsR (valR [s] f 0) p (nx + d : Nat) m).1 = kids at *
 have hl : (seg s nx d).length = d := by unfold seg; rw [List.length_take, List.length_drop]; omega
 have hsok : ∀ x ∈ seg s nx d, 0 ≤ x ∧ x < 18446744073709551616 := fun x hx => hok x (List.mem_of_mem_drop (List.mem_of_mem_take hx))
 have ht : twords (bytesL (seg s nx d)) = d := by
  by_cases hd0 : d = 0
  ·have := twords_le_len (seg s nx d)
   omega
  ·rw [twords_last (seg s nx d) hsok (by omega), hl]
   rw [hl]
   have := seg_wd (s := seg s nx d) (s' := s.drop nx) (i := 0) (n := d) (by unfold seg; rw [List.drop_zero, List.drop_zero, List.take_take, Nat.min_self]) (d - 1) (by omega)
   rw [Nat.zero_add] at this
   rw [this]
   unfold wd
   rw [List.getD_eq_getElem?_getD, List.getElem?_drop, show nx + (d - 1) = nx + d - 1 by omega, ← List.getD_eq_getElem?_getD]
   exact hd.resolve_left hd0
 have hk : keptN nullN kids = kids.length := by
  by_cases hp0 : p = 0
  ·have := keptN_le nullN kids
   omega
  ·refine kept_all (by omega) (fun x hx hx0 => ?_)
   have := (h3 _ x hx).1 hx0
   rw [h2, show nx + d + (p - 1) = nx + d + p - 1 by omega] at this
   exact hp.resolve_left hp0 this
 rw [ttrim_struct, ht, hk, List.take_length]
 have hb : (bytesL (seg s nx d)).take (8 * d) = bytesL (seg s nx d) := List.take_of_length_le (by rw [bytesL_length, hl]; omega)
 rw [hb]
 unfold lay
 rw [if_neg (by omega), if_pos rfl, bytesL_length, hl, show 8 * d / 8 = d by omega, List.length_map, h2, if_neg hz]
 refine ⟨hw, hin, ?_, h1⟩
 have := wordsB_bytesL (seg s nx d) hsok
 rw [hl] at this
 exact this.symm
end Go.Proofs.YtidglmocekghmaaDoor.Pr
end
section
namespace Go.Proofs.YtidglmocekghmaaDoor.Pr
theorem anyM_iff (s : List Int) (size : Nat) : ∀ k a : Nat, anyM s size k a = true ↔ ∃ i, i < k ∧ wd s (a + i * size) ≠ 0
 | 0, a => by simp [anyM]
 | k + 1, a => by
  rw [anyM, Bool.or_eq_true, anyM_iff s size k (a + size), decide_eq_true_eq]
  constructor
  ·rintro (h | ⟨i, hi, h⟩)
   ·exact ⟨0, by omega, by simpa using h⟩
   ·exact ⟨i + 1, by omega, by rw [Nat.add_mul, Nat.one_mul, show a + (i * size + size) = a + size + i * size by omega]; exact h⟩
  ·rintro ⟨i, hi, h⟩
   cases i with
   | zero => exact .inl (by simpa using h)
   | succ i => exact .inr ⟨i, by omega, by rw [show a + size + i * size = a + (i + 1) * size by rw [Nat.add_mul, Nat.one_mul]; omega]; exact h⟩
theorem maxD_eq {l : List S37} {d : Nat} (h1 : ∀ x ∈ l, x.f3.length / 8 ≤ d) (h2 : d = 0 ∨ ∃ x ∈ l, x.f3.length / 8 = d) : maxD l = d := by
 have hle : ∀ l : List S37, (∀ x ∈ l, x.f3.length / 8 ≤ d) → maxD l ≤ d := fun l => by
  induction l with
  | nil => intro _; exact Nat.zero_le _
  | cons y l ih =>
   intro h
   have := ih (fun x hx => h x (List.mem_cons_of_mem _ hx))
   have := h y List.mem_cons_self
   unfold maxD
   omega
 have hge : ∀ (l : List S37) (x : S37), x ∈ l → x.f3.length / 8 ≤ maxD l := fun l x => by
  induction l with
  | nil => intro h; cases h
  | cons y l ih =>
   intro h
   unfold maxD
   rcases List.mem_cons.1 h with rfl | h
   ·omega
   ·have := ih h; omega
 have := hle l h1
 rcases h2 with h2 | ⟨x, hx, hxd⟩
 ·omega
 ·have := hge l x hx; omega
theorem maxP_eq {l : List S37} {p : Nat} (h1 : ∀ x ∈ l, x.f4.length ≤ p) (h2 : p = 0 ∨ ∃ x ∈ l, x.f4.length = p) : maxP l = p := by
 have hle : ∀ l : List S37, (∀ x ∈ l, x.f4.length ≤ p) → maxP l ≤ p := fun l => by
  induction l with
  | nil => intro _; exact Nat.zero_le _
  | cons y l ih =>
   intro h
   have := ih (fun x hx => h x (List.mem_cons_of_mem _ hx))
   have := h y List.mem_cons_self
   unfold maxP
   omega
 have := hle l h1
 rcases h2 with h2 | ⟨x, hx, hxp⟩
 ·omega
 ·have := maxP_le hx; omega
def ElK (s : List Int) (d p at_ : Nat) (x : S37) : Prop := ∃ l : List S37, x = ⟨1, 0, 0, bytesL (seg s at_ d), l⟩ ∧ l.length = p ∧ ∀ (q : Nat) (y : S37), l[q]? = some y → (y.f0 = 0 ↔ wd s (at_ + d + q) = 0)
theorem cutG_one (s : List Int) (a n : Nat) : cutG [s] 0 (a : Int) (n : Int) = seg s a n := by
 unfold cutG seg
 simp [sgG]
theorem els_lay {s : List Int} {f : Nat} (H : LayP s f) (hok : ∀ x ∈ s, 0 ≤ x ∧ x < 18446744073709551616) (d p ad k0 : Nat) (cost : Int) : ∀ (k i nx r m : Nat), ad + (i + k) * (d + p) ≤ s.length → nx ≤ s.length → (kidsR (fun i m => strR [s] (valR [s] f) (elG ⟨2, 0, (ad : Int), d, p, 7, k0, cost⟩ i) m) k i m).2.2 = 0 → velems (visV s f) p (d + p) k (ad + i * (d + p) + d) nx = some r →
    layE s d p ((kidsR (fun i m => strR [s] (valR [s] f) (elG ⟨2, 0, (ad : Int), d, p, 7, k0, cost⟩ i) m) k i m).1.map ttrim) (ad + i * (d + p)) nx r ∧ (kidsR (fun i m => strR [s] (valR [s] f) (elG ⟨2, 0, (ad : Int), d, p, 7, k0, cost⟩ i) m) k i m).1.length = k ∧ ∀ (j : Nat) (x : S37), (kidsR (fun i m => strR [s] (valR [s] f) (elG ⟨2, 0, (ad : Int), d, p, 7, k0, cost⟩ i) m) k i m).1[j]? = some x → ElK s d p (ad + (i + j) * (d + p)) x
  | 0, i, nx, r, m, _, _, _, h => by
    simp only [velems, Option.some.injEq] at h
    refine ⟨?_, rfl, fun j x hx => by simp [kidsR] at hx⟩
    simp only [kidsR, List.map_nil, layE]
    exact h.symm
  | k + 1, i, nx, r, m, hin, hn, he, h => by
    have y1 : (i + (k + 1)) * (d + p) = i * (d + p) + k * (d + p) + (d + p) := by rw [Nat.add_mul, Nat.add_mul, Nat.one_mul]; omega
    have y2 : (i + 1 + k) * (d + p) = i * (d + p) + k * (d + p) + (d + p) := by rw [Nat.add_mul, Nat.add_mul, Nat.one_mul]; omega
    have y3 : (i + 1) * (d + p) = i * (d + p) + (d + p) := by rw [Nat.add_mul, Nat.one_mul]
    have hE : elG ⟨2, 0, (ad : Int), d, p, 7, k0, cost⟩ (i : Int) = ⟨1, 0, ((ad + i * (d + p) : Nat) : Int), d, p, 0, 0, 0⟩ := by unfold elG; simp
    have hsk := strR_sinks [s] (valR_sinks [s] f) (elG ⟨2, 0, (ad : Int), d, p, 7, k0, cost⟩ (i : Int)) m (by omega)
    revert he
    unfold kidsR
    by_cases h1 : (strR [s] (valR [s] f) (elG ⟨2, 0, (ad : Int), d, p, 7, k0, cost⟩ (i : Int)) m).2.2 ≠ 0
    · rw [if_pos h1]
      intro he
      exact (h1 he).elim
    rw [if_neg h1]
    intro he
    have h1 : (strR [s] (valR [s] f) (elG ⟨2, 0, (ad : Int), d, p, 7, k0, cost⟩ (i : Int)) m).2.2 = 0 := by simpa using h1
    rw [velems] at h
    cases hq : vptrs (visV s f) p (ad + i * (d + p) + d) nx with
    | none => rw [hq] at h; cases h
    | some q =>
      rw [hq] at h
      dsimp only at he h
      generalize hT : strR [s] (valR [s] f) (elG ⟨2, 0, (ad : Int), d, p, 7, k0, cost⟩ (i : Int)) m = T at *
      rw [hE] at hT
      have h2 := strR_2 [s] (valR [s] f) ⟨1, 0, ((ad + i * (d + p) : Nat) : Int), d, p, 0, 0, 0⟩ m
      rw [hT] at h2
      dsimp only at h2
      rw [Int.toNat_natCast, show (((ad + i * (d + p) : Nat) : Int) + (d : Int)) = ((ad + i * (d + p) + d : Nat) : Int) by omega] at h2
      have hk0 : (kidsR (valR [s] f 0) p ((ad + i * (d + p) + d : Nat) : Int) m).2.2 = 0 := by rw [← h2]; exact h1
      obtain ⟨a1, a2, a3⟩ := kids_lay H p (ad + i * (d + p) + d) nx q m (by omega) hn hk0 hq
      have hT1 : T.1 = ⟨1, 0, 0, bytesL (seg s (ad + i * (d + p)) d), (kidsR (valR [s] f 0) p ((ad + i * (d + p) + d : Nat) : Int) m).1⟩ := by
        rw [← hT]
        unfold strR
        dsimp only
        rw [Int.toNat_natCast, show (((ad + i * (d + p) : Nat) : Int) + (d : Int)) = ((ad + i * (d + p) + d : Nat) : Int) by omega, if_neg (by rw [hk0]; simp), cutG_one]
      have hqn : q ≤ s.length := vptrs_bd (n := s.length) (fun j hj e he r hr => by
        obtain ⟨m', hm'⟩ := kidsR_ok (valR_sinks [s] f 0) p _ m (by omega) hk0 j hj
        exact vis_bd ⟨m', by rw [show ((ad + i * (d + p) + d + j : Nat) : Int) = ((ad + i * (d + p) + d : Nat) : Int) + j by omega]; exact hm'⟩ (by omega) he hr) hn hq
      have e1 : ((T.2.1.toNat : Nat) : Int) = T.2.1 := by omega
      have e2 : ((i + 1 : Nat) : Int) = (i : Int) + 1 := by omega
      have e3 : ad + i * (d + p) + d + (d + p) = ad + (i + 1) * (d + p) + d := by omega
      rw [e3] at h
      have := els_lay H hok d p ad k0 cost k (i + 1) q r T.2.1.toNat (by omega) hqn (by rw [e1, e2]; exact he) h
      rw [e1, e2] at this
      obtain ⟨b1, b2, b3⟩ := this
      generalize (kidsR (valR [s] f 0) p ((ad + i * (d + p) + d : Nat) : Int) m).1 = kids at *
      have hl : (seg s (ad + i * (d + p)) d).length = d := by unfold seg; rw [List.length_take, List.length_drop]; omega
      have hsok : ∀ x ∈ seg s (ad + i * (d + p)) d, 0 ≤ x ∧ x < 18446744073709551616 := fun x hx => hok x (List.mem_of_mem_drop (List.mem_of_mem_take hx))
      refine ⟨?_, by simp [b2], fun j x hx => ?_⟩
      · rw [List.map_cons, hT1, ttrim_struct]
        unfold layE
        refine ⟨?_, fun j hj1 hj2 => ?_, q, cut_lays a1, ?_⟩
        · have := wordsB_cut _ hsok
          rw [hl] at this
          exact this.symm
        · rw [List.length_map] at hj1
          obtain ⟨z, z1, z2, z3⟩ := keptN_parts nullN kids
          rw [z3] at hj1
          have hjl : j < kids.length := by omega
          have hx0 : kids[j].f0 = 0 := by
            have hmem : kids[j] ∈ z := by
              have h5 : kids[j]? = z[j - keptN nullN kids]? := by
                conv => lhs; rw [z1]
                rw [List.getElem?_append_right (by omega), z3]
              rw [List.getElem?_eq_getElem hjl] at h5
              exact List.mem_of_getElem? h5.symm
            have := z2 _ hmem
            simpa [nullN] using this
          exact (a3 j _ (List.getElem?_eq_getElem hjl)).1 hx0
        · rw [show ad + i * (d + p) + (d + p) = ad + (i + 1) * (d + p) by omega]
          exact b1
      · cases j with
        | zero =>
          simp only [List.getElem?_cons_zero, Option.some.injEq] at hx
          subst hx
          exact ⟨kids, by rw [hT1, Nat.add_zero], a2, fun q y hy => by rw [Nat.add_zero]; exact a3 q y hy⟩
        | succ j =>
          simp only [List.getElem?_cons_succ] at hx
          have := b3 j x hx
          rwa [show i + 1 + j = i + (j + 1) by omega] at this
end Go.Proofs.YtidglmocekghmaaDoor.Pr
end
section
namespace Go.Proofs.YtidglmocekghmaaDoor.Pr
theorem seg_last {s : List Int} {i d : Nat} (hd : 0 < d) : wd (seg s i d) (d - 1) = wd s (i + d - 1) := by
 unfold seg wd
 rw [List.getD_eq_getElem?_getD, List.getElem?_take_of_lt (by omega), List.getElem?_drop, List.getD_eq_getElem?_getD, show i + (d - 1) = i + d - 1 by omega]
theorem el_sizes {s : List Int} {d p at_ : Nat} {x : S37} (hok : ∀ x ∈ s, 0 ≤ x ∧ x < 18446744073709551616) (h : ElK s d p at_ x) (hin : at_ + (d + p) ≤ s.length) : (ttrim x).f3.length / 8 ≤ d ∧ (ttrim x).f4.length ≤ p ∧ (0 < d → wd s (at_ + d - 1) ≠ 0 → (ttrim x).f3.length / 8 = d) ∧ (0 < p → wd s (at_ + d + p - 1) ≠ 0 → (ttrim x).f4.length = p) := by
  obtain ⟨l, rfl, h2, h3⟩ := h
  have hl : (seg s at_ d).length = d := by unfold seg; rw [List.length_take, List.length_drop]; omega
  have hsok : ∀ x ∈ seg s at_ d, 0 ≤ x ∧ x < 18446744073709551616 := fun x hx => hok x (List.mem_of_mem_drop (List.mem_of_mem_take hx))
  have ht := twords_le_len (seg s at_ d)
  have hk := keptN_le nullN l
  rw [ttrim_struct]
  dsimp only
  rw [List.length_take, List.length_map, List.length_take, bytesL_length, hl]
  rw [hl] at ht
  refine ⟨by omega, by omega, fun hd hz => ?_, fun hp hz => ?_⟩
  · rw [twords_last _ hsok (by omega) (by rw [hl, seg_last hd]; exact hz), hl]
    omega
  · rw [kept_all (by omega) (fun x hx hx0 => by
      have := (h3 _ x hx).1 hx0
      rw [h2, show at_ + d + (p - 1) = at_ + d + p - 1 by omega] at this
      exact hz this)]
    omega
theorem mem_at {α : Type} {l : List α} {x : α} (h : x ∈ l) : ∃ j, j < l.length ∧ l[j]? = some x := by
 obtain ⟨j, hj, e⟩ := List.getElem_of_mem h
 exact ⟨j, hj, by rw [List.getElem?_eq_getElem hj, e]⟩
theorem comp_lay {s : List Int} {f : Nat} (H : LayP s f) (hok : ∀ x ∈ s, 0 ≤ x ∧ x < 18446744073709551616) (a nx r m d p k c : Nat) (cost : Int) (ha : a < s.length) (hw : wd s a = encL ((nx : Int) - a - 1) 7 c) (hq : k * (d + p) = c) (hin : nx + (c + 1) ≤ s.length) (ht : wd s nx = encS k d p)
  (hf : ((decide (d = 0) || anyM s (d + p) k (nx + 1 + d - 1)) && (decide (p = 0) || anyM s (d + p) k (nx + 1 + (d + p) - 1))) = true)
  (he : (kidsR (fun i m => strR [s] (valR [s] f) (elG ⟨2, 0, ((nx + 1 : Nat) : Int), d, p, 7, k, cost⟩ i) m) k (0 : Nat) m).2.2 = 0) (h : velems (visV s f) p (d + p) k (nx + 1 + d) (nx + (c + 1)) = some r) :
  lay s (ttrim ⟨2, 7, k, [], (kidsR (fun i m => strR [s] (valR [s] f) (elG ⟨2, 0, ((nx + 1 : Nat) : Int), d, p, 7, k, cost⟩ i) m) k (0 : Nat) m).1⟩) a nx r := by
 obtain ⟨h1, h2, h3⟩ := els_lay H hok d p (nx + 1) k cost k 0 (nx + (c + 1)) r m (by rw [Nat.zero_add, hq]; omega) hin he (by rw [Nat.zero_mul, Nat.add_zero]; exact h)
 generalize (kidsR (fun i m => strR [s] (valR [s] f) (elG ⟨2, 0, ((nx + 1 : Nat) : Int), d, p, 7, k, cost⟩ i) m) k (0 : Nat) m).1 = els at *
 rw [Nat.zero_mul, Nat.add_zero] at h1
 have hb : ∀ j, j < k → j * (d + p) + (d + p) ≤ c := fun j hj => by
  have := Nat.mul_le_mul_right (d + p) (show j + 1 ≤ k by omega)
  rw [Nat.add_mul, Nat.one_mul] at this
  omega
 have hS := fun (j : Nat) (x : S37) (hx : els[j]? = some x) => by
  have hj : j < k := by rw [← h2]; exact (List.getElem?_eq_some_iff.1 hx).1
  have hE := h3 j x hx
  rw [Nat.zero_add] at hE
  have h5 := hb j hj
  exact el_sizes hok hE (by omega)
 simp only [Bool.and_eq_true, Bool.or_eq_true, decide_eq_true_eq] at hf
 have hD : maxD (els.map ttrim) = d := by
  refine maxD_eq (fun x hx => ?_) ?_
  ·obtain ⟨y, hy, rfl⟩ := List.mem_map.1 hx
   obtain ⟨j, hj, e⟩ := mem_at hy
   exact (hS j y e).1
  ·rcases hf.1 with h0 | h0
   ·exact .inl h0
   ·by_cases hd0 : d = 0
    ·exact .inl hd0
    right
    obtain ⟨i, hi, hz⟩ := (anyM_iff _ _ _ _).1 h0
    have hil : i < els.length := by omega
    refine ⟨ttrim els[i], List.mem_map.2 ⟨_, List.getElem_mem hil, rfl⟩, (hS i _ (List.getElem?_eq_getElem hil)).2.2.1 (by omega) ?_⟩
    rw [show nx + 1 + i * (d + p) + d - 1 = nx + 1 + d - 1 + i * (d + p) by omega]
    exact hz
 have hP : maxP (els.map ttrim) = p := by
  refine maxP_eq (fun x hx => ?_) ?_
  ·obtain ⟨y, hy, rfl⟩ := List.mem_map.1 hx
   obtain ⟨j, hj, e⟩ := mem_at hy
   exact (hS j y e).2.1
  ·rcases hf.2 with h0 | h0
   ·exact .inl h0
   ·by_cases hp0 : p = 0
    ·exact .inl hp0
    right
    obtain ⟨i, hi, hz⟩ := (anyM_iff _ _ _ _).1 h0
    have hil : i < els.length := by omega
    refine ⟨ttrim els[i], List.mem_map.2 ⟨_, List.getElem_mem hil, rfl⟩, (hS i _ (List.getElem?_eq_getElem hil)).2.2.2 (by omega) ?_⟩
    rw [show nx + 1 + i * (d + p) + d + p - 1 = nx + 1 + (d + p) - 1 + i * (d + p) by omega]
    exact hz
 rw [ttrim_list]
 unfold lay
 rw [if_neg (by omega), if_neg (by omega), if_pos rfl, hD, hP, List.length_map, h2, hq]
 exact ⟨hw, by omega, ht, by rw [show nx + 1 + c = nx + (c + 1) by omega]; exact h1⟩
end Go.Proofs.YtidglmocekghmaaDoor.Pr
end
section
namespace Go.Proofs.YtidglmocekghmaaDoor.Pr
open Go.RowKit Go.Proofs.YtidglmocekghmaaDoorW.PrintWords Go.Proofs.YtidglmocekghmaaDoorW.PrintLast Go.Proofs.YtidglmocekghmaaDoorW.PrintMore
set_option linter.unusedVariables false
set_option linter.unusedSimpArgs false
theorem MsV.openV {w : World} {q : S37 × Int} {r : Ending} {w' : World} (h : MsV w q r w') : ∃ A3 c3 A4 c4, r = .returned (.tuple #[.agg #[.int .i64 q.1.f0, .int .i64 q.1.f1, .int .i64 q.1.f2, .slice A3 q.1.f3.length c3, .slice A4 q.1.f4.length c4], .int .i64 q.2]) ∧ k37.M w' w.heap.size (fun _ => True) q.1 [.int .i64 q.1.f0, .int .i64 q.1.f1, .int .i64 q.1.f2, .slice A3 q.1.f3.length c3, .slice A4 q.1.f4.length c4] ∧ Below w.heap.size w w' := by
 obtain ⟨v3, v4, h1, h2, h3⟩ := h
 obtain ⟨A3, c3, A4, c4, e, _⟩ := k37_open (k37.K_of_M h2)
 simp only [List.cons.injEq, true_and, and_true] at e
 obtain ⟨rfl, rfl⟩ := e
 exact ⟨A3, c3, A4, c4, h1, h2, h3⟩
def wordsR (s : List Int) (D Wd : Int) : Bool := decide (0 < s.length) && (decide ((msgR [s] D Wd).2 = 0) && decide (visI (visV s D.toNat 0 1) = (s.length : Int)))
theorem msgR_2 {s : List Int} (D Wd : Int) (h0 : 0 < s.length) : (msgR [s] D Wd).2 = (valR [s] D.toNat 0 0 (startM Wd)).2.2 := by
  unfold msgR
  rw [if_neg (fun h => by
    have h2 := h.2
    rw [show sgG [s] 0 = s from rfl] at h2
    omega)]
  split
  · rfl
  · rename_i h
    have h2 : (valR [s] D.toNat 0 0 (startM Wd)).2.2 = 0 := by simpa using h
    exact h2.symm
theorem wordsM_R (s : List Int) (D Wd : Int) : wordsM s D Wd = wordsR s D Wd := by
 unfold wordsM wordsR
 by_cases h0 : 0 < s.length
 ·have hA := agr_vis s D.toNat 0 1 Wd.toNat h0 h0
  have hs : ((Wd.toNat : Nat) : Int) = startM Wd := by unfold startM; split <;> omega
  rw [hs] at hA
  have hM := msgR_2 D Wd h0
  rw [hA, hM]
  by_cases he : (valR [s] D.toNat 0 0 (startM Wd)).2.2 = 0
  ·rw [if_pos (by exact he), decide_eq_true he]
   cases visV s D.toNat 0 1 with
   | none =>
    rw [show decide (visI none = (s.length : Int)) = false from decide_eq_false (by show ¬ ((-1 : Int) = (s.length : Int)); omega)]
    simp
   | some r =>
    rw [show decide (visI (some r) = (s.length : Int)) = decide (r = s.length) by rw [visI_some]; congr 1; simp only [eq_iff_iff]; omega]
    simp
  ·rw [if_neg (by exact he), decide_eq_false he]
   simp
 ·simp [h0]
end Go.Proofs.YtidglmocekghmaaDoor.Pr
end
section
namespace Go.Proofs.YtidglmocekghmaaDoor.Pr
theorem val_obj {s : List Int} {f a m : Nat} {o : Ob} (ha : a < s.length) (h0 : wd s a ≠ 0) (hk : kindW (wd s a) ≠ 2) (hO : objG [s] 0 a = (o, 0)) (h : (valR [s] (f + 1) 0 a m).2.2 = 0) : o.c ≤ m ∧ valR [s] (f + 1) 0 a m = bodR [s] (valR [s] f) o ((m : Int) - o.c) := by
 rw [valR_obj ha h0 hk, hO] at h ⊢
 dsimp only at h ⊢
 rw [if_neg (by simp)] at h ⊢
 by_cases h2 : (m : Int) < o.c
 ·rw [if_pos h2] at h
  simp at h
 ·rw [if_neg h2]
  exact ⟨by omega, rfl⟩
theorem obj_str {s : List Int} {f a d p : Nat} (ha : a < s.length) (h0 : wd s a ≠ 0) (hk : kindW (wd s a) = 0) (hd : dataW (wd s a) = d) (hp : ptrsW (wd s a) = p) (h : (objG [s] 0 a).2 = 0) : objG [s] 0 a = (⟨1, 0, (a : Int) + 1 + offW (wd s a), d, p, 0, 0, (d : Int) + p⟩, 0) := by
 have hO : objG [s] 0 a = if inG [s] 0 ((a : Int) + 1 + offW (wd s a)) ((d : Int) + p) = true then (⟨1, 0, (a : Int) + 1 + offW (wd s a), d, p, 0, 0, (d : Int) + p⟩, 0) else (Ob.z, 2) := by
  unfold objG desM
  rw [folM_one ha (by omega)]
  simp only [pO, pD, pP, hk, hd, hp, h0, ne_eq, not_true_eq_false, if_false, if_true, show ((0 : Int) = 3) = False by simp, show ((0 : Int) ≤ 1) = True by simp]
 by_cases hi : inG [s] 0 ((a : Int) + 1 + offW (wd s a)) ((d : Int) + p) = true
 ·rw [if_pos hi] at hO; exact hO
 ·rw [if_neg hi] at hO
  rw [hO] at h
  simp at h
theorem obj_lst {s : List Int} {a nx c n : Nat} (ha : a < s.length) (h0 : wd s a ≠ 0) (hk : kindW (wd s a) = 1) (he : elemW (wd s a) ≠ 7) (hc : cntW (wd s a) = c) (hw : wordsE (elemW (wd s a)) c = n) (hst : (a : Int) + 1 + offW (wd s a) = nx) (h : (objG [s] 0 a).2 = 0) : objG [s] 0 a = (⟨2, 0, nx, 0, 0, elemW (wd s a), c, n⟩, 0) := by
 have hO : objG [s] 0 a = if inG [s] 0 (nx : Int) n = true then (⟨2, 0, nx, 0, 0, elemW (wd s a), c, n⟩, 0) else (Ob.z, 2) := by
  unfold objG desM
  rw [folM_one ha (by omega)]
  simp only [pO, pD, pP, pE, pC, hk, hc, h0, hst, hw, he, ne_eq, not_true_eq_false, not_false_eq_true, if_false, if_true, show ((1 : Int) = 3) = False by simp, show ((1 : Int) = 0) = False by simp, show ((1 : Int) ≤ 1) = True by simp]
  by_cases hi : inG [s] 0 (nx : Int) n = true <;> simp [hi]
 by_cases hi : inG [s] 0 (nx : Int) n = true
 ·rw [if_pos hi] at hO; exact hO
 ·rw [if_neg hi] at hO
  rw [hO] at h
  simp at h
theorem lay_step {s : List Int} {f : Nat} (hok : ∀ x ∈ s, 0 ≤ x ∧ x < 18446744073709551616) (H : LayP s f) : LayP s (f + 1) := by
 intro a nx r m ha hn he hv
 have hwr : 0 ≤ wd s a ∧ wd s a < 18446744073709551616 := hok _ (by
  unfold wd
  rw [List.getD_eq_getElem?_getD, List.getElem?_eq_getElem ha]
  exact List.getElem_mem _)
 by_cases h0 : wd s a = 0
 ·have hk : kindW (wd s a) ≠ 2 := by rw [h0]; decide
  rw [visV, if_pos h0] at hv
  rw [valR, folM_one ha hk]
  simp only [h0, ne_eq, not_true_eq_false, if_false, if_true]
  rw [ttrim_null]
  refine ⟨?_, by simp [ndZ]⟩
  unfold ndZ lay
  rw [if_pos rfl]
  simp only [Option.some.injEq] at hv
  exact ⟨h0, hv.symm⟩
 have ho : Okv s (f + 1) a := ⟨m, he⟩
 rw [visV, if_neg h0] at hv
 by_cases hk0 : kindW (wd s a) = 0
 ·rw [if_pos hk0] at hv
  obtain ⟨d, hd⟩ := Int.eq_ofNat_of_zero_le (dataW_bd (wd s a)).1
  obtain ⟨p, hp⟩ := Int.eq_ofNat_of_zero_le (ptrsW_bd (wd s a)).1
  have hO := obj_str (f := f) ha h0 hk0 hd hp (ok_obj ha h0 (by omega) he).1
  obtain ⟨hm, hV⟩ := val_obj ha h0 (by omega) hO he
  have hW := encS_of hwr.1 hwr.2 hk0
  rw [hd, hp] at hW
  unfold bodR at hV
  rw [if_pos rfl] at hV
  rw [hV] at he ⊢
  dsimp only at hm
  unfold vstr at hv
  simp only [hd, hp, Int.toNat_natCast] at hv
  have hS : (strR [s] (valR [s] f) ⟨1, 0, (a : Int) + 1 + offW (wd s a), d, p, 0, 0, (d : Int) + p⟩ ((m : Int) - ((d : Int) + p))).1 = ⟨1, 0, 0, bytesL (cutG [s] 0 ((a : Int) + 1 + offW (wd s a)) d), (kidsR (valR [s] f 0) p ((a : Int) + 1 + offW (wd s a) + d) ((m : Int) - ((d : Int) + p))).1⟩ := by
   rw [strR_2] at he
   unfold strR
   dsimp only at he ⊢
   rw [Int.toNat_natCast] at he ⊢
   rw [if_neg (by rw [he]; simp)]
  rw [strR_2] at he
  dsimp only at he
  rw [Int.toNat_natCast] at he
  rw [hS]
  refine ⟨?_, by simp [h0]⟩
  by_cases hz : d + p = 0
  ·rw [if_pos hz] at hv
   have hd0 : d = 0 := by omega
   have hp0 : p = 0 := by omega
   subst hd0 hp0
   by_cases hoff : offW (wd s a) = -1
   ·rw [if_pos hoff] at hv
    simp only [Option.some.injEq] at hv
    have hc : cutG [s] 0 ((a : Int) + 1 + offW (wd s a)) ((0 : Nat) : Int) = [] := by unfold cutG; simp
    rw [hc]
    have : ttrim ⟨1, 0, 0, bytesL [], (kidsR (valR [s] f 0) 0 ((a : Int) + 1 + offW (wd s a) + ((0 : Nat) : Int)) ((m : Int) - (((0 : Nat) : Int) + ((0 : Nat) : Int)))).1⟩ = ⟨1, 0, 0, [], []⟩ := by
     rw [ttrim_struct]
     rfl
    rw [this]
    unfold lay
    rw [if_neg (by omega), if_pos rfl, if_pos (by simp)]
    refine ⟨?_, hv.symm⟩
    rw [hoff] at hW
    exact hW
   ·rw [if_neg hoff] at hv
    cases hv
  rw [if_neg hz] at hv
  by_cases hst : (a : Int) + 1 + offW (wd s a) = nx
  ·rw [if_pos hst] at hv
   by_cases hl : lastM s nx d = true
   ·rw [if_pos hl] at hv
    by_cases hl2 : (decide (p = 0) || decide (wd s (nx + d + p - 1) ≠ 0)) = true
    ·rw [if_pos hl2] at hv
     obtain ⟨hin, _⟩ := str_ok ha h0 hk0 hd hp hst ho
     unfold lastM at hl
     simp only [Bool.or_eq_true, decide_eq_true_eq] at hl hl2
     rw [show offW (wd s a) = (nx : Int) - a - 1 by omega] at hW
     rw [hst, cutG_one]
     rw [hst] at he
     have e1 : ((m : Int) - ((d : Int) + p)) = ((m - (d + p) : Nat) : Int) := by omega
     have e2 : ((nx : Int) + (d : Int)) = ((nx + d : Nat) : Int) := by omega
     rw [e1, e2] at he ⊢
     exact str_lay H hok a nx r (m - (d + p)) d p ha hW hz hin hl hl2 he hv
    ·rw [if_neg hl2] at hv; cases hv
   ·rw [if_neg hl] at hv; cases hv
  ·rw [if_neg hst] at hv; cases hv
 ·rw [if_neg hk0] at hv
  by_cases hk1 : kindW (wd s a) = 1
  ·rw [if_pos hk1] at hv
   obtain ⟨c, hc⟩ := Int.eq_ofNat_of_zero_le (cntW_bd (wd s a)).1
   have hcb := (cntW_bd (wd s a)).2
   have hW := encL_of hwr.1 hwr.2 hk1
   have heb := elemW_bd (wd s a)
   by_cases he7 : elemW (wd s a) = 7
   ·unfold vlist vcomp at hv
    rw [if_pos he7] at hv
    by_cases hst : (a : Int) + 1 + offW (wd s a) = nx
    ·rw [if_pos hst] at hv
     obtain ⟨hin, d, p, k, cost, hd, hp, hk2, hkc, hO, _⟩ := cmp_ok ha h0 hk1 he7 hc hst ho
     obtain ⟨hm, hV⟩ := val_obj ha h0 (by omega) hO he
     rw [hk2, hd, hp, hc] at hv
     simp only [Int.toNat_natCast] at hv
     by_cases hq : (k : Int) * ((d : Int) + p) = c
     ·rw [if_pos hq] at hv
      have hqN : k * (d + p) = c := by exact_mod_cast hq
      by_cases hf : ((decide (d = 0) || anyM s (d + p) k (nx + 1 + d - 1)) && (decide (p = 0) || anyM s (d + p) k (nx + 1 + (d + p) - 1))) = true
      ·rw [if_pos hf] at hv
       rw [show offW (wd s a) = (nx : Int) - a - 1 by omega, he7, hc] at hW
       have htr : 0 ≤ wd s nx ∧ wd s nx < 18446744073709551616 := hok _ (by
        unfold wd
        rw [List.getD_eq_getElem?_getD, List.getElem?_eq_getElem (show nx < s.length by omega)]
        exact List.getElem_mem _)
       have hkt : kindW (wd s nx) = 0 := by
        have h1 := (ok_obj ha h0 (by omega) he).1
        have hO2 : objG [s] 0 a = tagM 0 nx 7 ((c : Int) + 1) c (wd s nx) := by
         have hI : inG [s] 0 (nx : Int) ((c : Int) + 1) = true := by rw [inG_one, decide_eq_true_eq]; omega
         have hWc : wordsE 7 (c : Int) = (c : Int) + 1 := rfl
         unfold objG desM
         rw [folM_one ha (by omega)]
         simp only [pO, pD, pP, pE, pC, hk1, he7, hc, h0, hst, hWc, hI, ne_eq, not_true_eq_false, if_false, if_true, show ((1 : Int) = 3) = False by simp, show ((1 : Int) = 0) = False by simp, show ((1 : Int) ≤ 1) = True by simp, show (true = false) = False by simp]
         rw [wdG_one (by omega) (by omega), Int.toNat_natCast]
        rw [hO2] at h1
        unfold tagM at h1
        by_cases h : kindW (wd s nx) = 0
        ·exact h
        ·rw [if_pos h] at h1
         simp at h1
       have hT := encS_of htr.1 htr.2 hkt
       rw [hk2, hd, hp] at hT
       unfold bodR at hV
       dsimp only at hV hm
       rw [if_neg (by omega), if_neg (by omega), if_neg (by omega), Int.toNat_natCast, elsR_kids] at hV
       have e1 : (m : Int) - cost = (((m : Int) - cost).toNat : Nat) := by omega
       rw [e1, show (nx : Int) + 1 = ((nx + 1 : Nat) : Int) by omega] at hV
       rw [hV] at he ⊢
       by_cases hke : (kidsR (fun i m => strR [s] (valR [s] f) (elG ⟨2, 0, ((nx + 1 : Nat) : Int), d, p, 7, k, cost⟩ i) m) k 0 (((m : Int) - cost).toNat : Nat)).2.2 = 0
       ·rw [if_neg (by rw [hke]; simp)]
        exact ⟨comp_lay H hok a nx r _ d p k c cost ha hW hqN hin hT hf hke hv, by simp [h0]⟩
       ·rw [if_pos hke] at he
        exact (hke he).elim
      ·rw [if_neg hf] at hv; cases hv
     ·rw [if_neg hq] at hv; cases hv
    ·rw [if_neg hst] at hv; cases hv
   ·unfold vlist at hv
    rw [if_neg he7] at hv
    by_cases hst : (a : Int) + 1 + offW (wd s a) = nx
    ·rw [if_pos hst] at hv
     obtain ⟨n, hw⟩ := Int.eq_ofNat_of_zero_le (wordsE_bd (elemW (wd s a)) (c : Int) (by omega) (by omega)).1
     obtain ⟨hin, _⟩ := lst_ok ha h0 hk1 he7 hc hw hst ho
     have hO := obj_lst ha h0 hk1 he7 hc hw hst (ok_obj ha h0 (by omega) he).1
     obtain ⟨hm, hV⟩ := val_obj ha h0 (by omega) hO he
     rw [hc, hw, Int.toNat_natCast] at hv
     rw [show offW (wd s a) = (nx : Int) - a - 1 by omega, hc] at hW
     unfold bodR at hV
     dsimp only at hV hm
     by_cases he6 : elemW (wd s a) = 6
     ·have hnc : n = c := by
       rw [he6] at hw
       unfold wordsE bitsE at hw
       simp at hw
       omega
      subst hnc
      rw [if_pos he6] at hv
      rw [if_neg (by omega), if_neg (by omega), if_pos he6, Int.toNat_natCast] at hV
      have e1 : ((m : Int) - (n : Int)) = ((m - n : Nat) : Int) := by omega
      rw [e1] at hV
      rw [hV] at he ⊢
      by_cases hke : (kidsR (valR [s] f 0) n (nx : Int) ((m - n : Nat) : Int)).2.2 = 0
      ·rw [if_neg (by rw [hke]; simp)]
       obtain ⟨h1, h2, h3⟩ := kids_lay H n nx (nx + n) r (m - n) hin hin hke hv
       refine ⟨?_, by simp [h0]⟩
       dsimp only
       rw [ttrim_list]
       unfold lay
       rw [if_neg (by omega), if_neg (by omega), if_neg he7, if_pos he6, List.length_map, h2]
       rw [he6] at hW
       exact ⟨hW, hin, h1⟩
      ·rw [if_pos hke] at he
       exact (hke he).elim
     ·rw [if_neg he6] at hv
      by_cases hr : restM s (elemW (wd s a)) c nx n = true
      ·rw [if_pos hr] at hv
       simp only [Option.some.injEq] at hv
       rw [if_neg (by omega), if_pos (by omega), cutG_one] at hV
       rw [hV]
       refine ⟨?_, by simp [h0]⟩
       dsimp only
       rw [ttrim_list]
       unfold lay
       rw [if_neg (by omega), if_neg (by omega), if_neg he7, if_neg he6, hw, Int.toNat_natCast]
       exact ⟨hW, hin, restM_words hok hin hr, hv.symm⟩
      ·rw [if_neg hr] at hv; cases hv
    ·rw [if_neg hst] at hv; cases hv
  ·rw [if_neg hk1] at hv; cases hv
theorem lay_zero {s : List Int} : LayP s 0 := by
 intro a nx r m ha hn he hv
 by_cases h0 : wd s a = 0
 ·have hk : kindW (wd s a) ≠ 2 := by rw [h0]; decide
  rw [visV, if_pos h0] at hv
  rw [valR, folM_one ha hk]
  simp only [h0, ne_eq, not_true_eq_false, if_false, if_true]
  rw [ttrim_null]
  refine ⟨?_, by simp [ndZ]⟩
  unfold ndZ lay
  rw [if_pos rfl]
  simp only [Option.some.injEq] at hv
  exact ⟨h0, hv.symm⟩
 ·rw [visV, if_neg h0] at hv
  cases hv
theorem lay_vis {s : List Int} (hok : ∀ x ∈ s, 0 ≤ x ∧ x < 18446744073709551616) : ∀ f, LayP s f
 | 0 => lay_zero
 | f + 1 => lay_step hok (lay_vis hok f)
theorem wordsM_lay {s : List Int} {D Wd : Int} (hok : ∀ x ∈ s, 0 ≤ x ∧ x < 18446744073709551616) (h : wordsM s D Wd = true) : (msgR [s] D Wd).2 = 0 ∧ lay s (msgR [s] D Wd).1 0 1 s.length := by
  rw [wordsM_R] at h
  unfold wordsR at h
  simp only [Bool.and_eq_true, decide_eq_true_eq] at h
  obtain ⟨h0, h1, h2⟩ := h
  refine ⟨h1, ?_⟩
  have h3 := h1
  rw [msgR_2 D Wd h0] at h3
  have hs : ((Wd.toNat : Nat) : Int) = startM Wd := by unfold startM; split <;> omega
  have hm : (msgR [s] D Wd).1 = ttrim (valR [s] D.toNat 0 0 (startM Wd)).1 := by
    unfold msgR
    rw [if_neg (fun h => by
      have h2 := h.2
      rw [show sgG [s] 0 = s from rfl] at h2
      omega), if_neg (by rw [h3]; simp)]
  rw [hm]
  cases hv : visV s D.toNat 0 1 with
  | none =>
    rw [hv] at h2
    have h4 : (-1 : Int) = s.length := h2
    omega
  | some r =>
    rw [hv, visI_some] at h2
    obtain rfl : r = s.length := by omega
    rw [← hs] at h3 ⊢
    exact (lay_vis hok D.toNat 0 1 s.length Wd.toNat h0 h0 h3 hv).1
end Go.Proofs.YtidglmocekghmaaDoor.Pr
end
section
namespace Go.Proofs.YtidglmocekghmaaDoor.Pr
theorem encS_kind (off d p : Int) : kindW (encS off d p) = 0 := by unfold kindW encS; omega
theorem encL_kind (off e c : Int) : kindW (encL off e c) = 1 := by unfold kindW encL; omega
theorem byte_of_word {w : Int} {j : Nat} (hj : j < 8) (h : w = 0) : (bytesW w).getD j 0 = 0 := by
 subst h
 unfold bytesW
 match j, hj with
 | 0, _ | 1, _ | 2, _ | 3, _ | 4, _ | 5, _ | 6, _ | 7, _ => rfl
theorem last_twords (ws : List Int) (hl : 0 < ws.length) (ht : twords (bytesL ws) = ws.length) : wd ws (ws.length - 1) ≠ 0 := by
 intro hz
 have h1 : keptN zeroB (bytesL ws) ≤ 8 * (ws.length - 1) := by
  have hb : ∀ i, 8 * (ws.length - 1) ≤ i → (bytesL ws).getD i 0 = 0 := fun i hi => by
   by_cases hil : i < (bytesL ws).length
   ·rw [bytesL_length] at hil
    have := bytesL_getD ws (ws.length - 1) (i - 8 * (ws.length - 1)) (by omega) (by omega)
    rw [show 8 * (ws.length - 1) + (i - 8 * (ws.length - 1)) = i by omega] at this
    rw [this]
    exact byte_of_word (by omega) hz
   ·rw [List.getD_eq_getElem?_getD, List.getElem?_eq_none (by omega)]
    rfl
  have hall : ∀ x ∈ (bytesL ws).drop (8 * (ws.length - 1)), zeroB x = true := fun x hx => by
   obtain ⟨j, hj, e⟩ := List.getElem_of_mem hx
   rw [List.getElem_drop] at e
   rw [List.length_drop] at hj
   have := hb (8 * (ws.length - 1) + j) (by omega)
   rw [List.getD_eq_getElem?_getD, List.getElem?_eq_getElem (by omega)] at this
   simp only [Option.getD_some] at this
   rw [← e, this]
   rfl
  have h2 := keptN_all zeroB ((bytesL ws).take (8 * (ws.length - 1))) _ hall
  rw [List.take_append_drop] at h2
  rw [h2]
  have := keptN_le zeroB ((bytesL ws).take (8 * (ws.length - 1)))
  rw [List.length_take] at this
  omega
 unfold twords at ht
 omega
theorem kept_last {kids : List S37} (h : keptN nullN kids = kids.length) (hl : 0 < kids.length) (x : S37) (hx : kids[kids.length - 1]? = some x) : x.f0 ≠ 0 := by
 intro hx0
 have h1 : kids.length - 1 < kids.length := by omega
 have e : kids = kids.take (kids.length - 1) ++ [x] := by
  rw [List.getElem?_eq_getElem h1, Option.some.injEq] at hx
  rw [← hx, ← take_one kids _ h1, List.take_of_length_le (by omega)]
 have h2 : keptN nullN kids = keptN nullN (kids.take (kids.length - 1)) := by
  conv => lhs; rw [e]
  rw [keptN_snoc, if_pos (by simp [nullN, hx0])]
 have := keptN_le nullN (kids.take (kids.length - 1))
 rw [List.length_take] at this
 omega
def VisP (s : List Int) (f : Nat) : Prop := ∀ (a nx r m : Nat), a < s.length → nx ≤ s.length → (valR [s] f 0 a m).2.2 = 0 → lay s (ttrim (valR [s] f 0 a m).1) a nx r → visV s f a nx = some r ∧ r ≤ s.length ∧ ((valR [s] f 0 a m).1.f0 = 0 ↔ wd s a = 0)
theorem lays_vis {s : List Int} {f : Nat} (H : VisP s f) : ∀ (p a nx r m : Nat), a + p ≤ s.length → nx ≤ s.length → (kidsR (valR [s] f 0) p a m).2.2 = 0 → lays s ((kidsR (valR [s] f 0) p a m).1.map ttrim) a nx r →
  vptrs (visV s f) p a nx = some r ∧ r ≤ s.length ∧ (kidsR (valR [s] f 0) p a m).1.length = p ∧ ∀ j (x : S37), (kidsR (valR [s] f 0) p a m).1[j]? = some x → (x.f0 = 0 ↔ wd s (a + j) = 0)
 | 0, a, nx, r, m, _, hn, _, h => by
  simp only [kidsR, List.map_nil, lays] at h
  subst h
  exact ⟨rfl, hn, rfl, fun j x hx => by simp [kidsR] at hx⟩
 | p + 1, a, nx, r, m, ha, hn, he, h => by
  have hs := valR_sinks [s] f 0 a m (by omega)
  revert he h
  unfold kidsR
  by_cases h1 : (valR [s] f 0 a m).2.2 ≠ 0
  ·rw [if_pos h1]
   intro he
   exact (h1 he).elim
  ·rw [if_neg h1]
   intro he h
   have h1 : (valR [s] f 0 a m).2.2 = 0 := by simpa using h1
   dsimp only at he h
   rw [List.map_cons] at h
   obtain ⟨q, h2, h3⟩ := h
   obtain ⟨i1, i2, i3⟩ := H a nx q m (by omega) hn h1 h2
   have e1 : (((valR [s] f 0 a m).2.1.toNat : Nat) : Int) = (valR [s] f 0 a m).2.1 := by omega
   have e2 : ((a + 1 : Nat) : Int) = (a : Int) + 1 := by omega
   have := lays_vis H p (a + 1) q r (valR [s] f 0 a m).2.1.toNat (by omega) i2 (by rw [e1, e2]; exact he) (by rw [e1, e2]; exact h3)
   rw [e1, e2] at this
   obtain ⟨j1, j2, j3, j4⟩ := this
   refine ⟨by rw [vptrs, i1]; exact j1, j2, by simp [j3], fun j x hx => ?_⟩
   cases j with
   | zero =>
    simp only [List.getElem?_cons_zero, Option.some.injEq] at hx
    subst hx
    exact i3
   | succ j =>
    simp only [List.getElem?_cons_succ] at hx
    have := j4 j x hx
    rwa [show a + 1 + j = a + (j + 1) by omega] at this
end Go.Proofs.YtidglmocekghmaaDoor.Pr
end
section
namespace Go.Proofs.YtidglmocekghmaaDoor.Pr
theorem st_nat {s : List Int} {a : Nat} (ha : a < s.length) (h0 : wd s a ≠ 0) (hk : kindW (wd s a) ≤ 1) (h : (objG [s] 0 a).2 = 0) : ∃ S : Nat, (a : Int) + 1 + offW (wd s a) = S := by
 have hb := kindW_bd (wd s a)
 refine ⟨((a : Int) + 1 + offW (wd s a)).toNat, ?_⟩
 suffices 0 ≤ (a : Int) + 1 + offW (wd s a) by omega
 have hn : ∀ n, inG [s] 0 ((a : Int) + 1 + offW (wd s a)) n = true → 0 ≤ (a : Int) + 1 + offW (wd s a) := fun n hn => by
  rw [inG_one, decide_eq_true_eq] at hn
  exact hn.1
 revert h
 unfold objG desM
 rw [folM_one ha (by omega)]
 have hpo : pO (wd s a) = offW (wd s a) := by unfold pO; rw [if_pos hk]
 dsimp only
 rw [if_neg (by simp), if_neg h0, if_neg (by omega), hpo]
 split
 ·split
  ·rename_i hi
   intro _
   exact hn _ hi
  ·intro h; simp at h
 ·split
  ·intro h; simp at h
  ·rename_i hi
   intro _
   cases hq : inG [s] 0 ((a : Int) + 1 + offW (wd s a)) (wordsE (pE (wd s a)) (pC (wd s a))) with
   | true => exact hn _ hq
   | false => exact (hi hq).elim
theorem lay_kind {s : List Int} {a nx r : Nat} : ∀ (n : S37), lay s n a nx r → wd s a = 0 ∨ kindW (wd s a) ≤ 1
 | ⟨k, e, n, b, l⟩, h => by
  unfold lay at h
  split at h
  ·exact .inl h.1
  ·split at h
   ·split at h
    ·right; rw [h.1, encS_kind]; omega
    ·right; rw [h.1, encS_kind]; omega
   ·split at h
    ·right; rw [h.1, encL_kind]; omega
    ·split at h
     ·right; rw [h.1, encL_kind]; omega
     ·right; rw [h.1, encL_kind]; omega
theorem encS_inj {o o' d d' p p' : Int} (h : encS o d p = encS o' d' p') (hd : 0 ≤ d ∧ d ≤ 65535) (hd' : 0 ≤ d' ∧ d' ≤ 65535) (hp : 0 ≤ p ∧ p ≤ 65535) (hp' : 0 ≤ p' ∧ p' ≤ 65535) : d = d' ∧ p = p' ∧ o % 1073741824 = o' % 1073741824 := by
 unfold encS at h
 omega
theorem encL_inj {o o' e e' c c' : Int} (h : encL o e c = encL o' e' c') (he : 0 ≤ e ∧ e ≤ 7) (he' : 0 ≤ e' ∧ e' ≤ 7) (hc : 0 ≤ c ∧ c ≤ 536870911) (hc' : 0 ≤ c') : e = e' ∧ c = c' ∧ o % 1073741824 = o' % 1073741824 := by
 unfold encL at h
 omega
theorem off_eq {o : Int} {a nx S : Nat} (h : o % 1073741824 = ((nx : Int) - a - 1) % 1073741824) (hS : (a : Int) + 1 + o = S) (ha : a ≤ 536870000) (hn : nx ≤ 536870000) (ho : -536870912 ≤ o ∧ o ≤ 536870911) : S = nx := by omega
theorem kidsR_len {v : Int → Int → Tr} : ∀ (n : Nat) (a m : Int), (kidsR v n a m).2.2 = 0 → (kidsR v n a m).1.length = n
 | 0, _, _, _ => rfl
 | n + 1, a, m, h => by
  revert h
  unfold kidsR
  split
  ·rename_i he
   intro h
   exact (he h).elim
  ·intro h
   rw [List.length_cons, kidsR_len n _ _ h]
theorem vis_str {s : List Int} {f : Nat} (hok : ∀ x ∈ s, 0 ≤ x ∧ x < 18446744073709551616) (hlen : s.length ≤ 536870000) (H : VisP s f) (a nx r m : Nat) (ha : a < s.length) (hn : nx ≤ s.length) (h0 : wd s a ≠ 0) (hk0 : kindW (wd s a) = 0) (he : (valR [s] (f + 1) 0 a m).2.2 = 0) (hL : lay s (ttrim (valR [s] (f + 1) 0 a m).1) a nx r) :
  visV s (f + 1) a nx = some r ∧ r ≤ s.length ∧ ((valR [s] (f + 1) 0 a m).1.f0 = 0 ↔ wd s a = 0) := by
 have hwr : 0 ≤ wd s a ∧ wd s a < 18446744073709551616 := hok _ (by
  unfold wd
  rw [List.getD_eq_getElem?_getD, List.getElem?_eq_getElem ha]
  exact List.getElem_mem _)
 have ho : Okv s (f + 1) a := ⟨m, he⟩
 have hob := (ok_obj ha h0 (by omega) he).1
 obtain ⟨S, hS⟩ := st_nat ha h0 (by omega) hob
 obtain ⟨d, hd⟩ := Int.eq_ofNat_of_zero_le (dataW_bd (wd s a)).1
 obtain ⟨p, hp⟩ := Int.eq_ofNat_of_zero_le (ptrsW_bd (wd s a)).1
 have hdb := (dataW_bd (wd s a)).2
 have hpb := (ptrsW_bd (wd s a)).2
 have hO := obj_str (f := f) ha h0 hk0 hd hp hob
 obtain ⟨hm, hV⟩ := val_obj ha h0 (by omega) hO he
 obtain ⟨hin, _⟩ := str_ok ha h0 hk0 hd hp hS ho
 have hW := encS_of hwr.1 hwr.2 hk0
 rw [hd, hp] at hW
 have hoff := offW_bd (wd s a)
 unfold bodR at hV
 rw [if_pos rfl] at hV
 rw [hV] at he hL ⊢
 dsimp only at hm
 have hSt : (strR [s] (valR [s] f) ⟨1, 0, (a : Int) + 1 + offW (wd s a), d, p, 0, 0, (d : Int) + p⟩ ((m : Int) - ((d : Int) + p))).1 = ⟨1, 0, 0, bytesL (seg s S d), (kidsR (valR [s] f 0) p ((S + d : Nat) : Int) ((m - (d + p) : Nat) : Int)).1⟩ := by
  rw [strR_2] at he
  unfold strR
  dsimp only at he ⊢
  rw [Int.toNat_natCast] at he ⊢
  rw [if_neg (by rw [he]; simp), hS, cutG_one]
  rw [show ((S : Int) + (d : Int)) = ((S + d : Nat) : Int) by omega, show ((m : Int) - ((d : Int) + p)) = ((m - (d + p) : Nat) : Int) by omega]
 rw [strR_2] at he
 dsimp only at he
 rw [Int.toNat_natCast, hS, show ((S : Int) + (d : Int)) = ((S + d : Nat) : Int) by omega, show ((m : Int) - ((d : Int) + p)) = ((m - (d + p) : Nat) : Int) by omega] at he
 rw [hSt] at hL ⊢
 have hws : (seg s S d).length = d := by unfold seg; rw [List.length_take, List.length_drop]; omega
 rw [visV, if_neg h0, if_pos hk0]
 unfold vstr
 simp only [hd, hp, Int.toNat_natCast]
 rw [ttrim_struct] at hL
 have ht := twords_le_len (seg s S d)
 rw [hws] at ht
 have hkl : (kidsR (valR [s] f 0) p ((S + d : Nat) : Int) ((m - (d + p) : Nat) : Int)).1.length = p := kidsR_len _ _ _ he
 generalize hK : (kidsR (valR [s] f 0) p ((S + d : Nat) : Int) ((m - (d + p) : Nat) : Int)).1 = kids at *
 have hkn := keptN_le nullN kids
 unfold lay at hL
 rw [if_neg (by omega), if_pos rfl, List.length_take, List.length_map, List.length_take, bytesL_length, hws, show min (8 * twords (bytesL (seg s S d))) (8 * d) / 8 = twords (bytesL (seg s S d)) by omega, show min (keptN nullN kids) kids.length = keptN nullN kids by omega] at hL
 have hfin : ∀ {P Q R : Prop}, (P ∧ Q) → R → P ∧ Q ∧ R := fun h1 h2 => ⟨h1.1, h1.2, h2⟩
 refine hfin ?_ (by simp [h0])
 by_cases hz' : twords (bytesL (seg s S d)) + keptN nullN kids = 0
 ·rw [if_pos hz'] at hL
  have h1 := encS_inj (hW.symm.trans hL.1) (by omega) (by omega) (by omega) (by omega)
  have hd0 : d = 0 := by omega
  have hp0 : p = 0 := by omega
  have ho1 : offW (wd s a) = -1 := by omega
  rw [if_pos (by omega), if_pos ho1, hL.2]
  exact ⟨rfl, hn⟩
 rw [if_neg hz'] at hL
 obtain ⟨l1, l2, l3, l4⟩ := hL
 have h1 := encS_inj (hW.symm.trans l1) (by omega) (by omega) (by omega) (by omega)
 have hSn := off_eq h1.2.2 hS (by omega) (by omega) hoff
 subst hSn
 have htd : twords (bytesL (seg s S d)) = d := by omega
 have hkp : keptN nullN kids = kids.length := by omega
 rw [htd, hkp, List.take_length, hkl] at l4
 rw [← hK] at l4
 obtain ⟨i1, i2, i3, i4⟩ := lays_vis H p (S + d) (S + (d + p)) r (m - (d + p)) (by omega) hin he l4
 rw [hK] at i3 i4
 have hl1 : lastM s S d = true := by
  unfold lastM
  by_cases hd0 : d = 0
  ·simp [hd0]
  ·have := last_twords (seg s S d) (by omega) (by omega)
   rw [hws, seg_last (by omega)] at this
   simp [this]
 have hl2 : (decide (p = 0) || decide (wd s (S + d + p - 1) ≠ 0)) = true := by
  by_cases hp0 : p = 0
  ·simp [hp0]
  ·have hlt : kids.length - 1 < kids.length := by omega
   have h5 := kept_last hkp (by omega) _ (List.getElem?_eq_getElem hlt)
   have h6 := i4 (kids.length - 1) _ (List.getElem?_eq_getElem hlt)
   rw [show S + d + (kids.length - 1) = S + d + p - 1 by omega] at h6
   have : wd s (S + d + p - 1) ≠ 0 := fun h => h5 (h6.2 h)
   simp [this]
 rw [if_neg (by omega), if_pos hS, if_pos hl1, if_pos hl2]
 exact ⟨i1, i2⟩
end Go.Proofs.YtidglmocekghmaaDoor.Pr
end
section
namespace Go.Proofs.YtidglmocekghmaaDoor.Pr
def Byt (b : List Int) : Prop := ∀ i, 0 ≤ b.getD i 0 ∧ b.getD i 0 < 256
theorem byt_of {b : List Int} (h : ∀ x ∈ b, 0 ≤ x ∧ x < 256) : Byt b := fun i => by
 rw [List.getD_eq_getElem?_getD]
 cases hq : b[i]? with
 | none => simp
 | some x => exact h x (List.mem_of_getElem? hq)
theorem bytesW_wordB {b : List Int} (h : Byt b) (j : Nat) (hj : j < 8) : (bytesW (wordB b)).getD j 0 = b.getD j 0 := by
 have h0 := h 0
 have h1 := h 1
 have h2 := h 2
 have h3 := h 3
 have h4 := h 4
 have h5 := h 5
 have h6 := h 6
 have h7 := h 7
 unfold bytesW wordB
 match j, hj with
 | 0, _ | 1, _ | 2, _ | 3, _ | 4, _ | 5, _ | 6, _ | 7, _ =>
  simp only [List.getD_cons_zero, List.getD_cons_succ]
  omega
theorem bytesL_wordsB : ∀ (n : Nat) (T : List Int), Byt T → ∀ i, i < 8 * n → (bytesL (wordsB n T)).getD i 0 = T.getD i 0
 | 0, _, _, i, hi => by omega
 | n + 1, T, hT, i, hi => by
  rw [wordsB, bytesL, List.getD_eq_getElem?_getD]
  by_cases h8 : i < 8
  ·rw [List.getElem?_append_left (by rw [bytesW_len]; omega), ← List.getD_eq_getElem?_getD, bytesW_wordB (fun j => by rw [getD_take8]; split; exact hT j; omega) i h8, getD_take8, if_pos h8]
  ·rw [List.getElem?_append_right (by rw [bytesW_len]; omega), bytesW_len, ← List.getD_eq_getElem?_getD, bytesL_wordsB n (T.drop 8) (fun j => by rw [getD_drop8]; exact hT _) (i - 8) (by omega), getD_drop8, show 8 + (i - 8) = i by omega]
theorem trimE_byt {e c : Int} {b : List Int} (h : ∀ x ∈ b, 0 ≤ x ∧ x < 256) : Byt (trimE e c b) := by
 have hb := byt_of h
 refine byt_of (fun x hx => ?_)
 unfold trimE at hx
 split at hx
 ·rcases List.mem_or_eq_of_mem_set hx with hx | hx
  ·exact h x (List.mem_of_mem_take hx)
  ·have h1 := hb ((bytesE e c).toNat - 1)
   rw [hx]
   generalize b.getD ((bytesE e c).toNat - 1) 0 = y at *
   have hk : (c % 8).toNat < 8 := by omega
   generalize (c % 8).toNat = k at *
   match k, hk with
   | 0, _ | 1, _ | 2, _ | 3, _ | 4, _ | 5, _ | 6, _ | 7, _ =>
    simp only [Int.reducePow]
    omega
 ·exact h x (List.mem_of_mem_take hx)
theorem rest_of_words {s : List Int} {e c : Int} {nx n : Nat} (hin : nx + n ≤ s.length) (h : seg s nx n = wordsB n (trimE e c (bytesL (seg s nx n)))) : restM s e c nx n = true := by
 have hl : (seg s nx n).length = n := by unfold seg; rw [List.length_take, List.length_drop]; omega
 have hbl : (bytesL (seg s nx n)).length = 8 * n := by rw [bytesL_length, hl]
 unfold restM
 dsimp only
 rw [decide_eq_true_eq]
 change (trimE e c (bytesL (seg s nx n)) ++ List.replicate (bytesL (seg s nx n)).length 0).take (bytesL (seg s nx n)).length = bytesL (seg s nx n)
 have hT := trimE_byt (e := e) (c := c) (bytesL_bd (seg s nx n))
 generalize hq : trimE e c (bytesL (seg s nx n)) = T at *
 refine List.ext_getElem (by simp) (fun i h1 h2 => ?_)
 have h3 := bytesL_wordsB n T hT i (by omega)
 rw [← h] at h3
 rw [List.getElem_take]
 have h4 := getD_zeros T (bytesL (seg s nx n)).length i
 rw [← h3, List.getD_eq_getElem?_getD, List.getD_eq_getElem?_getD, List.getElem?_eq_getElem (by simp; omega), List.getElem?_eq_getElem h2] at h4
 simpa using h4
theorem vis_lst {s : List Int} {f : Nat} (hok : ∀ x ∈ s, 0 ≤ x ∧ x < 18446744073709551616) (hlen : s.length ≤ 536870000) (H : VisP s f) (a nx r m : Nat) (ha : a < s.length) (hn : nx ≤ s.length) (h0 : wd s a ≠ 0) (hk1 : kindW (wd s a) = 1) (he7 : elemW (wd s a) ≠ 7) (he : (valR [s] (f + 1) 0 a m).2.2 = 0) (hL : lay s (ttrim (valR [s] (f + 1) 0 a m).1) a nx r) :
  visV s (f + 1) a nx = some r ∧ r ≤ s.length ∧ ((valR [s] (f + 1) 0 a m).1.f0 = 0 ↔ wd s a = 0) := by
 have hwr : 0 ≤ wd s a ∧ wd s a < 18446744073709551616 := hok _ (by
  unfold wd
  rw [List.getD_eq_getElem?_getD, List.getElem?_eq_getElem ha]
  exact List.getElem_mem _)
 have ho : Okv s (f + 1) a := ⟨m, he⟩
 have hob := (ok_obj ha h0 (by omega) he).1
 obtain ⟨S, hS⟩ := st_nat ha h0 (by omega) hob
 obtain ⟨c, hc⟩ := Int.eq_ofNat_of_zero_le (cntW_bd (wd s a)).1
 have hcb := (cntW_bd (wd s a)).2
 have heb := elemW_bd (wd s a)
 obtain ⟨n, hw⟩ := Int.eq_ofNat_of_zero_le (wordsE_bd (elemW (wd s a)) (c : Int) (by omega) (by omega)).1
 obtain ⟨hin, _⟩ := lst_ok ha h0 hk1 he7 hc hw hS ho
 have hO := obj_lst ha h0 hk1 he7 hc hw hS hob
 obtain ⟨hm, hV⟩ := val_obj ha h0 (by omega) hO he
 have hW := encL_of hwr.1 hwr.2 hk1
 rw [hc] at hW
 have hoff := offW_bd (wd s a)
 have hfin : ∀ {P Q R : Prop}, (P ∧ Q) → R → P ∧ Q ∧ R := fun h1 h2 => ⟨h1.1, h1.2, h2⟩
 unfold bodR at hV
 dsimp only at hV hm
 rw [visV, if_neg h0, if_neg (by omega), if_pos hk1]
 unfold vlist
 rw [if_neg he7, hc, hw, Int.toNat_natCast]
 by_cases he6 : elemW (wd s a) = 6
 ·have hnc : n = c := by
   rw [he6] at hw
   unfold wordsE bitsE at hw
   simp at hw
   omega
  subst hnc
  rw [if_neg (by omega), if_neg (by omega), if_pos he6, Int.toNat_natCast, show ((m : Int) - (n : Int)) = ((m - n : Nat) : Int) by omega] at hV
  rw [hV] at he hL
  by_cases hke : (kidsR (valR [s] f 0) n (S : Int) ((m - n : Nat) : Int)).2.2 = 0
  ·rw [if_neg (by rw [hke]; simp)] at hL
   refine hfin ?_ (by rw [hV, if_neg (by rw [hke]; simp)]; simp [h0])
   dsimp only at hL
   rw [ttrim_list] at hL
   unfold lay at hL
   rw [if_neg (by omega), if_neg (by omega), if_neg he7, if_pos he6, List.length_map, kidsR_len _ _ _ hke] at hL
   rw [he6] at hW
   have h1 := encL_inj (hW.symm.trans hL.1) (by omega) (by omega) (by omega) (by omega)
   have hSn := off_eq h1.2.2 hS (by omega) (by omega) hoff
   subst hSn
   obtain ⟨i1, i2, _⟩ := lays_vis H n S (S + n) r (m - n) hin hin hke hL.2.2
   rw [if_pos hS, if_pos he6]
   exact ⟨i1, i2⟩
  ·rw [if_pos hke] at he
   exact (hke he).elim
 ·rw [if_neg (by omega), if_pos (by omega), cutG_one] at hV
  rw [hV] at hL ⊢
  refine hfin ?_ (by simp [h0])
  dsimp only at hL
  rw [ttrim_list] at hL
  unfold lay at hL
  rw [if_neg (by omega), if_neg (by omega), if_neg he7, if_neg he6, hw, Int.toNat_natCast] at hL
  obtain ⟨l1, l2, l3, l4⟩ := hL
  have h1 := encL_inj (hW.symm.trans l1) (by omega) (by omega) (by omega) (by omega)
  have hSn := off_eq h1.2.2 hS (by omega) (by omega) hoff
  subst hSn
  rw [if_pos hS, if_neg he6, if_pos (rest_of_words hin l3), l4]
  exact ⟨rfl, hin⟩
end Go.Proofs.YtidglmocekghmaaDoor.Pr
end
section
namespace Go.Proofs.YtidglmocekghmaaDoor.Pr
open Go.RowKit Go.Proofs.YtidglmocekghmaaDoorW.PrintWords Go.Proofs.YtidglmocekghmaaDoorW.PrintLast Go.Proofs.YtidglmocekghmaaDoorW.PrintMore
set_option linter.unusedVariables false
set_option linter.unusedSimpArgs false
def hiW (c : List Int) : Nat → Int
 | 0 => 0
 | t + 1 => hiW c t * 256 + c.getD (7 - t) 0
theorem hiW_bd {c : List Int} (h : Byt c) : ∀ t, 0 ≤ hiW c t ∧ hiW c t < p2 (8 * t)
 | 0 => ⟨Int.le_refl _, p2_pos _⟩
 | t + 1 => by
  have h1 := hiW_bd h t
  have h2 := h (7 - t)
  have h3 : p2 (8 * (t + 1)) = p2 (8 * t) * 256 := by unfold p2; rw [show 8 * (t + 1) = 8 * t + 8 by omega, Nat.pow_add, Int.natCast_mul]; rfl
  rw [hiW, h3]
  omega
theorem hiW_8 (c : List Int) : hiW c 8 = wordB c := by
 simp only [hiW, wordB, Nat.sub_zero, Nat.reduceSub]
 omega
theorem cellB {w : World} {A : Option Addr} {s : List Int} (h : (Kd.int .u8).C w A s.length s) (i : Nat) (hi : i < s.length) : ∃ ad, A = some ad ∧ w.cell? (ad.add i) = some (.int .u8 (wd s i)) := by
 obtain ⟨a0, c, e0, _, hK, hcc⟩ := Kd.C_get h (0 : Int) i (by omega) (Int.ofNat_lt.2 hi)
 obtain rfl : c = [.int .u8 (wd s i)] := hK
 refine ⟨a0, e0, ?_⟩
 have := hcc 0 _ rfl
 simpa [Kd.int, Kd.scalar] using this
set_option maxHeartbeats 1000000 in
theorem get_any (A : Option Addr) (c : Nat) (b : List Int) (i : Nat) (w : World) (hr : (Kd.int .u8).C w A b.length b) (hb : ∀ x ∈ b, 0 ≤ x ∧ x < 256) (hl : b.length ≤ 140737488355328) (hi : 8 * i + 8 ≤ b.length) :
    Calls Tryd.prog 84 #[.slice A b.length c, .int .i64 i] w fun e w' => e = .returned (.tuple #[.int .u64 (wordB ((b.drop (8 * i)).take 8)), .bool true]) ∧ w' = w := by
  have HC := Lib.hid (fun j hj => cellB hr j hj)
  have hB : Byt ((b.drop (8 * i)).take 8) := byt_of (fun x hx => hb x (List.mem_of_mem_drop (List.mem_of_mem_take hx)))
  have HB := Lib.hid hB
  have HW : Hid (∀ t, t < 8 → ((b.drop (8 * i)).take 8).getD (7 - t) 0 = wd b (8 * i + (7 - t))) := Lib.hid (fun t ht => by
    unfold wd
    rw [List.getD_eq_getElem?_getD, List.getElem?_take_of_lt (by omega), List.getElem?_drop, List.getD_eq_getElem?_getD])
  have H8 := Lib.hid (hiW_8 ((b.drop (8 * i)).take 8))
  have HD := Lib.hid (hiW_bd hB)
  have HS := Lib.hid (fun t => hiW.eq_2 ((b.drop (8 * i)).take 8) t)
  have HZ : Hid (hiW ((b.drop (8 * i)).take 8) 0 = 0) := Lib.hid rfl
  generalize (b.drop (8 * i)).take 8 = cw at *
  obtain ⟨n, hn⟩ : ∃ n, b.length = n := ⟨_, rfl⟩
  rw [hn] at HC hl hi ⊢
  clear hr hb hB hn
  go_enter Tryd.func84, Tryd.ntmps84
  go_wp2
  go_loop [6, 7] (fun v k => ∃ t : Nat, t ≤ 8 ∧ k = .int .i64 (7 - (t : Int)) ∧ v = .int .u64 (hiW cw t)) (fun _ k => (intOf k + 1).toNat)
  case atStart => exact ⟨0, by omega, rfl, by rw [HZ.out]⟩
  case round =>
    obtain ⟨t, ht, rfl, rfl⟩ := hrel
    by_cases h8 : t < 8
    · obtain ⟨ad, rfl, hv⟩ := HC.out (8 * i + (7 - t)) (by omega)
      have h1 := HW.out t h8
      have h2 := HS.out t
      have h3 := HD.out t
      have h4 := HB.out (7 - t)
      rw [h1] at h2 h4
      have h5 : p2 (8 * t) ≤ 72057594037927936 := by have := p2_le (k := 8 * t) (m := 56) (by omega); rwa [show p2 56 = 72057594037927936 from rfl] at this
      have HN : Hid (hiW cw (t + 1) = hiW cw t * 256 + wd b (8 * i + (7 - t))) := Lib.hid h2
      obtain ⟨k, hk⟩ : ∃ k : Nat, 7 - (t : Int) = k := ⟨7 - t, by omega⟩
      have hk2 : 7 - t = k := by omega
      rw [hk2] at hv HN h4
      obtain ⟨x0, x1⟩ := h3
      obtain ⟨y0, y1⟩ := h4
      have x2 : hiW cw t < 72057594037927936 := by omega
      have hkI : ¬ (k : Int) < 0 := by omega
      clear h1 h2 h5 x1
      rw [hk]
      generalize hiW cw t = x at *
      generalize wd b (8 * i + k) = y at *
      go_wp2
      go_round
      case rel => exact ⟨t + 1, by omega, by go_num, by rw [HN.out]⟩
      case measure => simp [intOf]
    · obtain rfl : t = 8 := by omega
      go_wp2
      go_ret2
      exact ⟨by rw [← H8.out]; rfl, rfl⟩
end Go.Proofs.YtidglmocekghmaaDoor.Pr
end
section
namespace Go.Proofs.YtidglmocekghmaaDoor.Pr
open Go.RowKit Go.Proofs.YtidglmocekghmaaDoorW.PrintWords Go.Proofs.YtidglmocekghmaaDoorW.PrintLast Go.Proofs.YtidglmocekghmaaDoorW.PrintMore
set_option linter.unusedVariables false
set_option linter.unusedSimpArgs false
theorem wordsB_wd : ∀ (n : Nat) (b : List Int) (i : Nat), i < n → wd (wordsB n b) i = wordB ((b.drop (8 * i)).take 8)
 | n + 1, b, 0, _ => rfl
 | n + 1, b, i + 1, h => by
  have h1 := wordsB_wd n (b.drop 8) i (by omega)
  rw [List.drop_drop, show 8 + 8 * i = 8 * (i + 1) by omega] at h1
  exact h1
set_option maxHeartbeats 1000000 in
theorem words01_any (A : Option Addr) (c : Nat) (b : List Int) (n : Nat) (w : World) (hr : (Kd.int .u8).C w A b.length b) (hb : ∀ x ∈ b, 0 ≤ x ∧ x < 256) (hl : b.length ≤ 17592186040320) (hn : b.length = 8 * n) :
    Calls Tryd.prog 81 #[.slice A b.length c] w fun r w' => ∃ v, r = .returned (.tuple #[v, .bool true]) ∧ (Kd.int .u64).R 32 w' w.heap.size (fun _ => True) v (wordsB n b) ∧ Below w.heap.size w w' := by
  have HG := fun (i : Nat) (hi : i < n) w' (hw : Below w.heap.size w w') => Lib.hid (get_any A c b i w' (Kd.C_below hr hw) hb (by omega) (by omega))
  have HT : Hid (∀ i, i < n → (wordsB n b).take (i + 1) = (wordsB n b).take i ++ [wordB ((b.drop (8 * i)).take 8)]) := Lib.hid (fun i hi => by rw [← wordsB_wd n b i hi]; exact take_wd _ i (by rw [wordsB_len]; exact hi))
  have HL := Lib.hid (wordsB_len n b)
  have S := Lib.hid ((Sep.start w).nil (Kd.int .u64) 32)
  generalize (wordsB n b) = T at *
  obtain ⟨m, hm⟩ : ∃ m, b.length = m := ⟨_, rfl⟩
  rw [hm] at HG hl hn ⊢
  have hq : Hid ((m : Int) / 8 = n) := Lib.hid (by omega)
  have HLL0 : Hid (n ≤ 17592186040320) := Lib.hid (by omega)
  have h8 : (m : Int) % 8 = 0 := by omega
  clear hr hb hm hn
  go_enter Tryd.func81, Tryd.ntmps81
  go_wp2
  clear h8
  go_loopw [4, 5] (fun v k wr => ∃ j : Nat, j ≤ n ∧ k = .int .i64 j ∧ Hid (Sep w wr [.row (Kd.int .u64) 32 v (T.take j)])) (fun _ k _ => n - (intOf k).toNat)
  case atStart => exact ⟨0, Nat.zero_le _, rfl, S⟩
  case round =>
    clear S
    obtain ⟨j, hj, rfl, S⟩ := hrel
    have hq := hq.out
    by_cases hjl : j < n
    · have HX := Lib.hid (HT.out j hjl)
      have HLL : Hid ((T.take j).length ≤ 17592186040320) := Lib.hid (by have := HLL0.out; rw [List.length_take, HL.out]; omega)
      have HG1 := fun w' hw => HG j hjl w' hw
      generalize wordB ((b.drop (8 * j)).take 8) = x at *
      have S1 : Sep w wr [.row (Kd.int .u64) 32 u4 (T.take j), .made (Kd.int .u64) x [.int .u64 x]] := (S.out.one (Value.int .u64) (fun _ => rfl) x).swap
      have S := Lib.hid S1
      clear S1 HT HG
      go_wp2_with (first | ((with_reducible refine (HG1 _ S.out.below).out.mono ?_); rintro r w' ⟨rfl, rfl⟩) | (at_builtin; refine sp_append S.out rfl rfl Tryd.underlying22 info32 rfl (by decide) (by omega) rfl rfl (by have := HLL.out; omega) (fun v1 w1 S => ?_)))
      go_roundw
      case rel => exact ⟨j + 1, by omega, by go_num, Lib.hid (by rw [HX.out]; exact S)⟩
      case measure => simp [intOf]; omega
    · obtain rfl : j = n := by omega
      go_wp2
      go_ret2
      exact ⟨_, rfl, by have := S.out.outR .here; rwa [← HL.out, List.take_length] at this, S.out.below⟩
def lenV : Value → Nat
 | .slice _ n _ => n
 | _ => 0
theorem R_sl {α : Type} {d : Kd α} {e b : Nat} {w : World} {ok : Nat → Prop} {v : Value} {xs : List α} (h : d.R e w b ok v xs) : ∃ A n c, v = .slice A n c ∧ Hid (n = xs.length) := by
 obtain ⟨A, c, rfl⟩ := Kd.R_slice h
 exact ⟨A, _, c, rfl, Lib.hid rfl⟩
theorem padB (n : Nat) (b : List Int) (k : Nat) : wordsB n (b ++ List.replicate k 0) = wordsB n b := wordsB_eq n (fun i _ => getD_zeros b k i)
set_option maxHeartbeats 1000000 in
theorem padded_any (A : Option Addr) (c : Nat) (b : List Int) (n : Nat) (w : World) (hr : (Kd.int .u8).C w A b.length b) (hb : ∀ x ∈ b, 0 ≤ x ∧ x < 256) (hl : n ≤ 2000000000000) (hn : b.length ≤ 8 * n) :
    Calls Tryd.prog 68 #[.slice A b.length c, .int .i64 n] w fun r w' => ∃ v, r = .returned v ∧ (Kd.int .u64).R 32 w' w.heap.size (fun _ => True) v (wordsB n b) ∧ Below w.heap.size w w' := by
  have HW := fun (A' : Option Addr) (c' : Nat) (w' : World) (h : (Kd.int .u8).C w' A' (8 * n) (b ++ List.replicate (8 * n - b.length) 0)) => Lib.hid (by
    have e : (b ++ List.replicate (8 * n - b.length) 0).length = 8 * n := by simp; omega
    have := words01_any A' c' (b ++ List.replicate (8 * n - b.length) 0) n w' (by rw [e]; exact h) (fun x hx => by
      rcases List.mem_append.1 hx with hx | hx
      · exact hb x hx
      · have := (List.mem_replicate.1 hx).2
        omega) (by omega) e
    rw [e, padB] at this
    exact this)
  have HB := Lib.hid hr
  have S := Sep.start w
  generalize wordsB n b = T at *
  obtain ⟨m, hm⟩ : ∃ m, b.length = m := ⟨_, rfl⟩
  have HM := Lib.hid hm
  rw [hm] at HB HW hn ⊢
  clear hr hb hm
  go_enter Tryd.func68, Tryd.ntmps68
  go_wp2_with (first | ((with_reducible refine gate_dst (N := 8) rfl ?_); refine sp_lit (Kd.int .u8) 5 (N := 8) rfl rfl S [] [] ?hr (Reps.none _ _) (by simp) (fun g w1 S => ?_); (case hr => first | (go_simp; done) | (go_simp; rfl))) | ((with_reducible refine gate_builtin (b := .append) (xs := #[.tmp 8, .tmp 9]) rfl ?_); at_builtin; refine sp_rows S rfl rfl Tryd.underlying34 info5 rfl (by decide) (by omega) rfl rfl (Kd.C_below HB.out S.below) (fun _ _ h => h) (by have := HM.out; simp; omega) (fun v1 w1 S => ?_)))
  have S := Lib.hid S
  go_loopw [5] (fun v wr => ∃ j : Nat, m + j ≤ 8 * n ∧ Hid (Sep w wr [.row (Kd.int .u8) 5 v (b ++ List.replicate j 0)])) (fun v _ => 8 * n - lenV v)
  case atStart => exact ⟨0, by omega, by simpa using S⟩
  case round =>
    clear S
    obtain ⟨j, hj, S⟩ := hrel
    obtain ⟨A1, c1, rfl⟩ := Kd.R_slice (S.out.outR .here)
    have HE : Hid ((b ++ List.replicate j 0).length = m + j) := Lib.hid (by rw [List.length_append, HM.out, List.length_replicate])
    rw [HE.out] at S ⊢
    by_cases hjl : m + j < 8 * n
    · have hlt : ((m + j : Nat) : Int) < 8 * (n : Int) := by omega
      have HX : Hid (b ++ List.replicate (j + 1) 0 = b ++ List.replicate j 0 ++ [0]) := Lib.hid (by rw [List.replicate_succ', List.append_assoc])
      have S1 : Sep w wr [.row (Kd.int .u8) 5 (.slice A1 (m + j) c1) (b ++ List.replicate j 0), .made (Kd.int .u8) 0 [.int .u8 0]] := (S.out.one (Value.int .u8) (fun _ => rfl) 0).swap
      have S := Lib.hid S1
      clear S1
      go_wp2_with (at_builtin; refine sp_append S.out rfl rfl Tryd.underlying34 info5 rfl (by decide) (by omega) rfl rfl (by rw [HE.out]; omega) (fun v1 w1 S => ?_); obtain ⟨A2, n2, c2, rfl, hn2⟩ := R_sl (S.outR .here))
      go_roundw
      case rel => exact ⟨j + 1, by omega, by rw [HX.out]; exact Lib.hid S⟩
      case measure => have := hn2.out; simp only [List.length_append, HE.out, List.length_cons, List.length_nil] at this; simp only [lenV]; omega
    · have hlt : ¬ ((m + j : Nat) : Int) < 8 * (n : Int) := by omega
      have hq1 : m + j = 8 * n := by omega
      have hj2 : 8 * n - b.length = j := by rw [HM.out]; omega
      have hC := (Kd.R_reads' (S.out.outR .here)).2.2
      rw [HE.out] at hC
      rw [hq1] at S hC hlt ⊢
      rw [HM.out] at hj2
      rw [hj2] at HW
      have HW1 := HW A1 c1 wr hC
      clear hC hq1 HW hj2 HE
      go_wp2_with ((with_reducible refine HW1.out.mono ?_); rintro r w' ⟨v, rfl, hR, hb⟩; replace S := S.out.push (a := .row (Kd.int .u64) 32 _ T) hb hR)
      exact rt S ⟨_, rfl, S.outR .here, S.below⟩
end Go.Proofs.YtidglmocekghmaaDoor.Pr
end
section
namespace Go.Proofs.YtidglmocekghmaaDoor.Pr
open Go.RowKit Go.Proofs.YtidglmocekghmaaDoorW.PrintWords Go.Proofs.YtidglmocekghmaaDoorW.PrintLast Go.Proofs.YtidglmocekghmaaDoorW.PrintMore
set_option linter.unusedVariables false
set_option linter.unusedSimpArgs false
structure NdAt (w : World) (ad : Addr) (x : S37) (A3 : Option Addr) (c3 : Nat) (A4 : Option Addr) (c4 : Nat) : Prop where
 h0 : w.cell? ad = some (.int .i64 x.f0)
 h1 : w.cell? ⟨ad.block, ad.off + 1, none⟩ = some (.int .i64 x.f1)
 h2 : w.cell? ⟨ad.block, ad.off + 2, none⟩ = some (.int .i64 x.f2)
 h3 : w.cell? ⟨ad.block, ad.off + 3, none⟩ = some (.slice A3 x.f3.length c3)
 h4 : w.cell? ⟨ad.block, ad.off + 4, none⟩ = some (.slice A4 x.f4.length c4)
 l3 : x.f3.length ≤ c3
 g3 : (Kd.int .u8).C w A3 x.f3.length x.f3
 l4 : x.f4.length ≤ c4
 g4 : k37.C w A4 x.f4.length x.f4
theorem kid_at {w : World} {A : Option Addr} {l : List S37} (h : k37.C w A l.length l) (i : Nat) (hi : i < l.length) : ∃ ad A3 c3 A4 c4, A = some ad ∧ NdAt w (ad.add (i * 5)) l[i] A3 c3 A4 c4 := by
 obtain ⟨ad, A3, c3, A4, c4, e, h0, h1, h2, h3, h4, l3, g3, l4, g4⟩ := at_T37 h (i : Int) (by omega) (by omega)
 have hr : rd_T37 l (i : Int) = l[i] := by unfold rd_T37; rw [Int.toNat_natCast, List.getD_eq_getElem?_getD, List.getElem?_eq_getElem hi]; rfl
 rw [hr, Int.toNat_natCast] at h0 h1 h2 h3 h4
 rw [hr] at l3 g3 l4 g4
 exact ⟨ad, A3, c3, A4, c4, e, h0, h1, h2, h3, h4, l3, g3, l4, g4⟩
theorem K_C3 {w : World} {n : S37} {A3 A4 : Option Addr} {c3 c4 : Nat} (h : k37.K w n [.int .i64 n.f0, .int .i64 n.f1, .int .i64 n.f2, .slice A3 n.f3.length c3, .slice A4 n.f4.length c4]) : n.f3.length ≤ c3 ∧ (Kd.int .u8).C w A3 n.f3.length n.f3 ∧ n.f4.length ≤ c4 ∧ k37.C w A4 n.f4.length n.f4 := by
 obtain ⟨B3, d3, B4, d4, e, l3, g3, l4, g4⟩ := k37_open h
 simp only [List.cons.injEq, Value.slice.injEq, true_and, and_true] at e
 obtain ⟨⟨rfl, rfl⟩, rfl, rfl⟩ := e
 exact ⟨l3, g3, l4, g4⟩
theorem maxD_snoc (l : List S37) (x : S37) : maxD (l ++ [x]) = max (maxD l) (x.f3.length / 8) := by
 induction l with
 | nil => simp [maxD]
 | cons y l ih => simp only [List.cons_append, maxD, ih]; omega
theorem maxP_snoc (l : List S37) (x : S37) : maxP (l ++ [x]) = max (maxP l) x.f4.length := by
 induction l with
 | nil => simp [maxP]
 | cons y l ih => simp only [List.cons_append, maxP, ih]; omega
theorem take_snoc {α : Type} (l : List α) (i : Nat) (h : i < l.length) : l.take (i + 1) = l.take i ++ [l[i]] := by simp
abbrev ndV (n : S37) (A3 : Option Addr) (c3 : Nat) (A4 : Option Addr) (c4 : Nat) : Value := .agg #[.int .i64 n.f0, .int .i64 n.f1, .int .i64 n.f2, .slice A3 n.f3.length c3, .slice A4 n.f4.length c4]
abbrev ndC (n : S37) (A3 : Option Addr) (c3 : Nat) (A4 : Option Addr) (c4 : Nat) : List Value := [.int .i64 n.f0, .int .i64 n.f1, .int .i64 n.f2, .slice A3 n.f3.length c3, .slice A4 n.f4.length c4]
set_option maxRecDepth 100000 in
set_option maxHeartbeats 4000000 in
theorem uniform_any (n : S37) (A3 A4 : Option Addr) (c3 c4 : Nat) (w : World) (h : k37.K w n (ndC n A3 c3 A4 c4)) :
    Calls Tryd.prog 70 #[ndV n A3 c3 A4 c4] w fun r w' => r = .returned (.tuple #[.int .i64 (maxD n.f4 : Nat), .int .i64 (maxP n.f4 : Nat)]) ∧ Below w.heap.size w w' := by
  obtain ⟨-, -, -, g4⟩ := K_C3 h
  have HK := Lib.hid (fun i hi => kid_at g4 i hi)
  have HM : Hid (∀ i (hi : i < n.f4.length), maxD (n.f4.take (i + 1)) = max (maxD (n.f4.take i)) (n.f4[i].f3.length / 8) ∧ maxP (n.f4.take (i + 1)) = max (maxP (n.f4.take i)) n.f4[i].f4.length) := Lib.hid (fun i hi => by rw [take_snoc _ _ hi, maxD_snoc, maxP_snoc]; exact ⟨rfl, rfl⟩)
  have HL : Hid (maxD (n.f4.take n.f4.length) = maxD n.f4 ∧ maxP (n.f4.take n.f4.length) = maxP n.f4) := Lib.hid (by rw [List.take_length]; exact ⟨rfl, rfl⟩)
  have HZ : Hid (maxD (n.f4.take 0) = 0 ∧ maxP (n.f4.take 0) = 0) := Lib.hid ⟨rfl, rfl⟩
  have hl := g4.2.1
  obtain ⟨f0, f1, f2, f3, l⟩ := n
  dsimp only [ndV] at *
  generalize f3.length = m3 at *
  obtain ⟨m, hm⟩ : ∃ m, l.length = m := ⟨_, rfl⟩
  rw [hm] at hl HL ⊢
  have HH := Lib.hid hm
  have S := Sep.start w
  clear g4 h hm
  go_enter Tryd.func70, Tryd.ntmps70
  go_wp2_with (first | go_skip | ((with_reducible refine wl ?_); refine sn S (fun g w1 S => ?_)))
  have S := Lib.hid S
  go_loopw [4, 5, 6] (fun a b k wr => ∃ j : Nat, j ≤ m ∧ k = .int .i64 j ∧ a = .int .i64 (maxD (l.take j) : Nat) ∧ b = .int .i64 (maxP (l.take j) : Nat) ∧ Hid (Sep w wr [.box g #[.int .i64 f0, .int .i64 f1, .int .i64 f2, .slice A3 m3 c3, .slice A4 m c4] 37])) (fun _ _ k _ => m - (intOf k).toNat)
  case atStart => exact ⟨0, Nat.zero_le _, rfl, by rw [HZ.out.1]; rfl, by rw [HZ.out.2]; rfl, S⟩
  case round =>
    clear S
    obtain ⟨j, hj, rfl, rfl, rfl, S⟩ := hrel
    by_cases hjl : j < m
    · obtain ⟨ad, B3, d3, B4, d4, rfl, hN⟩ := HK.out j (by rw [HH.out]; exact hjl)
      obtain ⟨e1, e2⟩ := HM.out j (by rw [HH.out]; exact hjl)
      have hv3 := hN.h3
      have hv4 := hN.h4
      have b3 := hN.g3.2.1
      have b4 := hN.g4.2.1
      have HE1 := Lib.hid e1
      have HE2 := Lib.hid e2
      clear e1 e2 hN
      generalize maxD (l.take j) = x at *
      generalize maxP (l.take j) = y at *
      generalize (l[j]'(by rw [HH.out]; exact hjl)).f3.length = q3 at *
      generalize (l[j]'(by rw [HH.out]; exact hjl)).f4.length = q4 at *
      have q3' : ((q3 : Int) / 8) = ((q3 / 8 : Nat) : Int) := by omega
      obtain ⟨d, hd⟩ : ∃ d, q3 / 8 = d := ⟨_, rfl⟩
      rw [hd] at q3' HE1
      have b5 : d ≤ 9223372036854775807 := by omega
      clear hd
      have HQ := Lib.hid q3'
      clear q3'
      have S := S.out
      by_cases c1 : x < d
      · have t1 : decide ((x : Int) < (q3 : Int) / 8) = true := decide_eq_true (by rw [HQ.out]; omega)
        have T1 := Lib.hid c1
        clear c1
        by_cases c2 : y < q4
        · have t2 : decide ((y : Int) < (q4 : Int)) = true := decide_eq_true (by omega)
          have T2 := Lib.hid c2
          clear c2
          go_wp2_with (first | go_skip | ((with_reducible refine wl ?_); first | refine sl S ?_ | refine sx S hv3 ?_ | refine sx S hv4 ?_))
          go_roundw
          case rel => exact ⟨j + 1, by omega, by go_num, by rw [HE1.out, Nat.max_eq_right (Nat.le_of_lt T1.out)]; rw [HQ.out], by rw [HE2.out, Nat.max_eq_right (Nat.le_of_lt T2.out)], Lib.hid S⟩
          case measure => simp [intOf]; omega
        · have t2 : decide ((y : Int) < (q4 : Int)) = false := decide_eq_false (by omega)
          have T2 := Lib.hid c2
          clear c2
          go_wp2_with (first | go_skip | ((with_reducible refine wl ?_); first | refine sl S ?_ | refine sx S hv3 ?_ | refine sx S hv4 ?_))
          go_roundw
          case rel => exact ⟨j + 1, by omega, by go_num, by rw [HE1.out, Nat.max_eq_right (Nat.le_of_lt T1.out)]; rw [HQ.out], by rw [HE2.out, Nat.max_eq_left (Nat.le_of_not_lt T2.out)], Lib.hid S⟩
          case measure => simp [intOf]; omega
      · have t1 : decide ((x : Int) < (q3 : Int) / 8) = false := decide_eq_false (by rw [HQ.out]; omega)
        have T1 := Lib.hid c1
        clear c1
        by_cases c2 : y < q4
        · have t2 : decide ((y : Int) < (q4 : Int)) = true := decide_eq_true (by omega)
          have T2 := Lib.hid c2
          clear c2
          go_wp2_with (first | go_skip | ((with_reducible refine wl ?_); first | refine sl S ?_ | refine sx S hv3 ?_ | refine sx S hv4 ?_))
          go_roundw
          case rel => exact ⟨j + 1, by omega, by go_num, by rw [HE1.out, Nat.max_eq_left (Nat.le_of_not_lt T1.out)], by rw [HE2.out, Nat.max_eq_right (Nat.le_of_lt T2.out)], Lib.hid S⟩
          case measure => simp [intOf]; omega
        · have t2 : decide ((y : Int) < (q4 : Int)) = false := decide_eq_false (by omega)
          have T2 := Lib.hid c2
          clear c2
          go_wp2_with (first | go_skip | ((with_reducible refine wl ?_); first | refine sl S ?_ | refine sx S hv3 ?_ | refine sx S hv4 ?_))
          go_roundw
          case rel => exact ⟨j + 1, by omega, by go_num, by rw [HE1.out, Nat.max_eq_left (Nat.le_of_not_lt T1.out)], by rw [HE2.out, Nat.max_eq_left (Nat.le_of_not_lt T2.out)], Lib.hid S⟩
          case measure => simp [intOf]; omega
    · obtain rfl : j = m := by omega
      rw [HL.out.1, HL.out.2]
      have S := S.out
      go_wp2_with (first | go_skip | ((with_reducible refine wl ?_); refine sl S ?_))
      exact rt S ⟨rfl, S.below⟩
end Go.Proofs.YtidglmocekghmaaDoor.Pr
end
section
namespace Go.Proofs.YtidglmocekghmaaDoor.Pr
open Go.RowKit Go.Proofs.YtidglmocekghmaaDoorW.PrintWords Go.Proofs.YtidglmocekghmaaDoorW.PrintLast Go.Proofs.YtidglmocekghmaaDoorW.PrintMore
set_option linter.unusedVariables false
set_option linter.unusedSimpArgs false
set_option maxRecDepth 100000 in
set_option maxHeartbeats 4000000 in
theorem obj13_any (n : S37) (A3 A4 : Option Addr) (c3 c4 : Nat) (w : World) (h0 : n.f0 = 2) (h1 : n.f1 ≠ 7) (c0 : 0 ≤ n.f2) (c1 : n.f2 ≤ 536870911) :
    Calls Tryd.prog 69 #[ndV n A3 c3 A4 c4] w fun r w' => r = .returned (.int .i64 (wordsE n.f1 n.f2)) ∧ Below w.heap.size w w' := by
  have HW := fun w => Lib.hid (words_any6 n.f1 n.f2 w c0 c1)
  obtain ⟨f0, f1, f2, f3, l⟩ := n
  dsimp only [ndV] at *
  subst h0
  have t1 : (f1 == 7) = false := beq_eq_false_iff_ne.2 h1
  have S := Sep.start w
  clear h1
  go_enter Tryd.func69, Tryd.ntmps69
  go_wp2_with (first | go_skip | ((with_reducible refine wl ?_); first | refine sn S (fun g w1 S => ?_) | refine sl S ?_) | ((with_reducible refine (HW _).out.mono ?_); rintro r w' ⟨rfl, rfl⟩))
  exact rt S ⟨rfl, S.below⟩
def targetsL (n : S37) : List S37 := if n.f0 = 2 ∧ n.f1 = 7 then n.f4.flatMap (·.f4) else n.f4
theorem flat_snoc (l : List S37) (x : S37) : (l ++ [x]).flatMap (·.f4) = l.flatMap (·.f4) ++ x.f4 := by simp
set_option maxRecDepth 100000 in
set_option maxHeartbeats 4000000 in
theorem targets_any (n : S37) (A3 A4 : Option Addr) (c3 c4 : Nat) (w : World) (h : k37.K w n (ndC n A3 c3 A4 c4)) (hl : (targetsL n).length ≤ 1000000000000) :
    Calls Tryd.prog 50 #[ndV n A3 c3 A4 c4] w fun r w' => ∃ A c, r = .returned (.slice A (targetsL n).length c) ∧ k37.C w' A (targetsL n).length (targetsL n) ∧ Below w.heap.size w w' := by
  obtain ⟨-, -, l4, g4⟩ := K_C3 h
  have S := Sep.start w
  by_cases hq : n.f0 = 2 ∧ n.f1 = 7
  · have HK := Lib.hid (fun i hi => kid_at g4 i hi)
    have hT : targetsL n = n.f4.flatMap (·.f4) := if_pos hq
    have HM : Hid (∀ i (hi : i < n.f4.length), (n.f4.take (i + 1)).flatMap (·.f4) = (n.f4.take i).flatMap (·.f4) ++ n.f4[i].f4) := Lib.hid (fun i hi => by rw [take_snoc _ _ hi, flat_snoc])
    have HLE : Hid (∀ i, ((n.f4.take i).flatMap (·.f4)).length ≤ 1000000000000) := Lib.hid (fun i => by
      rw [hT] at hl
      have e := congrArg (fun l : List S37 => (l.flatMap (·.f4)).length) (List.take_append_drop i n.f4)
      simp only [List.flatMap_append, List.length_append] at e
      omega)
    have HF : Hid ((n.f4.take n.f4.length).flatMap (·.f4) = targetsL n) := Lib.hid (by rw [List.take_length, hT])
    have hl4 := g4.2.1
    generalize targetsL n = T at *
    obtain ⟨f0, f1, f2, f3, l⟩ := n
    dsimp only [ndV] at *
    obtain ⟨rfl, rfl⟩ := hq
    generalize f3.length = m3 at *
    obtain ⟨m, hm⟩ : ∃ m, l.length = m := ⟨_, rfl⟩
    rw [hm] at hl4 HF ⊢
    have HH := Lib.hid hm
    clear g4 h hm hl hT l4
    go_enter Tryd.func50, Tryd.ntmps50
    go_wp2_with (first | go_skip | ((with_reducible refine wl ?_); first | refine sn S (fun g w1 S => ?_) | refine sl S ?_))
    have S := Lib.hid (S.nil (Kd.raw 5) 37)
    go_loopw [3, 4] (fun v k wr => ∃ (j : Nat) (rows : List (List Value)), j ≤ m ∧ k = .int .i64 j ∧ Hid (RowsK k37 w ((l.take j).flatMap (·.f4)) rows) ∧ Hid (Sep w wr [.row (Kd.raw 5) 37 v rows, .box g #[.int .i64 2, .int .i64 7, .int .i64 f2, .slice A3 m3 c3, .slice A4 m c4] 37])) (fun _ k _ => m - (intOf k).toNat)
    case atStart => exact ⟨0, [], Nat.zero_le _, rfl, Lib.hid (RowsK.nil _ _), S⟩
    case round =>
      clear S
      obtain ⟨j, rows, hj, rfl, HR, S⟩ := hrel
      by_cases hjl : j < m
      · obtain ⟨ad, B3, d3, B4, d4, rfl, hN⟩ := HK.out j (by rw [HH.out]; exact hjl)
        have e1 := HM.out j (by rw [HH.out]; exact hjl)
        have hv4 := hN.h4
        have b4 := hN.g4.2.1
        obtain ⟨news, k1, k2⟩ := rows_of_C hN.g4
        have HR2 : Hid (RowsK k37 w ((l.take (j + 1)).flatMap (·.f4)) (rows ++ news)) := Lib.hid (by rw [e1]; exact HR.out.append k1)
        have HBL : Hid (rows.length + (l[j]'(by rw [HH.out]; exact hjl)).f4.length ≤ 1000000000000) := Lib.hid (by
          have h2 := HLE.out (j + 1)
          rw [e1, List.length_append] at h2
          rw [HR.out.1]
          exact h2)
        have HC2 := Lib.hid k2
        clear e1 hN k1 k2 HR
        generalize (l[j]'(by rw [HH.out]; exact hjl)).f4.length = q4 at *
        have S := S.out
        obtain ⟨A1, n1, c1, rfl, -⟩ := R_sl (S.outR .here)
        go_wp2_with (first | go_skip | ((with_reducible refine wl ?_); first | refine sl S ?_ | refine sx S hv4 ?_) | (at_builtin; refine sp_rows S rfl rfl Tryd.underlying35 info37 rfl (by decide) (by omega) rfl rfl (Kd.C_below HC2.out S.below) (fun _ _ h => h) (by have := HBL.out; omega) (fun v1 w1 S => ?_)))
        go_roundw
        case rel => exact ⟨j + 1, _, by omega, by go_num, HR2, Lib.hid S⟩
        case measure => simp [intOf]; omega
      · obtain rfl : j = m := by omega
        rw [HF.out] at HR
        have S := S.out
        obtain ⟨A1, n1, c1, rfl, hn1⟩ := R_sl (S.outR .here)
        go_wp2_with (first | go_skip | ((with_reducible refine wl ?_); first | refine sl S ?_))
        refine rt S ?_
        have hR := S.outR .here
        obtain ⟨A, c, e, hc, hC⟩ := C_of_R hR ⟨HR.out.1, fun j x cs hx hc => k37.K_below (below_step (Below.refl _ _) (S.below.mono (Nat.le_refl _))) (HR.out.2 j x cs hx hc)⟩
        injection e with e1 e2 e3
        subst e1 e2 e3
        exact ⟨_, _, rfl, hC, S.below⟩
  · have hT : targetsL n = n.f4 := if_neg hq
    rw [hT]
    have HC := Lib.hid g4
    obtain ⟨f0, f1, f2, f3, l⟩ := n
    dsimp only [ndV] at *
    generalize f3.length = m3 at *
    generalize hm : l.length = m at *
    clear h g4 hl hT hm
    by_cases h2 : f0 = 2
    · subst h2
      have t1 : (f1 != 7) = true := bne_iff_ne.2 (fun e => hq ⟨rfl, e⟩)
      clear hq
      go_enter Tryd.func50, Tryd.ntmps50
      go_wp2_with (first | go_skip | ((with_reducible refine wl ?_); first | refine sn S (fun g w1 S => ?_) | refine sl S ?_))
      exact rt S ⟨_, _, rfl, Kd.C_below HC.out S.below, S.below⟩
    · have t1 : (f0 != 2) = true := bne_iff_ne.2 h2
      clear hq h2
      go_enter Tryd.func50, Tryd.ntmps50
      go_wp2_with (first | go_skip | ((with_reducible refine wl ?_); first | refine sn S (fun g w1 S => ?_) | refine sl S ?_))
      exact rt S ⟨_, _, rfl, Kd.C_below HC.out S.below, S.below⟩
end Go.Proofs.YtidglmocekghmaaDoor.Pr
end
section
namespace Go.Proofs.YtidglmocekghmaaDoor.Pr
theorem seg_local {s s' : List Int} {i n : Nat} (h : Eqw s s' i (i + n)) (h1 : i + n ≤ s.length) (h2 : i + n ≤ s'.length) : seg s i n = seg s' i n := by
 unfold seg
 refine List.ext_getElem (by simp; omega) (fun j hj hj' => ?_)
 have hjn : j < n := by rw [List.length_take] at hj; omega
 have := h (i + j) (by omega) (by omega)
 unfold wd at this
 rw [List.getD_eq_getElem?_getD, List.getD_eq_getElem?_getD, List.getElem?_eq_getElem (by omega), List.getElem?_eq_getElem (by omega)] at this
 simpa using this
theorem Eqw.sub {s s' : List Int} {i j i' j' : Nat} (h : Eqw s s' i j) (h1 : i ≤ i') (h2 : j' ≤ j) : Eqw s s' i' j' := fun q h3 h4 => h q (by omega) (by omega)
mutual
theorem lay_le {s : List Int} : ∀ (n : S37) (a nx r : Nat), lay s n a nx r → nx ≤ r
 | ⟨k, e, n, b, l⟩, a, nx, r, h => by
  unfold lay at h
  split at h
  ·omega
  split at h
  ·split at h
   ·omega
   ·have := lays_le l _ _ r h.2.2.2; omega
  split at h
  ·have := layE_le _ _ l _ _ r h.2.2.2; omega
  split at h
  ·have := lays_le l _ _ r h.2.2; omega
  ·omega
theorem lays_le {s : List Int} : ∀ (l : List S37) (a nx r : Nat), lays s l a nx r → nx ≤ r
 | [], a, nx, r, h => by unfold lays at h; omega
 | x :: l, a, nx, r, h => by
  unfold lays at h
  obtain ⟨q, h1, h2⟩ := h
  have := lay_le x _ _ q h1
  have := lays_le l _ _ r h2
  omega
theorem layE_le {s : List Int} (A B : Nat) : ∀ (m : List S37) (at_ nx r : Nat), layE s A B m at_ nx r → nx ≤ r
 | [], at_, nx, r, h => by unfold layE at h; omega
 | ⟨k, e, n, b, l⟩ :: m, at_, nx, r, h => by
  unfold layE at h
  obtain ⟨_, _, q, h1, h2⟩ := h
  have := lays_le l _ _ q h1
  have := layE_le A B m _ _ r h2
  omega
end
mutual
theorem lay_local {s s' : List Int} : ∀ (n : S37) (a nx r : Nat), lay s n a nx r → wd s a = wd s' a → Eqw s s' nx r → r ≤ s'.length → lay s' n a nx r
 | ⟨k, e, n, b, l⟩, a, nx, r, h, ha, hq, hr => by
  have hle := lay_le _ a nx r h
  unfold lay at h ⊢
  by_cases hk0 : k = 0
  ·rw [if_pos hk0] at h ⊢
   exact ⟨ha ▸ h.1, h.2⟩
  rw [if_neg hk0] at h ⊢
  by_cases hk1 : k = 1
  ·rw [if_pos hk1] at h ⊢
   by_cases hz : b.length / 8 + l.length = 0
   ·rw [if_pos hz] at h ⊢
    exact ⟨ha ▸ h.1, h.2⟩
   rw [if_neg hz] at h ⊢
   obtain ⟨h1, h2, h3, h4⟩ := h
   have hl := lays_le l _ _ r h4
   refine ⟨ha ▸ h1, by omega, ?_, lays_local l _ _ r h4 (hq.sub (by omega) (by omega)) (hq.sub (by omega) (by omega)) hr⟩
   rw [← h3]
   exact (seg_local (hq.sub (by omega) (by omega)) (by omega) (by omega)).symm
  rw [if_neg hk1] at h ⊢
  by_cases he7 : e = 7
  ·rw [if_pos he7] at h ⊢
   obtain ⟨h1, h2, h3, h4⟩ := h
   have hl := layE_le _ _ l _ _ r h4
   refine ⟨ha ▸ h1, by omega, (hq nx (by omega) (by omega)).symm.trans h3, layE_local _ _ l (fun x hx => maxP_le hx) _ _ r h4 (hq.sub (by omega) (by omega)) (hq.sub (by omega) (by omega)) (by omega) hr⟩
  rw [if_neg he7] at h ⊢
  by_cases he6 : e = 6
  ·rw [if_pos he6] at h ⊢
   obtain ⟨h1, h2, h3⟩ := h
   have hl := lays_le l _ _ r h3
   exact ⟨ha ▸ h1, by omega, lays_local l _ _ r h3 (hq.sub (by omega) (by omega)) (hq.sub (by omega) (by omega)) hr⟩
  rw [if_neg he6] at h ⊢
  obtain ⟨h1, h2, h3, h4⟩ := h
  refine ⟨ha ▸ h1, by omega, ?_, h4⟩
  rw [← h3]
  exact (seg_local (hq.sub (by omega) (by omega)) (by omega) (by omega)).symm
theorem lays_local {s s' : List Int} : ∀ (l : List S37) (a nx r : Nat), lays s l a nx r → Eqw s s' a (a + l.length) → Eqw s s' nx r → r ≤ s'.length → lays s' l a nx r
 | [], a, nx, r, h, _, _, _ => by unfold lays at h ⊢; exact h
 | x :: l, a, nx, r, h, ha, hq, hr => by
  unfold lays at h ⊢
  obtain ⟨q, h1, h2⟩ := h
  have h3 := lay_le x _ _ q h1
  have h4 := lays_le l _ _ r h2
  rw [List.length_cons] at ha
  exact ⟨q, lay_local x a nx q h1 (ha a (by omega) (by omega)) (hq.sub (by omega) (by omega)) (by omega), lays_local l (a + 1) q r h2 (ha.sub (by omega) (by omega)) (hq.sub (by omega) (by omega)) hr⟩
theorem layE_local {s s' : List Int} (A B : Nat) : ∀ (m : List S37) (hB : ∀ x ∈ m, x.f4.length ≤ B) (at_ nx r : Nat), layE s A B m at_ nx r → Eqw s s' at_ (at_ + m.length * (A + B)) → Eqw s s' nx r → at_ + m.length * (A + B) ≤ nx → r ≤ s'.length → layE s' A B m at_ nx r
 | [], _, at_, nx, r, h, _, _, _, _ => by unfold layE at h ⊢; exact h
 | ⟨k, e, n, b, l⟩ :: m, hB, at_, nx, r, h, ha, hq, hn, hr => by
  unfold layE at h ⊢
  obtain ⟨h1, h2, q, h3, h4⟩ := h
  have h5 := lays_le l _ _ q h3
  have h6 := layE_le A B m _ _ r h4
  have hl := hB _ List.mem_cons_self
  dsimp only at hl
  rw [List.length_cons, Nat.add_mul, Nat.one_mul] at ha hn
  have hsl : seg s at_ A = seg s' at_ A := by
   unfold seg at h1 ⊢
   have hA : ((s.drop at_).take A).length = A := by rw [h1, wordsB_len]
   rw [List.length_take, List.length_drop] at hA
   by_cases hA0 : A = 0
   ·rw [hA0]; simp
   ·exact seg_local (ha.sub (by omega) (by omega)) (by omega) (by omega)
  refine ⟨hsl ▸ h1, fun j hj1 hj2 => (ha _ (by omega) (by omega)).symm.trans (h2 j hj1 hj2), q, lays_local l _ _ q h3 (ha.sub (by omega) (by omega)) (hq.sub (by omega) (by omega)) (by omega), layE_local A B m (fun x hx => hB x (List.mem_cons_of_mem _ hx)) _ q r h4 (ha.sub (by omega) (by omega)) (hq.sub (by omega) (by omega)) (by omega) hr⟩
end
end Go.Proofs.YtidglmocekghmaaDoor.Pr
end
section
namespace Go.Proofs.YtidglmocekghmaaDoor.Pr
def shallowE (A B : Nat) : List S37 → List Int
 | [] => []
 | x :: l => (wordsB A x.f3 ++ List.replicate B 0) ++ shallowE A B l
def shallowW (n : S37) : List Int :=
 if n.f0 = 1 then wordsB (n.f3.length / 8) n.f3 ++ List.replicate n.f4.length 0
 else if n.f1 = 7 then encS n.f4.length (maxD n.f4) (maxP n.f4) :: shallowE (maxD n.f4) (maxP n.f4) n.f4
 else if n.f1 = 6 then List.replicate n.f4.length 0
 else wordsB (wordsE n.f1 n.f2).toNat n.f3
def ptrW (n : S37) (off : Int) : Int :=
 if n.f0 = 1 then (if n.f3.length / 8 + n.f4.length = 0 then encS (-1) 0 0 else encS off (n.f3.length / 8 : Nat) n.f4.length)
 else if n.f1 = 7 then encL off 7 (n.f4.length * (maxD n.f4 + maxP n.f4) : Nat)
 else if n.f1 = 6 then encL off 6 n.f4.length
 else encL off n.f1 n.f2
def putW (n : S37) (out : List Int) (a : Nat) : List Int := (out ++ shallowW n).set a (ptrW n ((out.length : Int) - a - 1))
mutual
def placeW : S37 → List Int → Nat → List Int
 | ⟨k, e, n, b, l⟩, out, a =>
  if k = 0 then out
  else if k = 1 then placesW l (putW ⟨k, e, n, b, l⟩ out a) (out.length + b.length / 8)
  else if e = 7 then placeE (maxD l) (maxP l) l (putW ⟨k, e, n, b, l⟩ out a) (out.length + 1)
  else if e = 6 then placesW l (putW ⟨k, e, n, b, l⟩ out a) out.length
  else putW ⟨k, e, n, b, l⟩ out a
def placesW : List S37 → List Int → Nat → List Int
 | [], out, _ => out
 | x :: l, out, a => placesW l (placeW x out a) (a + 1)
def placeE (A B : Nat) : List S37 → List Int → Nat → List Int
 | [], out, _ => out
 | ⟨_, _, _, _, l⟩ :: m, out, at_ => placeE A B m (placesW l out (at_ + A)) (at_ + (A + B))
end
theorem wd_app_l {s t : List Int} {i : Nat} (h : i < s.length) : wd (s ++ t) i = wd s i := by
 unfold wd
 rw [List.getD_eq_getElem?_getD, List.getElem?_append_left h, List.getD_eq_getElem?_getD]
theorem wd_app_r {s t : List Int} {i : Nat} (h : s.length ≤ i) : wd (s ++ t) i = wd t (i - s.length) := by
 unfold wd
 rw [List.getD_eq_getElem?_getD, List.getElem?_append_right h, List.getD_eq_getElem?_getD]
theorem wd_set_ne {s : List Int} {i a : Nat} {v : Int} (h : a ≠ i) : wd (s.set a v) i = wd s i := by
 unfold wd
 rw [List.getD_eq_getElem?_getD, List.getElem?_set_ne h, List.getD_eq_getElem?_getD]
end Go.Proofs.YtidglmocekghmaaDoor.Pr
end
