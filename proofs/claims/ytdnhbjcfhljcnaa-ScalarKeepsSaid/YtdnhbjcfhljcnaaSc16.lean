/- ScalarFloats' walk. Conditions: each number is of its kind; the slice lies in memory as the form reads it. -/
import Derived.Test.YtdnhbjcfhljcnaaSc15
set_option linter.unusedVariables false
set_option linter.unusedSimpArgs false
namespace Go.Proofs.Ytdnhbjcfhljcnaa
open Go.RowKit

theorem W64 : Wd 64 := by simp [Wd]
theorem floats_far (A : Option Addr) (len cap : Nat) (i : Int) (d v : Nat) (h : 500 < len) (w : World) :
    Calls Try.prog 6 #[.slice A len cap, .int .u8 i, .int .u64 d, .int .u64 v] w fun e w' => e = .returned (.bool true) ∧ Below w.heap.size w w' := by
  go_enter Try.func6, Try.ntmps6
  go_wp2_with fail
  refine (awake_any _).mono ?_
  rintro e' w1 ⟨rfl, hb1⟩
  go_wp2_with fail
  refine (awake_any _).mono ?_
  rintro e' w2 ⟨rfl, hb2⟩
  go_wp2
  go_ret
  exact ⟨rfl, hb1.trans (hb2.mono hb1.size)⟩
set_option maxHeartbeats 2000000 in
theorem floats_near (A : Option Addr) (len cap : Nat) (i : Nat) (d v : Nat) (xs : List Int) (h : len ≤ 500) (hi : i ≤ 255) (hd : d < 18446744073709551616) (hv : v < 18446744073709551616) (b : Bool) (hdv : Hid (decide (d = v) = b)) (hbe : ((d : Int) == (v : Int)) = b) (w : World) (hR : Rd w A len xs) (hA : A = none → len = 0 ∧ cap = 0) :
    Calls Try.prog 6 #[.slice A len cap, .int .u8 i, .int .u64 d, .int .u64 v] w fun e w' => e = .returned (.bool true) ∧ Below w.heap.size w w' := by
  have h4 : decide (500 < (len : Int)) = false := b1 (by omega)
  have hwi : IntKind.i64.wrap (i : Int) = i := IntWalk.i64_in _ (by omega)
  have hrb := run_bits
  have hrf : ∀ (n : Nat) (w : World), (callFunc 18 #[.int .u64 (n : Int)]).run Try.prog w = .ok (.value (.float .f64 n)) w := fun n w => run_from n w
  have HR := Lib.hid hR
  have HL := Lib.hid hR.1
  have hA2 := Lib.hid (fun hh => (hA hh).1 : A = none → len = 0)
  clear hR hA
  obtain ⟨z, hz⟩ : ∃ z, Hid (uV xs 64 i d = z) := ⟨_, rfl⟩
  go_enter Try.func6, Try.ntmps6
  go_wp2_with fail
  refine (awake_any _).mono ?_
  rintro e' w1 ⟨rfl, hb1⟩
  have R1 := Lib.hid (HR.out.below hb1)
  cases hp : Pr len 64 (i : Int) with
  | false =>
    have HP := Lib.hid hp
    clear hp
    go_wp2_with fail
    refine (setfloat_absent i A len cap d v (by omega) HP.out _).mono ?_
    rintro e' w' ⟨rfl, rfl⟩
    go_wp2_with fail
    refine (set_absent 64 W64 i A len cap d v (by omega) HP.out _).mono ?_
    rintro e' w' ⟨rfl, rfl⟩
    go_wp2_with fail
    refine (same_is A A len len cap cap xs xs _ (by omega) R1.out R1.out true (by simp)).mono ?_
    rintro e' w2 ⟨rfl, hb2⟩
    have B2 := hb1.trans (hb2.mono hb1.size)
    have R2 := Lib.hid (R1.out.below hb2)
    go_wp2_with fail
    refine (float_any i A len cap xs d hd (by omega) _ R2.out z hz.out).mono ?_
    rintro e' w3 ⟨rfl, hb3⟩
    have B3 := B2.trans (hb3.mono B2.size)
    have R3 := Lib.hid (R2.out.below hb3)
    go_wp2_with fail
    refine (uint_is 64 W64 i A len cap xs d hd (by omega) _ R3.out z hz.out).mono ?_
    rintro e' w4 ⟨rfl, hb4⟩
    have B4 := B3.trans (hb4.mono B3.size)
    go_wp2_with fail
    refine (samebits_is d v b hdv.out _).mono ?_
    rintro e' w' ⟨rfl, rfl⟩
    go_wp2
    go_ret
    exact ⟨by simp, B4⟩
  | true =>
    have HP := Lib.hid hp
    clear hp
    obtain ⟨m, e1, hm⟩ := pr_nat W64 HP.out
    obtain rfl : i = m := by omega
    clear e1
    have HM := Lib.hid hm
    clear hm
    obtain ⟨T, hT⟩ : ∃ T, Hid (sL xs 64 i (v ^^^ d) = T) := ⟨_, rfl⟩
    have G1 : Hid (uV T 64 i d = v) := by
      show _ = _
      rw [← hT.out, get_set xs 64 i d v (by omega) (by rw [HL.out]; exact HP.out) (by rw [HL.out]; exact HM.out)]
      exact (eq_U (n := 64) hv).symm
    go_wp2_with fail
    refine (setfloat_rd i A len cap xs d v hd hv (by omega) HP.out _ R1.out hA2.out T hT.out).mono ?_
    rintro e' w2 ⟨⟨A1, c1, rfl, Ra, Na⟩, hb2⟩
    have B2 := hb1.trans (hb2.mono hb1.size)
    have R2 := Lib.hid (R1.out.below hb2)
    go_wp2_with fail
    refine (set_rd 64 W64 i A len cap xs d v hd hv (by omega) HP.out _ R2.out hA2.out T hT.out).mono ?_
    rintro e' w3 ⟨⟨A2, c2, rfl, Rb, Nb⟩, hb3⟩
    have B3 := B2.trans (hb3.mono B2.size)
    have R3 := Lib.hid (R2.out.below hb3)
    have Ra3 := Lib.hid (Ra.out.below hb3)
    go_wp2_with fail
    refine (same_is A1 A2 len len c1 c2 T T _ (by omega) Ra3.out Rb.out true (by simp)).mono ?_
    rintro e' w4 ⟨rfl, hb4⟩
    have B4 := B3.trans (hb4.mono B3.size)
    have R4 := Lib.hid (R3.out.below hb4)
    have Ra4 := Lib.hid (Ra3.out.below hb4)
    go_wp2_with fail
    refine (float_any i A len cap xs d hd (by omega) _ R4.out z hz.out).mono ?_
    rintro e' w5 ⟨rfl, hb5⟩
    have B5 := B4.trans (hb5.mono B4.size)
    have R5 := Lib.hid (R4.out.below hb5)
    have Ra5 := Lib.hid (Ra4.out.below hb5)
    go_wp2_with fail
    refine (uint_is 64 W64 i A len cap xs d hd (by omega) _ R5.out z hz.out).mono ?_
    rintro e' w6 ⟨rfl, hb6⟩
    have B6 := B5.trans (hb6.mono B5.size)
    have Ra6 := Lib.hid (Ra5.out.below hb6)
    go_wp2_with fail
    refine (float_any i A1 len c1 T d hd (by omega) _ Ra6.out v G1.out).mono ?_
    rintro e' w7 ⟨rfl, hb7⟩
    have B7 := B6.trans (hb7.mono B6.size)
    go_wp2_with fail
    refine (samebits_is v v true (by simp) _).mono ?_
    rintro e' w' ⟨rfl, rfl⟩
    go_wp2_with fail
    refine (samebits_is d v b hdv.out _).mono ?_
    rintro e' w' ⟨rfl, rfl⟩
    go_wp2
    go_ret
    exact ⟨by simp, B7⟩
theorem floats_walk (A : Option Addr) (len cap : Nat) (i d v : Int) (xs : List Int) (w : World) (hi0 : 0 ≤ i) (hi1 : i ≤ 255) (hd0 : 0 ≤ d) (hd : d ≤ 18446744073709551615) (hv0 : 0 ≤ v) (hv : v ≤ 18446744073709551615) (hA : A = none → len = 0 ∧ cap = 0) (hR : Rd w A len xs) :
    Calls Try.prog 6 #[.slice A len cap, .int .u8 i, .int .u64 d, .int .u64 v] w fun e w' => e = .returned (.bool true) ∧ Below w.heap.size w w' := by
  obtain ⟨D, rfl⟩ := Int.eq_ofNat_of_zero_le hd0
  obtain ⟨V, rfl⟩ := Int.eq_ofNat_of_zero_le hv0
  obtain ⟨I, rfl⟩ := Int.eq_ofNat_of_zero_le hi0
  by_cases h : 500 < len
  · exact floats_far A len cap I D V h w
  · by_cases hdv : D = V
    · exact floats_near A len cap I D V xs (by omega) (by omega) (by omega) (by omega) true (by show _ = _; simp [hdv]) (by simp [hdv]) w hR hA
    · exact floats_near A len cap I D V xs (by omega) (by omega) (by omega) (by omega) false (by show _ = _; simp [hdv]) (by simp; omega) w hR hA
end Go.Proofs.Ytdnhbjcfhljcnaa
