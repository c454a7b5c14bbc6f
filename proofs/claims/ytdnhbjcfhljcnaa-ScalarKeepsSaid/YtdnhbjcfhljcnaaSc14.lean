/- ScalarSetThenGet's walk. Conditions: each number is of its kind; the slice lies in memory as the form reads it. -/
import Derived.Test.YtdnhbjcfhljcnaaSc13
set_option linter.unusedVariables false
set_option linter.unusedSimpArgs false
namespace Go.Proofs.Ytdnhbjcfhljcnaa
open Go.RowKit

/-! ### Plain laws of fields -/
theorem sL_length (xs : List Int) (n m x : Nat) : (sL xs n m x).length = xs.length := L_length _ _
theorem sL_fb (xs : List Int) (n m x t : Nat) (h : t < 8 * xs.length) : fb (sL xs n m x) t = upd (fb xs) (n * m) n x.testBit t := fb_L _ _ _ h
theorem xor_cancel (a b : Bool) : ((a ^^ b) ^^ b) = a := by cases a <;> cases b <;> rfl
/-- What is stored is read. -/
theorem get_set (xs : List Int) (n : Nat) (m d v : Nat) (hn : n ≤ 64) (hp : Pr xs.length n m = true) (hm : n * m + n ≤ 8 * xs.length) : uV (sL xs n m (v ^^^ d)) n m d = U v.testBit n := by
  unfold uV
  apply U_congr
  intro k hk
  rw [sL_length, hp, Int.toNat_natCast, sL_fb _ _ _ _ _ (by omega)]
  unfold upd
  rw [if_pos (by omega), show n * m + k - n * m = k by omega, Nat.testBit_xor, Bool.true_and, xor_cancel]
/-- Other fields keep. -/
theorem get_other (xs : List Int) (n : Nat) (m j d x : Nat) (hn : Wd n) (hmj : m ≠ j) : uV (sL xs n m x) n j d = uV xs n j d := by
  unfold uV
  rw [sL_length]
  apply U_congr
  intro k hk
  cases hp : Pr xs.length n (j : Int) with
  | false => simp
  | true =>
    obtain ⟨j', e, hj⟩ := pr_nat hn hp
    obtain rfl : j = j' := by omega
    rw [Int.toNat_natCast, sL_fb _ _ _ _ _ (by omega)]
    unfold upd
    rw [if_neg ?_]
    intro hh
    rcases hn with rfl | rfl | rfl | rfl | rfl <;> omega
/-- The old value stored restores the section. -/
theorem set_back (xs : List Int) (n : Nat) (m d x : Nat) (hx : ∀ j, 0 ≤ xs.getD j 0 ∧ xs.getD j 0 ≤ 255) (hp : Pr xs.length n m = true) (hm : n * m + n ≤ 8 * xs.length) : sL (sL xs n m x) n m (uV xs n m d ^^^ d) = xs := by
  refine Eq.trans ?_ (L_fb hx)
  unfold sL
  rw [show (L (upd (fb xs) (n * m) n x.testBit) xs.length).length = xs.length from L_length _ _]
  apply L_congr
  intro t ht
  by_cases h : n * m ≤ t ∧ t < n * m + n
  · rw [show ∀ g f, upd g (n * m) n f t = f (t - n * m) from fun g f => if_pos h, Nat.testBit_xor]
    unfold uV
    rw [testBit_U, hp, Int.toNat_natCast, show n * m + (t - n * m) = t by omega]
    have : t - n * m < n := by omega
    simp [this]
  · rw [show ∀ g f, upd g (n * m) n f t = g t from fun g f => if_neg h, fb_L _ _ _ ht]
    exact if_neg h
theorem uV_absent (xs : List Int) (n : Nat) (i : Int) (d : Nat) (hp : Pr xs.length n i = false) : uV xs n i d = U d.testBit n := by
  simp [uV, hp]
theorem field_is (v n : Nat) (hv : v < 18446744073709551616) (hn : Wd n) (z : Nat) (hz : U v.testBit n = z) (w : World) :
    Calls Try.prog 16 #[.int .u64 v, .int .i64 0, .int .i64 n] w fun e w' => e = .returned (.int .u64 z) ∧ w = w' := by
  subst hz
  have h := field_any v 0 n hv (by rcases hn with rfl | rfl | rfl | rfl | rfl <;> omega) w
  simpa using h

theorem get_far (A : Option Addr) (len cap : Nat) (k i j : Int) (d v : Nat) (h : 500 < len) (w : World) :
    Calls Try.prog 4 #[.slice A len cap, .int .u8 k, .int .u8 i, .int .u8 j, .int .u64 d, .int .u64 v] w fun e w' => e = .returned (.bool true) ∧ Below w.heap.size w w' := by
  go_enter Try.func4, Try.ntmps4
  go_wp2_with fail
  refine (awake_any _).mono ?_
  rintro e' w1 ⟨rfl, hb1⟩
  go_wp2_with fail
  refine (awake_any _).mono ?_
  rintro e' w2 ⟨rfl, hb2⟩
  go_wp2
  go_ret
  exact ⟨rfl, hb1.trans (hb2.mono hb1.size)⟩
set_option maxHeartbeats 2000000 in
theorem get_near (A : Option Addr) (len cap : Nat) (k : Int) (i j : Nat) (d v : Nat) (xs : List Int) (h : len ≤ 500) (hk0 : 0 ≤ k) (hk1 : k ≤ 255) (hi : i ≤ 255) (hj : j ≤ 255) (hd : d < 18446744073709551616) (hv : v < 18446744073709551616) (w : World) (hR : Rd w A len xs) (hA : A = none → len = 0 ∧ cap = 0) :
    Calls Try.prog 4 #[.slice A len cap, .int .u8 k, .int .u8 i, .int .u8 j, .int .u64 d, .int .u64 v] w fun e w' => e = .returned (.bool true) ∧ Below w.heap.size w w' := by
  have h4 : decide (500 < (len : Int)) = false := b1 (by omega)
  have hwi : IntKind.i64.wrap (i : Int) = i := IntWalk.i64_in _ (by omega)
  have hwj : IntKind.i64.wrap (j : Int) = j := IntWalk.i64_in _ (by omega)
  have HR := Lib.hid hR
  have HX := Lib.hid hR.2.2
  have hA2 := Lib.hid (fun hh => (hA hh).1 : A = none → len = 0)
  have HL := Lib.hid hR.1
  clear hR hA
  go_enter Try.func4, Try.ntmps4
  go_wp2_with fail
  refine (awake_any _).mono ?_
  rintro e' w1 ⟨rfl, hb1⟩
  have R1 := Lib.hid (HR.out.below hb1)
  go_wp2_with fail
  refine (width_is k hk0 hk1 _).mono ?_
  rintro e' w2 ⟨⟨n, hn, rfl⟩, hb2⟩
  have HW := Lib.hid hn
  have hn64 : n ≤ 64 := by rcases hn with rfl | rfl | rfl | rfl | rfl <;> omega
  clear hn
  have B2 := hb1.trans (hb2.mono hb1.size)
  have R2 := Lib.hid (R1.out.below hb2)
  obtain ⟨lo, hlo⟩ : ∃ lo, Hid (U v.testBit n = lo) := ⟨_, rfl⟩
  cases hp : Pr len n (i : Int) with
  | false =>
    have HP := Lib.hid hp
    clear hp
    obtain ⟨z, hz⟩ : ∃ z, Hid (U d.testBit n = z) := ⟨_, rfl⟩
    go_wp2_with fail
    refine (set_absent n HW.out i A len cap d v (by omega) HP.out _).mono ?_
    rintro e' w' ⟨rfl, rfl⟩
    go_wp2_with fail
    refine (field_is v n hv HW.out lo hlo.out _).mono ?_
    rintro e' w' ⟨rfl, rfl⟩
    go_wp2_with fail
    refine (rpresent_is n HW.out i A len cap (by omega) false HP.out _).mono ?_
    rintro e' w' ⟨rfl, rfl⟩
    go_wp2_with fail
    refine (same_is A A len len cap cap xs xs _ (by omega) R2.out R2.out true (by simp)).mono ?_
    rintro e' w3 ⟨rfl, hb3⟩
    have B3 := B2.trans (hb3.mono B2.size)
    have R3 := Lib.hid (R2.out.below hb3)
    go_wp2_with fail
    refine (uint_is n HW.out i A len cap xs d hd (by omega) _ R3.out z (by rw [uV_absent _ _ _ _ (by rw [HL.out]; exact HP.out), hz.out])).mono ?_
    rintro e' w4 ⟨rfl, hb4⟩
    have B4 := B3.trans (hb4.mono B3.size)
    go_wp2_with fail
    refine (field_is d n hd HW.out z hz.out _).mono ?_
    rintro e' w' ⟨rfl, rfl⟩
    go_wp2
    go_ret
    exact ⟨rfl, B4⟩
  | true =>
    have HP := Lib.hid hp
    clear hp
    obtain ⟨m, e1, hm⟩ := pr_nat HW.out HP.out
    obtain rfl : i = m := by omega
    clear e1
    have HM := Lib.hid hm
    clear hm
    obtain ⟨T, hT⟩ : ∃ T, Hid (sL xs n i (v ^^^ d) = T) := ⟨_, rfl⟩
    have HTl : Hid (T.length = len) := by show _ = _; rw [← hT.out, sL_length, HL.out]
    have G1 : Hid (uV T n i d = lo) := by
      show _ = _
      rw [← hT.out, get_set xs n i d v hn64 (by rw [HL.out]; exact HP.out) (by rw [HL.out]; exact HM.out), hlo.out]
    obtain ⟨z, hz⟩ : ∃ z, Hid (uV xs n i d = z) := ⟨_, rfl⟩
    have hzlt : z < 18446744073709551616 := by
      rw [← hz.out]
      exact Nat.lt_of_lt_of_le (U_lt _ _) (Nat.pow_le_pow_right (j := 64) (by omega) hn64)
    have G2 : Hid (sL T n i (z ^^^ d) = xs) := by
      show _ = _
      rw [← hT.out, ← hz.out]
      exact set_back xs n i d _ HX.out (by rw [HL.out]; exact HP.out) (by rw [HL.out]; exact HM.out)
    go_wp2_with fail
    refine (set_rd n HW.out i A len cap xs d v hd hv (by omega) HP.out _ R2.out hA2.out T hT.out).mono ?_
    rintro e' w3 ⟨⟨A1, c1, rfl, Ra, Na⟩, hb3⟩
    have B3 := B2.trans (hb3.mono B2.size)
    have R3 := Lib.hid (R2.out.below hb3)
    go_wp2_with fail
    refine (field_is v n hv HW.out lo hlo.out _).mono ?_
    rintro e' w' ⟨rfl, rfl⟩
    go_wp2_with fail
    refine (rpresent_is n HW.out i A len cap (by omega) true HP.out _).mono ?_
    rintro e' w' ⟨rfl, rfl⟩
    go_wp2_with fail
    refine (uint_is n HW.out i A1 len c1 T d hd (by omega) _ Ra.out lo G1.out).mono ?_
    rintro e' w4 ⟨rfl, hb4⟩
    have B4 := B3.trans (hb4.mono B3.size)
    have R4 := Lib.hid (R3.out.below hb4)
    have Ra4 := Lib.hid (Ra.out.below hb4)
    by_cases hij : i = j
    · subst hij
      go_wp2_with fail
      refine (uint_is n HW.out i A len cap xs d hd (by omega) _ R4.out z hz.out).mono ?_
      rintro e' w5 ⟨rfl, hb5⟩
      have B5 := B4.trans (hb5.mono B4.size)
      have R5 := Lib.hid (R4.out.below hb5)
      have Ra5 := Lib.hid (Ra4.out.below hb5)
      go_wp2_with fail
      refine (set_rd n HW.out i A1 len c1 T d z hd hzlt (by omega) HP.out _ Ra5.out Na.out xs G2.out).mono ?_
      rintro e' w6 ⟨⟨A2, c2, rfl, Rb, Nb⟩, hb6⟩
      have B6 := B5.trans (hb6.mono B5.size)
      have R6 := Lib.hid (R5.out.below hb6)
      go_wp2_with fail
      refine (same_is A2 A len len c2 cap xs xs _ (by omega) Rb.out R6.out true (by simp)).mono ?_
      rintro e' w7 ⟨rfl, hb7⟩
      go_wp2
      go_ret
      exact ⟨rfl, B6.trans (hb7.mono B6.size)⟩
    · have hne : ((i : Int) != (j : Int)) = true := by simp; omega
      have hne2 : ((i : Int) == (j : Int)) = false := by simp; omega
      obtain ⟨y, hy⟩ : ∃ y, Hid (uV xs n j d = y) := ⟨_, rfl⟩
      have G3 : Hid (uV T n j d = y) := by show _ = _; rw [← hT.out, get_other xs n i j d _ HW.out hij, hy.out]
      go_wp2_with fail
      refine (uint_is n HW.out j A1 len c1 T d hd (by omega) _ Ra4.out y G3.out).mono ?_
      rintro e' w5 ⟨rfl, hb5⟩
      have B5 := B4.trans (hb5.mono B4.size)
      have R5 := Lib.hid (R4.out.below hb5)
      have Ra5 := Lib.hid (Ra4.out.below hb5)
      go_wp2_with fail
      refine (uint_is n HW.out j A len cap xs d hd (by omega) _ R5.out y hy.out).mono ?_
      rintro e' w6 ⟨rfl, hb6⟩
      have B6 := B5.trans (hb6.mono B5.size)
      have R6 := Lib.hid (R5.out.below hb6)
      have Ra6 := Lib.hid (Ra5.out.below hb6)
      go_wp2_with fail
      refine (uint_is n HW.out i A len cap xs d hd (by omega) _ R6.out z hz.out).mono ?_
      rintro e' w7 ⟨rfl, hb7⟩
      have B7 := B6.trans (hb7.mono B6.size)
      have R7 := Lib.hid (R6.out.below hb7)
      have Ra7 := Lib.hid (Ra6.out.below hb7)
      go_wp2_with fail
      refine (set_rd n HW.out i A1 len c1 T d z hd hzlt (by omega) HP.out _ Ra7.out Na.out xs G2.out).mono ?_
      rintro e' w8 ⟨⟨A2, c2, rfl, Rb, Nb⟩, hb8⟩
      have B8 := B7.trans (hb8.mono B7.size)
      have R8 := Lib.hid (R7.out.below hb8)
      go_wp2_with fail
      refine (same_is A2 A len len c2 cap xs xs _ (by omega) Rb.out R8.out true (by simp)).mono ?_
      rintro e' w9 ⟨rfl, hb9⟩
      go_wp2
      go_ret
      exact ⟨rfl, B8.trans (hb9.mono B8.size)⟩
theorem get_walk (A : Option Addr) (len cap : Nat) (k i j d v : Int) (xs : List Int) (w : World) (hk0 : 0 ≤ k) (hk1 : k ≤ 255) (hi0 : 0 ≤ i) (hi1 : i ≤ 255) (hj0 : 0 ≤ j) (hj1 : j ≤ 255) (hd0 : 0 ≤ d) (hd : d ≤ 18446744073709551615) (hv0 : 0 ≤ v) (hv : v ≤ 18446744073709551615) (hA : A = none → len = 0 ∧ cap = 0) (hR : Rd w A len xs) :
    Calls Try.prog 4 #[.slice A len cap, .int .u8 k, .int .u8 i, .int .u8 j, .int .u64 d, .int .u64 v] w fun e w' => e = .returned (.bool true) ∧ Below w.heap.size w w' := by
  obtain ⟨D, rfl⟩ := Int.eq_ofNat_of_zero_le hd0
  obtain ⟨V, rfl⟩ := Int.eq_ofNat_of_zero_le hv0
  obtain ⟨I, rfl⟩ := Int.eq_ofNat_of_zero_le hi0
  obtain ⟨J, rfl⟩ := Int.eq_ofNat_of_zero_le hj0
  by_cases h : 500 < len
  · exact get_far A len cap k I J D V h w
  · exact get_near A len cap k I J D V xs (by omega) hk0 hk1 (by omega) (by omega) (by omega) (by omega) w hR hA
end Go.Proofs.Ytdnhbjcfhljcnaa
