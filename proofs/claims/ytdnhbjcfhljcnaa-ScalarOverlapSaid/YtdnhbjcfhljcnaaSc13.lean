/- ScalarMatchesReference's walk. Conditions: each number is of its kind; the slice lies in memory as the form reads it. -/
import Derived.Test.YtdnhbjcfhljcnaaSc12
set_option linter.unusedVariables false
set_option linter.unusedSimpArgs false
namespace Go.Proofs.Ytdnhbjcfhljcnaa
open Go.RowKit

theorem b1 {p : Prop} [Decidable p] (h : ¬ p) : decide p = false := decide_eq_false h
theorem rset_rd (n : Nat) (hn : Wd n) (i : Int) (A : Option Addr) (len cap : Nat) (xs : List Int) (d v : Nat) (hd : d < 18446744073709551616) (hv : v < 18446744073709551616) (hl : len ≤ 1048576) (hp : Pr len n i = true) (w : World) (hR : Rd w A len xs) (hA : A = none → len = 0 ∧ cap = 0) (T : List Int) (hT : sL xs n i.toNat (v ^^^ d) = T) :
    Calls Try.prog 12 #[.slice A len cap, .int .i64 n, .int .i64 i, .int .u64 d, .int .u64 v] w fun e w' => (∃ A' c, e = .returned (.tuple #[.slice A' len c, .bool true]) ∧ Hid (Rd w' A' len T) ∧ Hid (A' = none → len = 0)) ∧ Below w.heap.size w w' := by
  obtain ⟨m, rfl, hm⟩ := pr_nat hn hp
  refine (rset_here n hn m A len cap xs d v hd hv hl hp hm w hR hA).mono fun e w' ⟨⟨r, he, hown⟩, hb⟩ => ?_
  rw [Int.toNat_natCast] at hT
  subst hT
  obtain ⟨A', c, rfl, h1, h2⟩ := own_any hown
  obtain ⟨A2, c2, e1, h3⟩ := own_rd hown (sL_range _ _ _ _)
  simp only [Value.slice.injEq] at e1
  obtain ⟨rfl, _, rfl⟩ := e1
  exact ⟨⟨A', c, he, h3, h2⟩, hb⟩
theorem width_is (k : Int) (h0 : 0 ≤ k) (h1 : k ≤ 255) (w : World) :
    Calls Try.prog 10 #[.int .u8 k] w fun e w' => (∃ n : Nat, Wd n ∧ e = .returned (.int .i64 n)) ∧ Below w.heap.size w w' := by
  obtain ⟨K, rfl⟩ := Int.eq_ofNat_of_zero_le h0
  exact width_any K (by omega) w
theorem ruint_is (n : Nat) (hn : Wd n) (i : Int) (A : Option Addr) (len cap : Nat) (xs : List Int) (d : Nat) (hd : d < 18446744073709551616) (hl : len ≤ 1048576) (w : World) (hR : Rd w A len xs) (z : Nat) (hz : uV xs n i d = z) :
    Calls Try.prog 14 #[.slice A len cap, .int .i64 n, .int .i64 i, .int .u64 d] w fun e w' => e = .returned (.int .u64 z) ∧ w = w' := by
  subst hz; exact ruint_any n hn i A len cap xs d hd hl w hR

theorem matches_far (A : Option Addr) (len cap : Nat) (k i : Int) (d v : Nat) (h : 500 < len) (w : World) :
    Calls Try.prog 3 #[.slice A len cap, .int .u8 k, .int .i64 i, .int .u64 d, .int .u64 v] w fun e w' => e = .returned (.bool true) ∧ Below w.heap.size w w' := by
  go_enter Try.func3, Try.ntmps3
  go_wp2_with fail
  refine (awake_any _).mono ?_
  rintro e' w1 ⟨rfl, hb1⟩
  go_wp2_with fail
  refine (awake_any _).mono ?_
  rintro e' w2 ⟨rfl, hb2⟩
  go_wp2
  go_ret
  exact ⟨rfl, hb1.trans (hb2.mono hb1.size)⟩
set_option maxHeartbeats 1000000 in
theorem matches_near (A : Option Addr) (len cap : Nat) (k i : Int) (d v : Nat) (xs : List Int) (h : len ≤ 500) (hk0 : 0 ≤ k) (hk1 : k ≤ 255) (hd : d < 18446744073709551616) (hv : v < 18446744073709551616) (w : World) (hR : Rd w A len xs) (hA : A = none → len = 0 ∧ cap = 0) :
    Calls Try.prog 3 #[.slice A len cap, .int .u8 k, .int .i64 i, .int .u64 d, .int .u64 v] w fun e w' => e = .returned (.bool true) ∧ Below w.heap.size w w' := by
  have h4 : decide (500 < (len : Int)) = false := b1 (by omega)
  have HR := Lib.hid hR
  have HA := Lib.hid hA
  have hA2 := Lib.hid (fun hh => (hA hh).1 : A = none → len = 0)
  clear hR hA
  go_enter Try.func3, Try.ntmps3
  go_wp2_with fail
  refine (awake_any _).mono ?_
  rintro e' w1 ⟨rfl, hb1⟩
  have R1 := Lib.hid (HR.out.below hb1)
  go_wp2_with fail
  refine (width_is k hk0 hk1 _).mono ?_
  rintro e' w2 ⟨⟨n, hn, rfl⟩, hb2⟩
  have HW := Lib.hid hn
  clear hn
  have B2 := hb1.trans (hb2.mono hb1.size)
  have R2 := Lib.hid (R1.out.below hb2)
  cases hp : Pr len n i with
  | false =>
    have HP := Lib.hid hp
    clear hp
    obtain ⟨z, hz⟩ : ∃ z, Hid (uV xs n i d = z) := ⟨_, rfl⟩
    go_wp2_with fail
    refine (set_absent n HW.out i A len cap d v (by omega) HP.out _).mono ?_
    rintro e' w' ⟨rfl, rfl⟩
    go_wp2_with fail
    refine (rset_absent n HW.out i A len cap d v (by omega) HP.out _).mono ?_
    rintro e' w' ⟨rfl, rfl⟩
    go_wp2_with fail
    refine (uint_is n HW.out i A len cap xs d hd (by omega) _ R2.out z hz.out).mono ?_
    rintro e' w3 ⟨rfl, hb3⟩
    have B3 := B2.trans (hb3.mono B2.size)
    have R3 := Lib.hid (R2.out.below hb3)
    go_wp2_with fail
    refine (ruint_is n HW.out i A len cap xs d hd (by omega) _ R3.out z hz.out).mono ?_
    rintro e' w' ⟨rfl, rfl⟩
    go_wp2_with fail
    refine (same_is A A len len cap cap xs xs _ (by omega) R3.out R3.out true (by simp)).mono ?_
    rintro e' w4 ⟨rfl, hb4⟩
    go_wp2
    go_ret
    exact ⟨rfl, B3.trans (hb4.mono B3.size)⟩
  | true =>
    have HP := Lib.hid hp
    clear hp
    obtain ⟨z, hz⟩ : ∃ z, Hid (uV xs n i d = z) := ⟨_, rfl⟩
    obtain ⟨T, hT⟩ : ∃ T, Hid (sL xs n i.toNat (v ^^^ d) = T) := ⟨_, rfl⟩
    go_wp2_with fail
    refine (set_rd n HW.out i A len cap xs d v hd hv (by omega) HP.out _ R2.out hA2.out T hT.out).mono ?_
    rintro e' w3 ⟨⟨A1, c1, rfl, Ra, Na⟩, hb3⟩
    have B3 := B2.trans (hb3.mono B2.size)
    have R3 := Lib.hid (R2.out.below hb3)
    go_wp2_with fail
    refine (rset_rd n HW.out i A len cap xs d v hd hv (by omega) HP.out _ R3.out HA.out T hT.out).mono ?_
    rintro e' w4 ⟨⟨A2, c2, rfl, Rb, Nb⟩, hb4⟩
    have B4 := B3.trans (hb4.mono B3.size)
    have R4 := Lib.hid (R3.out.below hb4)
    have Ra4 := Lib.hid (Ra.out.below hb4)
    go_wp2_with fail
    refine (uint_is n HW.out i A len cap xs d hd (by omega) _ R4.out z hz.out).mono ?_
    rintro e' w5 ⟨rfl, hb5⟩
    have B5 := B4.trans (hb5.mono B4.size)
    have R5 := Lib.hid (R4.out.below hb5)
    have Ra5 := Lib.hid (Ra4.out.below hb5)
    have Rb5 := Lib.hid (Rb.out.below hb5)
    go_wp2_with fail
    refine (ruint_is n HW.out i A len cap xs d hd (by omega) _ R5.out z hz.out).mono ?_
    rintro e' w' ⟨rfl, rfl⟩
    go_wp2_with fail
    refine (same_is A1 A2 len len c1 c2 T T _ (by omega) Ra5.out Rb5.out true (by simp)).mono ?_
    rintro e' w6 ⟨rfl, hb6⟩
    go_wp2
    go_ret
    exact ⟨rfl, B5.trans (hb6.mono B5.size)⟩
theorem matches_walk (A : Option Addr) (len cap : Nat) (k i d v : Int) (xs : List Int) (w : World) (hk0 : 0 ≤ k) (hk1 : k ≤ 255) (hd0 : 0 ≤ d) (hd : d ≤ 18446744073709551615) (hv0 : 0 ≤ v) (hv : v ≤ 18446744073709551615) (hA : A = none → len = 0 ∧ cap = 0) (hR : Rd w A len xs) :
    Calls Try.prog 3 #[.slice A len cap, .int .u8 k, .int .i64 i, .int .u64 d, .int .u64 v] w fun e w' => e = .returned (.bool true) ∧ Below w.heap.size w w' := by
  obtain ⟨D, rfl⟩ := Int.eq_ofNat_of_zero_le hd0
  obtain ⟨V, rfl⟩ := Int.eq_ofNat_of_zero_le hv0
  by_cases h : 500 < len
  · exact matches_far A len cap k i D V h w
  · exact matches_near A len cap k i D V xs (by omega) hk0 hk1 (by omega) (by omega) w hR hA
end Go.Proofs.Ytdnhbjcfhljcnaa
