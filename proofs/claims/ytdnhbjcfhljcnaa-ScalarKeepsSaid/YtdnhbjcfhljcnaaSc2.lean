/- What the small functions of packages scalar, capnpref01 and capnpref03 that compute numbers return. Conditions: each width is one of the document's; a power is below 64. -/
import Derived.Test.YtdnhbjcfhljcnaaSc1
import Derived.Test.YtdnhbjcfhljcnaaSc4
import Derived.Laws.Bits64
import Derived.Laws.Bits64b
import Derived.Laws.Shifts
set_option linter.unusedVariables false
set_option linter.unusedSimpArgs false
namespace Go.Proofs.Ytdnhbjcfhljcnaa
open Go.RowKit

/-- A field width. -/
def Wd (n : Nat) : Prop := n = 1 ∨ n = 8 ∨ n = 16 ∨ n = 32 ∨ n = 64

theorem low_any (n : Nat) (hn : Wd n) (v : Nat) (hv : v < 18446744073709551616) (w : World) :
    Calls Try.prog 26 #[.int .u64 v, .int .i64 n] w fun e w' => e = .returned (.int .u64 ((v % 2 ^ n : Nat) : Int)) ∧ w = w' := by
  rcases hn with rfl | rfl | rfl | rfl | rfl
  all_goals
    go_enter Try.func26, Try.ntmps26
    go_wp2
    go_ret
    refine ⟨?_, rfl⟩
    try simp
    try (rw [IntKind.wrap_u64])
    try omega

theorem pow_any (r : Nat) (hr : r ≤ 63) (w : World) : Calls Try.prog 27 #[.int .i64 r] w fun e w' => e = .returned (.int .u64 ((2 ^ r : Nat) : Int)) ∧ w = w' := by
  obtain ⟨W, hW⟩ : ∃ W : World, W = w := ⟨_, rfl⟩
  subst hW
  go_enter Try.func27, Try.ntmps27
  go_wp2_with fail
  go_loop [3, 4] (fun pp kk => ∃ (j p : Nat), j ≤ r ∧ kk = .int .i64 j ∧ pp = .int .u64 p ∧ Hid (p = 2 ^ j)) (fun _ kk => r - (intOf kk).toNat)
  case atStart => exact ⟨0, 1, Nat.zero_le _, rfl, rfl, rfl⟩
  case round =>
    obtain ⟨j, p, hj, rfl, rfl, hp⟩ := hrel
    by_cases hjr : j < r
    · have hp2 : (p : Int) ≤ 4611686018427387904 := by
        have h2 : (2 : Nat) ^ j ≤ 2 ^ 62 := Nat.pow_le_pow_right (by omega) (by omega)
        have h3 := hp.out
        omega
      go_wp2
      go_round
      case rel => exact ⟨j + 1, p * 2, by omega, by go_num, by go_num, by show p * 2 = 2 ^ (j + 1); rw [hp.out, Nat.pow_succ]⟩
      case measure => simp [intOf]; omega
    · obtain rfl : j = r := by omega
      go_wp2
      go_ret
      exact ⟨by simp [hp.out], rfl⟩

theorem tb (v q k : Nat) (hq : q = 2 ^ k) : ((v : Int) / (q : Int) % 2 == 1) = v.testBit k := by
  subst hq
  rw [Nat.testBit_eq_decide_div_mod_eq]
  have h1 : (v : Int) / ((2 ^ k : Nat) : Int) % 2 = ((v / 2 ^ k % 2 : Nat) : Int) := by simp
  rw [h1]
  have h2 : v / 2 ^ k % 2 = 0 ∨ v / 2 ^ k % 2 = 1 := by omega
  rcases h2 with h2 | h2 <;> rw [h2] <;> decide

theorem tbw (v q k : Nat) (hv : v < 18446744073709551616) (hq : q = 2 ^ k) : ((IntKind.u64.wrap ((v : Int) / (q : Int))).tmod 2 == 1) = v.testBit k := by
  have h1 : v / q ≤ v := Nat.div_le_self _ _
  rw [← tb v q k hq, ← Int.natCast_ediv]
  generalize v / q = x at h1
  have h2 : IntKind.u64.wrap (x : Int) = (x : Int) := by rw [IntKind.wrap_u64]; omega
  rw [h2, Int.tmod_eq_emod_of_nonneg (Int.natCast_nonneg x)]
theorem field_any (v at' n : Nat) (hv : v < 18446744073709551616) (hn : at' + n ≤ 64) (w : World) :
    Calls Try.prog 16 #[.int .u64 v, .int .i64 at', .int .i64 n] w fun e w' => e = .returned (.int .u64 ((U (fun k => v.testBit (at' + k)) n : Nat) : Int)) ∧ w = w' := by
  obtain ⟨W, hW⟩ : ∃ W : World, W = w := ⟨_, rfl⟩
  subst hW
  go_enter Try.func16, Try.ntmps16
  go_wp2_with fail
  go_loop [7, 8] (fun pp kk => ∃ (j p : Nat), j ≤ n ∧ kk = .int .i64 j ∧ pp = .int .u64 p ∧ Hid (p = U (fun k => v.testBit (at' + k)) j)) (fun _ kk => n - (intOf kk).toNat)
  case atStart => exact ⟨0, 0, Nat.zero_le _, rfl, rfl, rfl⟩
  case round =>
    obtain ⟨j, p, hj, rfl, rfl, hp⟩ := hrel
    by_cases hjr : j < n
    · have hp2 : p < 2 ^ j := by rw [hp.out]; exact U_lt _ j
      have hp63 : (2 : Nat) ^ j ≤ 2 ^ 63 := Nat.pow_le_pow_right (by omega) (by omega)
      have hs := U_succ (fun k => v.testBit (at' + k)) j
      rw [← hp.out] at hs
      have HS := Lib.hid hs
      clear hs
      obtain ⟨q, hq⟩ : ∃ q, Hid (q = 2 ^ (at' + j)) := ⟨2 ^ (at' + j), rfl⟩
      have hq0 : 0 < q := by rw [hq.out]; exact Nat.two_pow_pos _
      have hq1 : ¬ (q : Int) = 0 := by omega
      have ht := tbw v q (at' + j) hv hq.out
      obtain ⟨x, hx⟩ : ∃ x, Hid (v.testBit (at' + j) = x) := ⟨_, rfl⟩
      rw [hx.out] at ht HS
      obtain ⟨r, hr⟩ : ∃ r, Hid (r = 2 ^ j) := ⟨2 ^ j, rfl⟩
      rw [← hr.out] at hp2 hp63 HS
      have hr63 : r ≤ 9223372036854775808 := hp63
      have hpow : ∀ (m : Nat) (i : Int), i = m → m ≤ 63 → ∀ w : World, Calls Try.prog 27 #[.int .i64 i] w fun e w' => e = .returned (.int .u64 ((2 ^ m : Nat) : Int)) ∧ w = w' := fun m i hi hm w => by subst hi; exact pow_any m hm w
      go_wp2_with fail
      refine (hpow (at' + j) _ (by omega) (by omega) _).mono ?_
      rintro e' w' ⟨rfl, rfl⟩
      rw [← hq.out]
      cases x
      · go_wp2_with fail
        go_round
        case rel => exact ⟨j + 1, p, by omega, by go_num, rfl, by show _ = _; rw [HS.out]; simp⟩
        case measure => simp [intOf]; omega
      · go_wp2_with fail
        refine (hpow j _ rfl (by omega) _).mono ?_
        rintro e' w' ⟨rfl, rfl⟩
        rw [← hr.out]
        go_wp2_with fail
        go_round
        case rel => exact ⟨j + 1, p + r, by omega, by go_num, by go_num, by show _ = _; rw [HS.out]; simp⟩
        case measure => simp [intOf]; omega
    · obtain rfl : j = n := by omega
      go_wp2
      go_ret
      exact ⟨by simp [hp.out], rfl⟩

theorem width_any (k : Nat) (hk : k < 256) (w : World) :
    Calls Try.prog 10 #[.int .u8 k] w fun e w' => (∃ n : Nat, Wd n ∧ e = .returned (.int .i64 n)) ∧ Below w.heap.size w w' := by
  obtain ⟨r, hr⟩ : ∃ r, Hid (k % 5 = r) := ⟨_, rfl⟩
  have hr5 : r < 5 := by rw [← hr.out]; omega
  have hri : (k : Int) % 5 = r := by rw [← hr.out]; omega
  rcases (by omega : r = 0 ∨ r = 1 ∨ r = 2 ∨ r = 3 ∨ r = 4) with rfl | rfl | rfl | rfl | rfl
  all_goals
    simp at hri
    go_enter Try.func10, Try.ntmps10
    go_wp2
    go_ret
  · exact ⟨⟨1, by simp [Wd], rfl⟩, by repeat (first | exact Below.refl _ _ | refine Below.alloc ?_ (by simp) _)⟩
  · exact ⟨⟨8, by simp [Wd], rfl⟩, by repeat (first | exact Below.refl _ _ | refine Below.alloc ?_ (by simp) _)⟩
  · exact ⟨⟨16, by simp [Wd], rfl⟩, by repeat (first | exact Below.refl _ _ | refine Below.alloc ?_ (by simp) _)⟩
  · exact ⟨⟨32, by simp [Wd], rfl⟩, by repeat (first | exact Below.refl _ _ | refine Below.alloc ?_ (by simp) _)⟩
  · exact ⟨⟨64, by simp [Wd], rfl⟩, by repeat (first | exact Below.refl _ _ | refine Below.alloc ?_ (by simp) _)⟩

/-- Is a field present? -/
def Pr (len n : Nat) (i : Int) : Bool := decide (0 ≤ i) && decide (i < ((len * 8 / n : Nat) : Int))
theorem present_any (n : Nat) (hn : Wd n) (i : Int) (A : Option Addr) (len cap : Nat) (hl : len ≤ 140737488355328) (w : World) :
    Calls Try.prog 24 #[.slice A len cap, .int .i64 n, .int .i64 i] w fun e w' => e = .returned (.bool (Pr len n i)) ∧ w = w' := by
  by_cases h0 : 0 ≤ i
  · by_cases h1 : i < ((len * 8 / n : Nat) : Int)
    all_goals
      rcases hn with rfl | rfl | rfl | rfl | rfl
      all_goals
        go_enter Try.func24, Try.ntmps24
        go_wp2
        go_ret
        refine ⟨?_, rfl⟩
        simp [Pr]
        try omega
  · rcases hn with rfl | rfl | rfl | rfl | rfl
    all_goals
      go_enter Try.func24, Try.ntmps24
      go_wp2
      go_ret
      refine ⟨?_, rfl⟩
      simp [Pr]
      try omega
theorem rpresent_any (n : Nat) (hn : Wd n) (i : Int) (A : Option Addr) (len cap : Nat) (hl : len ≤ 140737488355328) (w : World) :
    Calls Try.prog 17 #[.slice A len cap, .int .i64 n, .int .i64 i] w fun e w' => e = .returned (.bool (Pr len n i)) ∧ w = w' := by
  by_cases h0 : 0 ≤ i
  · by_cases h1 : i < ((len * 8 / n : Nat) : Int)
    all_goals
      rcases hn with rfl | rfl | rfl | rfl | rfl
      all_goals
        go_enter Try.func17, Try.ntmps17
        go_wp2
        go_ret
        refine ⟨?_, rfl⟩
        simp [Pr]
        try (rw [Bool.eq_iff_iff]; simp; omega)
  · rcases hn with rfl | rfl | rfl | rfl | rfl
    all_goals
      go_enter Try.func17, Try.ntmps17
      go_wp2
      go_ret
      refine ⟨?_, rfl⟩
      simp [Pr]
      try omega
/-- The number of a truth value. -/
def nb (b : Bool) : Nat := if b then 1 else 0
theorem rbit_is (A : Option Addr) (n cap : Nat) (xs : List Int) (w : World) (hn : n ≤ 140737488355328) (hR : Rd w A n xs) (m : Nat) (hm : m < 8 * n) (z : Nat) (hz : nb (fb xs m) = z) :
    Calls Try.prog 28 #[.slice A n cap, .int .i64 m] w fun e w' => e = .returned (.int .u64 z) ∧ w = w' := by
  have HZ := Lib.hid hz
  clear hz
  obtain ⟨hl, hr, hx⟩ := hR
  rcases hr with hr | ⟨b, off, rfl, hb, hc⟩
  · omega
  have h1 := hc (m / 8) (by omega)
  have hx' := hx (m / 8)
  obtain ⟨y, hy⟩ : ∃ y : Nat, Hid (xs.getD (m / 8) 0 = y) := ⟨(xs.getD (m / 8) 0).toNat, by show _ = _; omega⟩
  rw [hy.out] at h1 hx'
  obtain ⟨_, hy1⟩ := hx'
  have hF : Hid (fb xs m = y.testBit (m % 8)) := by show _ = _; unfold fb; rw [hy.out, Int.toNat_natCast]
  obtain ⟨q, hq⟩ : ∃ q : Nat, Hid (m / 8 = q) := ⟨_, rfl⟩
  obtain ⟨r, hrr⟩ : ∃ r : Nat, Hid (m % 8 = r) := ⟨_, rfl⟩
  rw [hq.out] at h1
  rw [hrr.out] at hF
  have hq1 : (m : Int) / 8 = q := by rw [← hq.out]; omega
  have hr1 : (m : Int) % 8 = r := by rw [← hrr.out]; omega
  have hq0 : q < n := by rw [← hq.out]; omega
  have hqi : (q : Int) < n := by omega
  have hqz : (0 : Int) ≤ q := by omega
  have hr8 : r < 8 := by rw [← hrr.out]; omega
  have hm0 : (0 : Int) ≤ m := Int.natCast_nonneg m
  obtain ⟨wo, rfl⟩ : ∃ wo : World, wo = w := ⟨_, rfl⟩
  clear hc hx
  go_enter Try.func28, Try.ntmps28
  go_wp2_with fail
  go_loop [5, 6] (fun bb kk => ∃ (j p : Nat), j ≤ r ∧ kk = .int .i64 j ∧ bb = .int .i64 p ∧ p ≤ 255 ∧ Hid (p = y / 2 ^ j)) (fun _ kk => r - (intOf kk).toNat)
  case atStart => exact ⟨0, y, Nat.zero_le _, rfl, rfl, by omega, by show _ = _; simp⟩
  case round =>
    obtain ⟨j, p, hj, rfl, rfl, hp1, hp⟩ := hrel
    have hp0 : (0 : Int) ≤ p := Int.natCast_nonneg p
    by_cases hjr : j < r
    · have hjri : (j : Int) < r := by omega
      go_wp2
      go_round
      case rel => exact ⟨j + 1, p / 2, by omega, by go_num, by simp, by omega, by show p / 2 = y / 2 ^ (j + 1); rw [hp.out, Nat.pow_succ, Nat.div_div_eq_div_mul]⟩
      case measure => simp [intOf]; omega
    · obtain rfl : j = r := by omega
      have hjri : ¬ (j : Int) < j := by omega
      have e1 : Hid (((p : Int) % 2) = z) := by
        show _ = _
        rw [← HZ.out, hF.out, Nat.testBit_eq_decide_div_mod_eq, ← hp.out]
        by_cases h2 : p % 2 = 1
        · simp [h2, nb]; omega
        · simp [h2, nb]; omega
      go_wp2
      go_ret
      exact ⟨by simp [e1.out], rfl⟩
end Go.Proofs.Ytdnhbjcfhljcnaa
