/- What capnpref03.Uint returns. Conditions: the width is one of the document's; the section takes at most 2^20 bytes. -/
import Derived.Test.YtdnhbjcfhljcnaaSc6
set_option linter.unusedVariables false
set_option linter.unusedSimpArgs false
namespace Go.Proofs.Ytdnhbjcfhljcnaa
open Go.RowKit

theorem field1_is (v k : Nat) (hv : v < 18446744073709551616) (hk : k ≤ 63) (z : Nat) (hz : nb (v.testBit k) = z) (w : World) :
    Calls Try.prog 16 #[.int .u64 v, .int .i64 k, .int .i64 1] w fun e w' => e = .returned (.int .u64 z) ∧ w = w' := by
  subst hz
  have h := field_any v k 1 hv (by omega) w
  have e : U (fun t => v.testBit (k + t)) 1 = nb (v.testBit k) := by simp [U, nb]
  rw [e] at h
  exact h
theorem rpresent_is (n : Nat) (hn : Wd n) (i : Int) (A : Option Addr) (len cap : Nat) (hl : len ≤ 1048576) (b : Bool) (hb : Pr len n i = b) (w : World) :
    Calls Try.prog 17 #[.slice A len cap, .int .i64 n, .int .i64 i] w fun e w' => e = .returned (.bool b) ∧ w = w' := by
  subst hb; exact rpresent_any n hn i A len cap (by omega) w
theorem pow_is (r : Nat) (hr : r ≤ 63) (z : Nat) (hz : 2 ^ r = z) (w : World) : Calls Try.prog 27 #[.int .i64 r] w fun e w' => e = .returned (.int .u64 z) ∧ w = w' := by
  subst hz; exact pow_any r hr w
theorem bitAt_is (A : Option Addr) (n cap : Nat) (xs : List Int) (w : World) (hn : n ≤ 1048576) (hR : Rd w A n xs) (m : Nat) (hm : m < 8 * n) (i : Int) (hi : i = m) (z : Nat) (hz : nb (fb xs m) = z) :
    Calls Try.prog 28 #[.slice A n cap, .int .i64 i] w fun e w' => e = .returned (.int .u64 z) ∧ w = w' := by
  subst hi; exact rbit_is A n cap xs w (by omega) hR m hm z hz

set_option maxHeartbeats 2000000 in
theorem ruint_any (n : Nat) (hn : Wd n) (i : Int) (A : Option Addr) (len cap : Nat) (xs : List Int) (d : Nat) (hd : d < 18446744073709551616) (hl : len ≤ 1048576) (w : World) (hR : Rd w A len xs) :
    Calls Try.prog 14 #[.slice A len cap, .int .i64 n, .int .i64 i, .int .u64 d] w fun e w' => e = .returned (.int .u64 (uV xs n i d : Nat)) ∧ w = w' := by
  have hn1 : 1 ≤ n := by rcases hn with rfl | rfl | rfl | rfl | rfl <;> omega
  have hn64 : n ≤ 64 := by rcases hn with rfl | rfl | rfl | rfl | rfl <;> omega
  obtain ⟨z, hz⟩ : ∃ z, Hid (uV xs n i d = z) := ⟨_, rfl⟩
  rw [hz.out]
  have hlen := hR.1
  have HR := Lib.hid hR
  have HL := Lib.hid hlen
  clear hR hlen
  obtain ⟨pr, hpr⟩ : ∃ pr, Hid (Pr len n i = pr) := ⟨_, rfl⟩
  obtain ⟨wo, rfl⟩ : ∃ wo : World, wo = w := ⟨_, rfl⟩
  go_enter Try.func14, Try.ntmps14
  go_wp2_with fail
  go_loop [9, 10, 11] (fun vv kk dd => ∃ (j v : Nat), j ≤ n ∧ kk = .int .i64 j ∧ vv = .int .u64 v ∧ Hid (v = U (fun k => (pr && fb xs (n * i.toNat + k)) ^^ d.testBit k) j)) (fun _ kk _ => n - (intOf kk).toNat)
  case atStart => exact ⟨0, 0, Nat.zero_le _, rfl, rfl, rfl⟩
  case round =>
    obtain ⟨j, v, hj, rfl, rfl, hv⟩ := hrel
    have hj0 : (0 : Int) ≤ j := Int.natCast_nonneg _
    by_cases hjn : j < n
    · have hji : (j : Int) < n := by omega
      have hs := U_succ (fun k => (pr && fb xs (n * i.toNat + k)) ^^ d.testBit k) j
      have hv2 : v < 2 ^ j := by rw [hv.out]; exact U_lt _ j
      rw [← hv.out] at hs
      have hp63 : (2 : Nat) ^ j ≤ 2 ^ 63 := Nat.pow_le_pow_right (by omega) (by omega)
      obtain ⟨r, hr⟩ : ∃ r, Hid (2 ^ j = r) := ⟨2 ^ j, rfl⟩
      rw [hr.out] at hv2 hp63 hs
      have hr63 : r ≤ 9223372036854775808 := hp63
      obtain ⟨y, hy⟩ : ∃ y, Hid (d.testBit j = y) := ⟨_, rfl⟩
      rw [hy.out] at hs
      have HS := Lib.hid hs
      clear hs hp63
      have fin : ∀ t : Bool, Hid (((pr && fb xs (n * i.toNat + j)) ^^ y) = t) → Hid (U (fun k => (pr && fb xs (n * i.toNat + k)) ^^ d.testBit k) (j + 1) = v + if t then r else 0) := fun t ht => by
        show _ = _; rw [HS.out, ht.out]
      clear HS
      cases y
      · go_wp2_with fail
        refine (field1_is d j hd (by omega) 0 (by rw [hy.out]; rfl) _).mono ?_
        rintro e' w' ⟨rfl, rfl⟩
        go_wp2_with fail
        refine (rpresent_is n hn i A len cap hl pr hpr.out _).mono ?_
        rintro e' w' ⟨rfl, rfl⟩
        cases pr with
        | false =>
          have F := fin false (by show _ = _; simp)
          clear fin
          go_wp2_with fail
          refine (pow_is j (by omega) r hr.out _).mono ?_
          rintro e' w' ⟨rfl, rfl⟩
          go_wp2
          go_round
          case rel => exact ⟨j + 1, v, by omega, by go_num, by simp [IntKind.wrap_u64] <;> omega, by show _ = _; rw [F.out]; simp⟩
          case measure => simp [intOf]; omega
        | true =>
          obtain ⟨m, rfl, hm⟩ := pr_nat hn hpr.out
          obtain ⟨p, hpp⟩ : ∃ p, Hid (n * m = p) := ⟨_, rfl⟩
          rw [hpp.out] at hm
          have hnm : (n : Int) * (m : Int) = p := by rw [← hpp.out]; simp
          have hpn : (0 : Int) ≤ p := Int.natCast_nonneg _
          obtain ⟨x, hx⟩ : ∃ x, Hid (fb xs (p + j) = x) := ⟨_, rfl⟩
          cases x
          · have F := fin false (by show _ = _; simp [Int.toNat_natCast, hpp.out, hx.out])
            clear fin
            go_wp2_with fail
            refine (bitAt_is A len cap xs _ hl HR.out (p + j) (by omega) _ (by omega) 0 (by rw [hx.out]; rfl)).mono ?_
            rintro e' w' ⟨rfl, rfl⟩
            go_wp2_with fail
            refine (pow_is j (by omega) r hr.out _).mono ?_
            rintro e' w' ⟨rfl, rfl⟩
            go_wp2
            go_round
            case rel => exact ⟨j + 1, v, by omega, by go_num, by simp [IntKind.wrap_u64] <;> omega, by show _ = _; rw [F.out]; simp⟩
            case measure => simp [intOf]; omega
          · have F := fin true (by show _ = _; simp [Int.toNat_natCast, hpp.out, hx.out])
            clear fin
            go_wp2_with fail
            refine (bitAt_is A len cap xs _ hl HR.out (p + j) (by omega) _ (by omega) 1 (by rw [hx.out]; rfl)).mono ?_
            rintro e' w' ⟨rfl, rfl⟩
            go_wp2_with fail
            refine (pow_is j (by omega) r hr.out _).mono ?_
            rintro e' w' ⟨rfl, rfl⟩
            go_wp2
            go_round
            case rel => exact ⟨j + 1, v + r, by omega, by go_num, by simp [IntKind.wrap_u64] <;> omega, by show _ = _; rw [F.out]; simp⟩
            case measure => simp [intOf]; omega
      · go_wp2_with fail
        refine (field1_is d j hd (by omega) 1 (by rw [hy.out]; rfl) _).mono ?_
        rintro e' w' ⟨rfl, rfl⟩
        go_wp2_with fail
        refine (rpresent_is n hn i A len cap hl pr hpr.out _).mono ?_
        rintro e' w' ⟨rfl, rfl⟩
        cases pr with
        | false =>
          have F := fin true (by show _ = _; simp)
          clear fin
          go_wp2_with fail
          refine (pow_is j (by omega) r hr.out _).mono ?_
          rintro e' w' ⟨rfl, rfl⟩
          go_wp2
          go_round
          case rel => exact ⟨j + 1, v + r, by omega, by go_num, by simp [IntKind.wrap_u64] <;> omega, by show _ = _; rw [F.out]; simp⟩
          case measure => simp [intOf]; omega
        | true =>
          obtain ⟨m, rfl, hm⟩ := pr_nat hn hpr.out
          obtain ⟨p, hpp⟩ : ∃ p, Hid (n * m = p) := ⟨_, rfl⟩
          rw [hpp.out] at hm
          have hnm : (n : Int) * (m : Int) = p := by rw [← hpp.out]; simp
          have hpn : (0 : Int) ≤ p := Int.natCast_nonneg _
          obtain ⟨x, hx⟩ : ∃ x, Hid (fb xs (p + j) = x) := ⟨_, rfl⟩
          cases x
          · have F := fin true (by show _ = _; simp [Int.toNat_natCast, hpp.out, hx.out])
            clear fin
            go_wp2_with fail
            refine (bitAt_is A len cap xs _ hl HR.out (p + j) (by omega) _ (by omega) 0 (by rw [hx.out]; rfl)).mono ?_
            rintro e' w' ⟨rfl, rfl⟩
            go_wp2_with fail
            refine (pow_is j (by omega) r hr.out _).mono ?_
            rintro e' w' ⟨rfl, rfl⟩
            go_wp2
            go_round
            case rel => exact ⟨j + 1, v + r, by omega, by go_num, by simp [IntKind.wrap_u64] <;> omega, by show _ = _; rw [F.out]; simp⟩
            case measure => simp [intOf]; omega
          · have F := fin false (by show _ = _; simp [Int.toNat_natCast, hpp.out, hx.out])
            clear fin
            go_wp2_with fail
            refine (bitAt_is A len cap xs _ hl HR.out (p + j) (by omega) _ (by omega) 1 (by rw [hx.out]; rfl)).mono ?_
            rintro e' w' ⟨rfl, rfl⟩
            go_wp2_with fail
            refine (pow_is j (by omega) r hr.out _).mono ?_
            rintro e' w' ⟨rfl, rfl⟩
            go_wp2
            go_round
            case rel => exact ⟨j + 1, v, by omega, by go_num, by simp [IntKind.wrap_u64] <;> omega, by show _ = _; rw [F.out]; simp⟩
            case measure => simp [intOf]; omega
    · obtain rfl : j = n := by omega
      go_wp2
      go_ret
      exact ⟨by simp [hv.out, ← hz.out, uV, HL.out, hpr.out], rfl⟩
end Go.Proofs.Ytdnhbjcfhljcnaa
