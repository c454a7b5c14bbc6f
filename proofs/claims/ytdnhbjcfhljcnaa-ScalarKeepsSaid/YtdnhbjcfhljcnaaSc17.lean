/- ScalarOverlap's walk. Conditions: each number is of its kind; the slice lies in memory as the form reads it. -/
import Derived.Test.YtdnhbjcfhljcnaaSc16
set_option linter.unusedVariables false
set_option linter.unusedSimpArgs false
namespace Go.Proofs.Ytdnhbjcfhljcnaa
open Go.RowKit

theorem pr_of {len n m : Nat} (hn : Wd n) (h : n * m + n ≤ 8 * len) : Pr len n m = true := by
  simp only [Pr, Bool.and_eq_true, decide_eq_true_eq]
  rcases hn with rfl | rfl | rfl | rfl | rfl <;> omega
theorem uV_at (xs : List Int) (n m : Nat) (hn : Wd n) (h : n * m + n ≤ 8 * xs.length) : uV xs n m 0 = U (fun t => fb xs (n * m + t)) n := by
  unfold uV
  exact U_congr fun t ht => by rw [pr_of hn h, Int.toNat_natCast]; simp
theorem overlap_far (A : Option Addr) (len cap : Nat) (i : Int) (h : 500 < len) (w : World) :
    Calls Try.prog 7 #[.slice A len cap, .int .u8 i] w fun e w' => e = .returned (.bool true) ∧ Below w.heap.size w w' := by
  go_enter Try.func7, Try.ntmps7
  go_wp2_with fail
  refine (awake_any _).mono ?_
  rintro e' w1 ⟨rfl, hb1⟩
  go_wp2_with fail
  refine (awake_any _).mono ?_
  rintro e' w2 ⟨rfl, hb2⟩
  go_wp2
  go_ret
  exact ⟨rfl, hb1.trans (hb2.mono hb1.size)⟩
theorem overlap_out (A : Option Addr) (len cap : Nat) (i : Nat) (h : len ≤ 500) (hi : i ≤ 255) (hp : Pr len 64 i = false) (w : World) :
    Calls Try.prog 7 #[.slice A len cap, .int .u8 i] w fun e w' => e = .returned (.bool true) ∧ Below w.heap.size w w' := by
  have h4 : decide (500 < (len : Int)) = false := b1 (by omega)
  have hwi : IntKind.i64.wrap (i : Int) = i := IntWalk.i64_in _ (by omega)
  have HP := Lib.hid hp
  clear hp
  go_enter Try.func7, Try.ntmps7
  go_wp2_with fail
  refine (awake_any _).mono ?_
  rintro e' w1 ⟨rfl, hb1⟩
  go_wp2_with fail
  refine (rpresent_is 64 W64 i A len cap (by omega) false HP.out _).mono ?_
  rintro e' w' ⟨rfl, rfl⟩
  go_wp2_with fail
  refine (awake_any _).mono ?_
  rintro e' w2 ⟨rfl, hb2⟩
  go_wp2
  go_ret
  exact ⟨rfl, hb1.trans (hb2.mono hb1.size)⟩
theorem uintAt (n m : Nat) (hn : Wd n) (A : Option Addr) (len cap : Nat) (xs : List Int) (hl : len ≤ 1048576) (w : World) (hR : Rd w A len xs) (h : n * m + n ≤ 8 * xs.length) (i : Int) (hi : i = m) (z : Nat) (hz : U (fun t => fb xs (n * m + t)) n = z) :
    Calls Try.prog 13 #[.slice A len cap, .int .i64 n, .int .i64 i, .int .u64 0] w fun e w' => e = .returned (.int .u64 z) ∧ Below w.heap.size w w' := by
  subst hi
  exact uint_is n hn m A len cap xs 0 (by omega) hl w hR z (by rw [uV_at xs n m hn h, hz])
set_option maxHeartbeats 4000000 in
theorem overlap_in (A : Option Addr) (len cap : Nat) (i : Nat) (xs : List Int) (h : len ≤ 500) (hi : i ≤ 255) (hm : 64 * i + 64 ≤ 8 * len) (w : World) (hR : Rd w A len xs) :
    Calls Try.prog 7 #[.slice A len cap, .int .u8 i] w fun e w' => e = .returned (.bool true) ∧ Below w.heap.size w w' := by
  have h4 : decide (500 < (len : Int)) = false := b1 (by omega)
  have hwi : IntKind.i64.wrap (i : Int) = i := IntWalk.i64_in _ (by omega)
  have HP := Lib.hid (pr_of W64 hm)
  have HR := Lib.hid hR
  have HL := Lib.hid hR.1
  clear hR
  have HM : Hid (64 * i + 64 ≤ 8 * xs.length) := by show _ ≤ _; rw [HL.out]; exact hm
  clear hm
  have hW16 := Lib.hid (show Wd 16 by simp [Wd])
  have hW32 := Lib.hid (show Wd 32 by simp [Wd])
  have hW1 := Lib.hid (show Wd 1 by simp [Wd])
  obtain ⟨z, hz⟩ : ∃ z, Hid (U (fun t => fb xs (64 * i + t)) 64 = z) := ⟨_, rfl⟩
  go_enter Try.func7, Try.ntmps7
  go_wp2_with fail
  refine (awake_any _).mono ?_
  rintro e' w1 ⟨rfl, hb1⟩
  have R1 := Lib.hid (HR.out.below hb1)
  go_wp2_with fail
  refine (rpresent_is 64 W64 i A len cap (by omega) true HP.out _).mono ?_
  rintro e' w' ⟨rfl, rfl⟩
  go_wp2_with fail
  refine (uintAt 64 i W64 A len cap xs (by omega) _ R1.out HM.out _ rfl z hz.out).mono ?_
  rintro e' w2 ⟨rfl, hb2⟩
  have B2 := hb1.trans (hb2.mono hb1.size)
  go_wp2_with fail
  go_loopw [6, 7] (fun vv kk wr => ∃ (j v : Nat), j ≤ 4 ∧ kk = .int .i64 ((j : Int) - 1) ∧ vv = .int .u64 v ∧ Hid (v = U (fun t => fb xs (16 * (4 * i + j) + t)) (16 * (4 - j))) ∧ Below w.heap.size w wr) (fun _ kk _ => (intOf kk + 1).toNat)
  case atStart => exact ⟨4, 0, by omega, rfl, rfl, by show _ = _; simp [U], B2⟩
  case round =>
    obtain ⟨j, v, hj, rfl, rfl, hv, hB⟩ := hrel
    by_cases hj0 : j = 0
    · subst hj0
      have hlt : ¬ (0 : Int) ≤ ((0 : Nat) : Int) - 1 := by omega
      have Hs : Hid (v = z) := by
        show _ = _
        rw [hv.out, ← hz.out]
        exact U_congr fun t _ => by congr 1; omega
      obtain rfl := Hs.out
      clear Hs hv
      go_wp2_with fail
      go_loopw [8, 9] (fun vv kk wr => ∃ (j x : Nat), j ≤ 64 ∧ kk = .int .i64 ((j : Int) - 1) ∧ vv = .int .u64 x ∧ Hid (x = U (fun t => fb xs (1 * (64 * i + j) + t)) (1 * (64 - j))) ∧ Below w.heap.size w wr) (fun _ kk _ => (intOf kk + 1).toNat)
      case atStart => exact ⟨64, 0, by omega, rfl, rfl, by show _ = _; simp [U], hB⟩
      case round =>
        obtain ⟨j, x, hj, rfl, rfl, hx, hC⟩ := hrel
        by_cases hj0 : j = 0
        · subst hj0
          have hlt : ¬ (0 : Int) ≤ ((0 : Nat) : Int) - 1 := by omega
          have Hs : Hid (x = v) := by
            show _ = _
            rw [hx.out, ← hz.out]
            exact U_congr fun t _ => by congr 1; omega
          obtain rfl := Hs.out
          obtain ⟨hi32, hhi⟩ : ∃ y, Hid (U (fun t => fb xs (32 * (2 * i + 1) + t)) 32 = y) := ⟨_, rfl⟩
          obtain ⟨lo32, hlo⟩ : ∃ y, Hid (U (fun t => fb xs (32 * (2 * i) + t)) 32 = y) := ⟨_, rfl⟩
          have hh1 : hi32 < 4294967296 := by rw [← hhi.out]; exact U_lt _ 32
          have hl1 : lo32 < 4294967296 := by rw [← hlo.out]; exact U_lt _ 32
          have hsum : Hid ((hi32 : Int) * 4294967296 + (lo32 : Int) = (x : Int)) := by
            show _ = _
            have e := U_split (fun t => fb xs (64 * i + t)) 32 32
            rw [hz.out, show U (fun t => fb xs (64 * i + t)) 32 = lo32 by
              rw [← hlo.out]; exact U_congr fun t _ => by congr 1; omega, show U (fun t => fb xs (64 * i + (32 + t))) 32 = hi32 by
              rw [← hhi.out]; exact U_congr fun t _ => by congr 1; omega] at e
            omega
          go_wp2_with fail
          refine (uintAt 32 (2 * i + 1) hW32.out A len cap xs (by omega) _ (HR.out.below hC) (by have := HM.out; omega) _ (by omega) hi32 hhi.out).mono ?_
          rintro e' w3 ⟨rfl, hb3⟩
          have B3 := hC.trans (hb3.mono hC.size)
          go_wp2_with fail
          refine (uintAt 32 (2 * i) hW32.out A len cap xs (by omega) _ (HR.out.below B3) (by have := HM.out; omega) _ (by omega) lo32 hlo.out).mono ?_
          rintro e' w4 ⟨rfl, hb4⟩
          have B4 := B3.trans (hb4.mono B3.size)
          go_wp2
          go_ret
          exact ⟨by simp [hsum.out], B4⟩
        · obtain ⟨k, rfl⟩ : ∃ k, j = k + 1 := ⟨j - 1, by omega⟩
          have hj1 : ((k + 1 : Nat) : Int) - 1 = k := by omega
          rw [hj1]
          have hk0 : (0 : Int) ≤ k := Int.natCast_nonneg _
          obtain ⟨y, hy⟩ : ∃ y, Hid (U (fun t => fb xs (1 * (64 * i + k) + t)) 1 = y) := ⟨_, rfl⟩
          have hy1 : y < 2 := by rw [← hy.out]; exact U_lt _ 1
          have hx63 : x < 9223372036854775808 := by
            rw [hx.out]
            exact Nat.lt_of_lt_of_le (U_lt _ _) (Nat.pow_le_pow_right (j := 63) (by omega) (by omega))
          have hU : Hid (x * 2 + y = U (fun t => fb xs (1 * (64 * i + k) + t)) (1 * (64 - k))) := by
            show _ = _
            rw [show 1 * (64 - k) = 1 + 1 * (64 - (k + 1)) by omega, U_split, hy.out]
            rw [show U (fun t => fb xs (1 * (64 * i + k) + (1 + t))) (1 * (64 - (k + 1))) = x by
              rw [hx.out]; exact U_congr fun t _ => by congr 1; omega]
            omega
          go_wp2_with fail
          refine (uintAt 1 (64 * i + k) hW1.out A len cap xs (by omega) _ (HR.out.below hC) (by have := HM.out; omega) _ (by omega) y hy.out).mono ?_
          rintro e' w3 ⟨rfl, hb3⟩
          go_wp2
          go_roundw
          case rel => exact ⟨k, x * 2 + y, by omega, by go_num, by simp, hU, hC.trans (hb3.mono hC.size)⟩
          case measure => simp [intOf] <;> omega
    · obtain ⟨k, rfl⟩ : ∃ k, j = k + 1 := ⟨j - 1, by omega⟩
      have hj1 : ((k + 1 : Nat) : Int) - 1 = k := by omega
      rw [hj1]
      have hk0 : (0 : Int) ≤ k := Int.natCast_nonneg _
      obtain ⟨y, hy⟩ : ∃ y, Hid (U (fun t => fb xs (16 * (4 * i + k) + t)) 16 = y) := ⟨_, rfl⟩
      have hy1 : y < 65536 := by rw [← hy.out]; exact U_lt _ 16
      have hx48 : v < 281474976710656 := by
        rw [hv.out]
        exact Nat.lt_of_lt_of_le (U_lt _ _) (Nat.pow_le_pow_right (j := 48) (by omega) (by omega))
      have hU : Hid (v * 65536 + y = U (fun t => fb xs (16 * (4 * i + k) + t)) (16 * (4 - k))) := by
        show _ = _
        rw [show 16 * (4 - k) = 16 + 16 * (4 - (k + 1)) by omega, U_split, hy.out]
        rw [show U (fun t => fb xs (16 * (4 * i + k) + (16 + t))) (16 * (4 - (k + 1))) = v by
          rw [hv.out]; exact U_congr fun t _ => by congr 1; omega]
        omega
      go_wp2_with fail
      refine (uintAt 16 (4 * i + k) hW16.out A len cap xs (by omega) _ (HR.out.below hB) (by have := HM.out; omega) _ (by omega) y hy.out).mono ?_
      rintro e' w3 ⟨rfl, hb3⟩
      go_wp2
      go_roundw
      case rel => exact ⟨k, v * 65536 + y, by omega, by go_num, by simp, hU, hB.trans (hb3.mono hB.size)⟩
      case measure => simp [intOf] <;> omega
theorem overlap_walk (A : Option Addr) (len cap : Nat) (i : Int) (xs : List Int) (w : World) (hi0 : 0 ≤ i) (hi1 : i ≤ 255) (hA : A = none → len = 0 ∧ cap = 0) (hR : Rd w A len xs) :
    Calls Try.prog 7 #[.slice A len cap, .int .u8 i] w fun e w' => e = .returned (.bool true) ∧ Below w.heap.size w w' := by
  obtain ⟨I, rfl⟩ := Int.eq_ofNat_of_zero_le hi0
  by_cases h : 500 < len
  · exact overlap_far A len cap I h w
  · cases hp : Pr len 64 (I : Int) with
    | false => exact overlap_out A len cap I (by omega) (by omega) hp w
    | true =>
      obtain ⟨m, e, hm⟩ := pr_nat W64 hp
      obtain rfl : I = m := by omega
      exact overlap_in A len cap I xs (by omega) (by omega) hm w hR
end Go.Proofs.Ytdnhbjcfhljcnaa
