/- What scalar.Uint returns of fields of whole bytes, and of every field. Conditions: the width is one of the document's; the section takes at most 2^20 bytes. -/
import Derived.Test.YtdnhbjcfhljcnaaSc5
set_option linter.unusedVariables false
set_option linter.unusedSimpArgs false
namespace Go.Proofs.Ytdnhbjcfhljcnaa
open Go.RowKit

theorem U_byte {xs : List Int} (j : Nat) (h : 0 ≤ xs.getD j 0 ∧ xs.getD j 0 ≤ 255) : ((U (fun t => fb xs (8 * j + t)) 8 : Nat) : Int) = xs.getD j 0 := byteOf_fb h
theorem or_push (v y : Nat) (hv : v < 72057594037927936) (hy : y ≤ 255) : bits .or .u64 ((v : Int) * 256) (y : Int) = ((v * 256 + y : Nat) : Int) := by
  have h1 : (2 : Int) ^ 64 = 18446744073709551616 := by decide
  have := bits_join .u64 64 (by decide) (fun n h0 h1 => by rw [IntKind.wrap_u64]; omega) 8 ((v : Int) * 256) (y : Int) (by omega) (by omega) (by omega) (by omega) (by omega) (by omega)
  rw [this]; omega

set_option maxHeartbeats 1000000 in
theorem uint_wide (s : Nat) (hs : s = 1 ∨ s = 2 ∨ s = 4 ∨ s = 8) (m : Nat) (b off len cap : Nat) (d : Nat) (xs : List Int) (hd : d < 18446744073709551616) (hl : len ≤ 1048576) (hp : Pr len (8 * s) m = true) (hm : s * m + s ≤ len) (w : World) (hb : b < w.heap.size) (hx : ∀ j, 0 ≤ xs.getD j 0 ∧ xs.getD j 0 ≤ 255)
    (hc : ∀ j, j < len → w.cell? ⟨b, off + j, none⟩ = some (.int .u8 (xs.getD j 0))) (n : Nat) (hn : n = 8 * s) (z : Nat) (hz : U (fun k => fb xs (8 * (s * m) + k) ^^ d.testBit k) n = z) :
    Calls Try.prog 13 #[.slice (some ⟨b, off, none⟩) len cap, .int .i64 n, .int .i64 m, .int .u64 d] w fun e w' => e = .returned (.int .u64 z) ∧ Below w.heap.size w w' := by
  have hWd : Wd n := by rcases hs with rfl | rfl | rfl | rfl <;> simp [Wd, hn]
  rw [← hn] at hp
  have HP := Lib.hid hp
  have HN := Lib.hid hn
  have HZ := Lib.hid hz
  have hs8 : s ≤ 8 := by omega
  have hs1 : 1 ≤ s := by omega
  have hn8 : 8 ≤ n := by omega
  have hn64 : n ≤ 64 := by omega
  have hnd : (n : Int) / 8 = s := by omega
  have hn0 : (0 : Int) ≤ n := Int.natCast_nonneg _
  have hnl : ¬ (n : Int) < 8 := by omega
  obtain ⟨p, hpp⟩ : ∃ p, Hid (s * m = p) := ⟨_, rfl⟩
  rw [hpp.out] at hm hz
  have HZ := Lib.hid hz
  have hsm : (s : Int) * (m : Int) = p := by rw [← hpp.out]; simp
  have hp0 : (0 : Int) ≤ p := Int.natCast_nonneg _
  obtain ⟨ld, hld⟩ : ∃ ld, Hid (U d.testBit n = ld) := ⟨_, rfl⟩
  clear hs hp hn hz
  obtain ⟨wo, rfl⟩ : ∃ wo : World, wo = w := ⟨_, rfl⟩
  go_enter Try.func13, Try.ntmps13
  go_wp2_with fail
  refine (present_is n hWd m (some ⟨b, off, none⟩) len cap hl true HP.out _).mono ?_
  rintro e' w' ⟨rfl, rfl⟩
  go_wp2_with fail
  go_loop [9, 10] (fun vv kk => ∃ (j v : Nat), j ≤ s ∧ kk = .int .i64 ((j : Int) - 1) ∧ vv = .int .u64 v ∧ Hid (v = U (fun t => fb xs (8 * (p + j) + t)) (8 * (s - j)))) (fun _ kk => (intOf kk + 1).toNat)
  case atStart => exact ⟨s, 0, by omega, rfl, rfl, by show _ = _; simp [U]⟩
  case round =>
    obtain ⟨j, v, hj, rfl, rfl, hv⟩ := hrel
    by_cases hj0 : j = 0
    · subst hj0
      have hlt : ¬ (0 : Int) ≤ ((0 : Nat) : Int) - 1 := by omega
      have E : Hid (bits .xor .u64 (v : Int) (ld : Int) = z) := by
        show _ = _
        have h1 : v < 2 ^ 64 := by rw [hv.out]; exact Nat.lt_of_lt_of_le (U_lt _ _) (Nat.pow_le_pow_right (by omega) (by omega))
        have h2 : ld < 2 ^ 64 := by rw [← hld.out]; exact Nat.lt_of_lt_of_le (U_lt _ _) (Nat.pow_le_pow_right (by omega) (by omega))
        rw [bits_xor_u64_nat _ _ h1 h2, hv.out, ← hld.out, ← HZ.out, show 8 * (s - 0) = n by have := HN.out; omega, xor_U]
        simp
      go_wp2_with fail
      refine (low_is n hWd d hd ld hld.out _).mono ?_
      rintro e' w' ⟨rfl, hb2⟩
      go_wp2
      go_ret
      exact ⟨by simp [E.out], hb2⟩
    · obtain ⟨i, rfl⟩ : ∃ i, j = i + 1 := ⟨j - 1, by omega⟩
      have h1 := hc (p + i) (by omega)
      have hx' := hx (p + i)
      obtain ⟨y, hy⟩ : ∃ y : Nat, Hid (xs.getD (p + i) 0 = y) := ⟨(xs.getD (p + i) 0).toNat, by show _ = _; omega⟩
      rw [hy.out] at h1 hx'
      obtain ⟨_, hy1⟩ := hx'
      have hj1 : ((i + 1 : Nat) : Int) - 1 = i := by omega
      rw [hj1]
      have hi0 : (0 : Int) ≤ i := Int.natCast_nonneg _
      have hpi : (p : Int) + (i : Int) = ((p + i : Nat) : Int) := by omega
      have hq0 : (0 : Int) ≤ ((p + i : Nat) : Int) := by omega
      have hq1 : ((p + i : Nat) : Int) < len := by omega
      obtain ⟨q, hq⟩ : ∃ q, Hid (p + i = q) := ⟨_, rfl⟩
      rw [hq.out] at h1 hpi hq0 hq1 hy
      have hv56 : v < 72057594037927936 := by
        have h2 : (2 : Nat) ^ (8 * (s - (i + 1))) ≤ 2 ^ 56 := Nat.pow_le_pow_right (by omega) (by omega)
        have h3 := U_lt (fun t => fb xs (8 * (p + (i + 1)) + t)) (8 * (s - (i + 1)))
        rw [← hv.out] at h3
        omega
      have hor := or_push v y hv56 (by omega)
      have hvi : (v : Int) * 256 ≤ 18446744073709551615 := by omega
      have hU : Hid (v * 256 + y = U (fun t => fb xs (8 * (p + i) + t)) (8 * (s - i))) := by
        show _ = _
        rw [show 8 * (s - i) = 8 + 8 * (s - (i + 1)) by omega, U_split]
        have h2 := U_byte (xs := xs) (p + i) (hx (p + i))
        rw [hq.out, hy.out] at h2
        rw [hq.out]
        have h3 : U (fun t => fb xs (8 * q + (8 + t))) (8 * (s - (i + 1))) = v := by
          rw [hv.out]
          exact U_congr fun k _ => by rw [← hq.out]; congr 1; omega
        rw [h3]
        omega
      obtain ⟨x, hxx⟩ : ∃ x, Hid (v * 256 + y = x) := ⟨_, rfl⟩
      rw [hxx.out] at hor hU
      clear hc hx
      go_wp2
      go_round
      case rel => exact ⟨i, x, by omega, rfl, by simp, hU.out.symm ▸ rfl⟩
      case measure => simp [intOf] <;> omega
/-- scalar.Uint. -/
theorem uint_any (n : Nat) (hn : Wd n) (i : Int) (A : Option Addr) (len cap : Nat) (xs : List Int) (d : Nat) (hd : d < 18446744073709551616) (hl : len ≤ 1048576) (w : World) (hR : Rd w A len xs) :
    Calls Try.prog 13 #[.slice A len cap, .int .i64 n, .int .i64 i, .int .u64 d] w fun e w' => e = .returned (.int .u64 (uV xs n i d : Nat)) ∧ Below w.heap.size w w' := by
  obtain ⟨hlen, hr, hx⟩ := hR
  by_cases hp : Pr len n i = true
  · obtain ⟨m, rfl, hm⟩ := pr_nat hn hp
    rcases hr with hr | ⟨b, off, rfl, hb, hc⟩
    · subst hr
      rcases hn with rfl | rfl | rfl | rfl | rfl <;> omega
    · rcases hn with rfl | hn
      · have h := uint_bit m b off len cap d xs hd hl hp (by omega) w hb hx hc
        have e : uV xs 1 (m : Int) d = nb (fb xs m ^^ d.testBit 0) := by
          simp only [uV, hlen, hp, U, Int.toNat_natCast]
          simp [nb]
        rw [e]; exact h
      · obtain ⟨s, hs, rfl⟩ : ∃ s, (s = 1 ∨ s = 2 ∨ s = 4 ∨ s = 8) ∧ n = 8 * s := by
          rcases hn with rfl | rfl | rfl | rfl
          · exact ⟨1, by omega, rfl⟩
          · exact ⟨2, by omega, rfl⟩
          · exact ⟨4, by omega, rfl⟩
          · exact ⟨8, by omega, rfl⟩
        have e1 : 8 * s * m = 8 * (s * m) := Nat.mul_assoc _ _ _
        refine uint_wide s hs m b off len cap d xs hd hl hp (by omega) w hb hx hc (8 * s) rfl _ ?_
        simp only [uV, hlen, hp, Int.toNat_natCast, e1, Bool.true_and]
  · have hp' : Pr len n i = false := by simpa using hp
    have h := uint_absent n hn i A len cap d hd hl hp' w
    have e : uV xs n i d = U d.testBit n := by
      simp [uV, hlen, hp']
    rw [e]; exact h
theorem uint_is (n : Nat) (hn : Wd n) (i : Int) (A : Option Addr) (len cap : Nat) (xs : List Int) (d : Nat) (hd : d < 18446744073709551616) (hl : len ≤ 1048576) (w : World) (hR : Rd w A len xs) (z : Nat) (hz : uV xs n i d = z) :
    Calls Try.prog 13 #[.slice A len cap, .int .i64 n, .int .i64 i, .int .u64 d] w fun e w' => e = .returned (.int .u64 z) ∧ Below w.heap.size w w' := by
  subst hz; exact uint_any n hn i A len cap xs d hd hl w hR
end Go.Proofs.Ytdnhbjcfhljcnaa
