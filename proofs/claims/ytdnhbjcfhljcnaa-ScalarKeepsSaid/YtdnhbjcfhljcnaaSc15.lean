/- ScalarZeroIsDefault's walk. Conditions: each number is of its kind. -/
import Derived.Test.YtdnhbjcfhljcnaaSc14
set_option linter.unusedVariables false
set_option linter.unusedSimpArgs false
namespace Go.Proofs.Ytdnhbjcfhljcnaa
open Go.RowKit

def zs (n : Nat) : List Int := List.replicate n 0
theorem zs_getD (n j : Nat) : (zs n).getD j 0 = 0 := by
  unfold zs
  by_cases h : j < n <;> simp [List.getD_eq_getElem?_getD, h]
theorem zs_range (n j : Nat) : 0 ≤ (zs n).getD j 0 ∧ (zs n).getD j 0 ≤ 255 := by rw [zs_getD]; omega
theorem zs_length (n : Nat) : (zs n).length = n := by simp [zs]
theorem fb_zs (n t : Nat) : fb (zs n) t = false := by unfold fb; rw [zs_getD]; simp
theorem sL_zs (k n m x : Nat) (hx : x = 0) : sL (zs k) n m x = zs k := by
  subst hx
  refine Eq.trans ?_ (L_fb (zs_range k))
  unfold sL
  apply L_congr
  intro t ht
  unfold upd
  rw [fb_zs]
  split <;> simp
theorem uV_zs (k n : Nat) (i : Int) (d : Nat) : uV (zs k) n i d = U d.testBit n := by
  unfold uV
  exact U_congr fun t ht => by rw [fb_zs]; simp
theorem nums_zs (n : Nat) : nums .u8 (zs n) = List.replicate n (.int .u8 0) := by simp [nums, zs]
theorem make_run (n : Nat) (hn : n ≤ 1048576) (w : World) : (Instr.makeSlice 22 (.int .i64 (n : Int)) (.int .i64 (n : Int))).run Try.prog w = .ok (.slice (some ⟨w.heap.size, 0, none⟩) n n) (w.alloc (Obj.cells (nums .u8 (zs n)).toArray 5)) := by
  rw [nums_zs, ← made_one]
  exact run_make_row' 22 5 (.int .u8 0) 1 Try.underlying22 Try.info5 rfl .i64 .i64 n (by omega) (by omega) w
theorem rd_zs (n : Nat) (w : World) : Rd (w.alloc (Obj.cells (nums .u8 (zs n)).toArray 5)) (some ⟨w.heap.size, 0, none⟩) n (zs n) := by
  have h := rd_block w (zs n) (zs_range n)
  rwa [zs_length] at h

set_option maxHeartbeats 1000000 in
theorem zero_near (size : Nat) (k i : Int) (d : Nat) (hs : size ≤ 255) (hk0 : 0 ≤ k) (hk1 : k ≤ 255) (hd : d < 18446744073709551616) (w : World) :
    Calls Try.prog 5 #[.int .u8 size, .int .u8 k, .int .i64 i, .int .u64 d] w fun e w' => e = .returned (.bool true) ∧ Below w.heap.size w w' := by
  have hwi : IntKind.i64.wrap (size : Int) = size := IntWalk.i64_in _ (by omega)
  have hmk := make_run size (by omega)
  obtain ⟨Z, hZ⟩ : ∃ Z, Hid (zs size = Z) := ⟨_, rfl⟩
  obtain ⟨C, hC⟩ : ∃ C, Hid ((nums .u8 (zs size)).toArray = C) := ⟨_, rfl⟩
  rw [hC.out] at hmk
  have hrd := Lib.hid (rd_zs size)
  rw [hC.out, hZ.out] at hrd
  go_enter Try.func5, Try.ntmps5
  go_wp2_with fail
  refine (awake_any _).mono ?_
  rintro e' w1 ⟨rfl, hb1⟩
  go_wp2_with fail
  refine (width_is k hk0 hk1 _).mono ?_
  rintro e' w2 ⟨⟨n, hn, rfl⟩, hb2⟩
  have HW := Lib.hid hn
  clear hn
  have R2 := Lib.hid (hrd.out w2)
  have B2 := (hb1.trans (hb2.mono hb1.size)).alloc (hb1.trans (hb2.mono hb1.size)).size (Obj.cells C 5)
  obtain ⟨lo, hlo⟩ : ∃ lo, Hid (U d.testBit n = lo) := ⟨_, rfl⟩
  have HU : Hid (uV Z n i d = lo) := by show _ = _; rw [← hZ.out, uV_zs, hlo.out]
  cases hp : Pr size n i with
  | false =>
    have HP := Lib.hid hp
    clear hp
    go_wp2_with fail
    refine (set_absent n HW.out i _ size size d d (by omega) HP.out _).mono ?_
    rintro e' w' ⟨rfl, rfl⟩
    go_wp2_with fail
    refine (uint_is n HW.out i _ size size Z d hd (by omega) _ R2.out lo HU.out).mono ?_
    rintro e' w3 ⟨rfl, hb3⟩
    have B3 := B2.trans (hb3.mono B2.size)
    have R3 := Lib.hid (R2.out.below hb3)
    go_wp2_with fail
    refine (field_is d n hd HW.out lo hlo.out _).mono ?_
    rintro e' w' ⟨rfl, rfl⟩
    go_wp2_with fail
    refine (same_is _ _ size size size size Z Z _ (by omega) R3.out R3.out true (by simp)).mono ?_
    rintro e' w4 ⟨rfl, hb4⟩
    go_wp2
    go_ret
    exact ⟨rfl, B3.trans (hb4.mono B3.size)⟩
  | true =>
    have HP := Lib.hid hp
    clear hp
    have HT : Hid (sL Z n i.toNat (d ^^^ d) = Z) := by show _ = _; rw [← hZ.out]; exact sL_zs _ _ _ _ (Nat.xor_self d)
    go_wp2_with fail
    refine (set_rd n HW.out i _ size size Z d d hd hd (by omega) HP.out _ R2.out (fun h => by cases h) Z HT.out).mono ?_
    rintro e' w3 ⟨⟨A1, c1, rfl, Ra, Na⟩, hb3⟩
    have B3 := B2.trans (hb3.mono B2.size)
    have R3 := Lib.hid (R2.out.below hb3)
    go_wp2_with fail
    refine (uint_is n HW.out i _ size size Z d hd (by omega) _ R3.out lo HU.out).mono ?_
    rintro e' w4 ⟨rfl, hb4⟩
    have B4 := B3.trans (hb4.mono B3.size)
    have R4 := Lib.hid (R3.out.below hb4)
    have Ra4 := Lib.hid (Ra.out.below hb4)
    go_wp2_with fail
    refine (field_is d n hd HW.out lo hlo.out _).mono ?_
    rintro e' w' ⟨rfl, rfl⟩
    go_wp2_with fail
    refine (same_is A1 _ size size c1 size Z Z _ (by omega) Ra4.out R4.out true (by simp)).mono ?_
    rintro e' w5 ⟨rfl, hb5⟩
    go_wp2
    go_ret
    exact ⟨rfl, B4.trans (hb5.mono B4.size)⟩
theorem zero_walk (size k i d : Int) (w : World) (hs0 : 0 ≤ size) (hs1 : size ≤ 255) (hk0 : 0 ≤ k) (hk1 : k ≤ 255) (hd0 : 0 ≤ d) (hd : d ≤ 18446744073709551615) :
    Calls Try.prog 5 #[.int .u8 size, .int .u8 k, .int .i64 i, .int .u64 d] w fun e w' => e = .returned (.bool true) ∧ Below w.heap.size w w' := by
  obtain ⟨D, rfl⟩ := Int.eq_ofNat_of_zero_le hd0
  obtain ⟨S, rfl⟩ := Int.eq_ofNat_of_zero_le hs0
  exact zero_near S k i D (by omega) hk0 hk1 (by omega) w
end Go.Proofs.Ytdnhbjcfhljcnaa
