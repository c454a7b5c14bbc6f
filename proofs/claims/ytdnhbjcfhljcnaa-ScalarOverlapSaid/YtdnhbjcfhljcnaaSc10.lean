/- What capnpref03.SetUint returns: the same as scalar.SetUint. Conditions: the width is one of the document's; the section takes at most 2^20 bytes. -/
import Derived.Test.YtdnhbjcfhljcnaaSc9
import Derived.Test.YtdnhbjcfhljcnaaAppend
set_option linter.unusedVariables false
set_option linter.unusedSimpArgs false
namespace Go.Proofs.Ytdnhbjcfhljcnaa
open Go.RowKit

/-- scalar.SetUint, where the field is present. -/
theorem set_any (n : Nat) (hn : Wd n) (i : Int) (A : Option Addr) (len cap : Nat) (xs : List Int) (d v : Nat) (hd : d < 18446744073709551616) (hv : v < 18446744073709551616) (hl : len ≤ 1048576) (hp : Pr len n i = true) (w : World) (hR : Rd w A len xs) (hA : A = none → len = 0) :
    Calls Try.prog 11 #[.slice A len cap, .int .i64 n, .int .i64 i, .int .u64 d, .int .u64 v] w fun e w' => (∃ r, e = .returned (.tuple #[r, .bool true]) ∧ w'.ownsRow w.heap.size 5 1 r len (nums .u8 (sL xs n i.toNat (v ^^^ d)))) ∧ Below w.heap.size w w' := by
  obtain ⟨m, rfl, hm⟩ := pr_nat hn hp
  rw [Int.toNat_natCast]
  rcases hn with rfl | hn
  · exact set_bit m A len cap xs d v hd hv hl hp (by omega) w hR hA
  · obtain ⟨s, hs, rfl⟩ : ∃ s, (s = 1 ∨ s = 2 ∨ s = 4 ∨ s = 8) ∧ n = 8 * s := by
      rcases hn with rfl | rfl | rfl | rfl
      · exact ⟨1, by omega, rfl⟩
      · exact ⟨2, by omega, rfl⟩
      · exact ⟨4, by omega, rfl⟩
      · exact ⟨8, by omega, rfl⟩
    have e1 : 8 * s * m = 8 * (s * m) := Nat.mul_assoc _ _ _
    exact set_wide s hs m A len cap xs d v hd hv hl hp (by omega) w hR hA (8 * s) rfl

/-- The section in the middle of the reference's loop. -/
def mR (xs : List Int) (n m k x : Nat) : List Int := L (upd (fb xs) (n * m) k x.testBit) xs.length
theorem mR_range (xs : List Int) (n m k x : Nat) (j : Nat) : 0 ≤ (mR xs n m k x).getD j 0 ∧ (mR xs n m k x).getD j 0 ≤ 255 := L_range _ _ _
theorem mR_length (xs : List Int) (n m k x : Nat) : (mR xs n m k x).length = xs.length := L_length _ _
theorem mR_zero {xs : List Int} (hx : ∀ j, 0 ≤ xs.getD j 0 ∧ xs.getD j 0 ≤ 255) (n m x : Nat) : mR xs n m 0 x = xs := by
  unfold mR
  rw [show L (upd (fb xs) (n * m) 0 x.testBit) xs.length = L (fb xs) xs.length from L_congr fun t ht => by unfold upd; rw [if_neg (by omega)], L_fb hx]
theorem mR_fb (xs : List Int) (n m k x : Nat) (h : n * m + k < 8 * xs.length) : fb (mR xs n m k x) (n * m + k) = fb xs (n * m + k) := by
  unfold mR
  rw [fb_L _ _ _ h]
  unfold upd
  rw [if_neg (by omega)]
theorem mR_fb' (xs : List Int) (n m k x : Nat) (h : n * m + k < 8 * xs.length) : fb (mR xs n m (k + 1) x) (n * m + k) = x.testBit k := by
  unfold mR
  rw [fb_L _ _ _ h]
  unfold upd
  rw [if_pos (by omega), show n * m + k - n * m = k by omega]
/-- The bit is as it is wanted. -/
theorem mR_same (xs : List Int) (n m k x : Nat) (h : fb xs (n * m + k) = x.testBit k) : mR xs n m (k + 1) x = mR xs n m k x := by
  unfold mR
  apply L_congr
  intro t ht
  unfold upd
  by_cases h1 : t = n * m + k
  · rw [if_pos (by omega), if_neg (by omega), h1, show n * m + k - n * m = k by omega, h]
  · by_cases h2 : n * m ≤ t ∧ t < n * m + k
    · rw [if_pos (by omega), if_pos h2]
    · rw [if_neg (by omega), if_neg h2]
theorem byteOf_step (f g : Nat → Bool) (j r : Nat) (hr : r < 8) (h0 : f (8 * j + r) = false) (h1 : g (8 * j + r) = true) (h : ∀ t, t ≠ 8 * j + r → g t = f t) : byteOf g j = byteOf f j + 2 ^ r :=
  U_add hr h0 h1 fun k hk => h _ (by omega)
theorem mR_up (xs : List Int) (n m k x q r y : Nat) (hq : (n * m + k) / 8 = q) (hr : (n * m + k) % 8 = r) (hlt : n * m + k < 8 * xs.length) (h0 : fb xs (n * m + k) = false) (h1 : x.testBit k = true) (hy : (mR xs n m k x).getD q 0 = y) :
    (mR xs n m k x).set q ((y + 2 ^ r : Nat) : Int) = mR xs n m (k + 1) x ∧ y + 2 ^ r ≤ 255 := by
  have e := byteOf_step (upd (fb xs) (n * m) k x.testBit) (upd (fb xs) (n * m) (k + 1) x.testBit) q r (by omega) (by
    unfold upd; rw [if_neg (by omega), show 8 * q + r = n * m + k by omega]; exact h0) (by
    unfold upd; rw [if_pos (by omega), show 8 * q + r - n * m = k by omega]; exact h1) (fun t ht => by
    unfold upd
    by_cases h2 : n * m ≤ t ∧ t < n * m + k
    · rw [if_pos (by omega), if_pos h2]
    · rw [if_neg (by omega), if_neg h2])
  have hy' : y = byteOf (upd (fb xs) (n * m) k x.testBit) q := by
    have h2 := L_getD (upd (fb xs) (n * m) k x.testBit) xs.length q (by omega)
    unfold mR at hy
    omega
  have hb := byteOf_lt (upd (fb xs) (n * m) (k + 1) x.testBit) q
  refine ⟨?_, by omega⟩
  unfold mR
  refine L_set (fun t ht => ?_) (by rw [e, hy'])
  unfold upd
  by_cases h2 : n * m ≤ t ∧ t < n * m + k
  · rw [if_pos (by omega), if_pos h2]
  · rw [if_neg (by omega), if_neg h2]
theorem mR_down (xs : List Int) (n m k x q r y : Nat) (hq : (n * m + k) / 8 = q) (hr : (n * m + k) % 8 = r) (hlt : n * m + k < 8 * xs.length) (h0 : fb xs (n * m + k) = true) (h1 : x.testBit k = false) (hy : (mR xs n m k x).getD q 0 = y) :
    (mR xs n m k x).set q ((y : Int) - ((2 ^ r : Nat) : Int)) = mR xs n m (k + 1) x ∧ 2 ^ r ≤ y := by
  have e := byteOf_step (upd (fb xs) (n * m) (k + 1) x.testBit) (upd (fb xs) (n * m) k x.testBit) q r (by omega) (by
    unfold upd; rw [if_pos (by omega), show 8 * q + r - n * m = k by omega]; exact h1) (by
    unfold upd; rw [if_neg (by omega), show 8 * q + r = n * m + k by omega]; exact h0) (fun t ht => by
    unfold upd
    by_cases h2 : n * m ≤ t ∧ t < n * m + k
    · rw [if_pos h2, if_pos (by omega)]
    · rw [if_neg h2, if_neg (by omega)])
  have hy' : y = byteOf (upd (fb xs) (n * m) k x.testBit) q := by
    have h2 := L_getD (upd (fb xs) (n * m) k x.testBit) xs.length q (by omega)
    unfold mR at hy
    omega
  refine ⟨?_, by omega⟩
  unfold mR
  refine L_set (fun t ht => ?_) (by rw [hy', e]; omega)
  unfold upd
  by_cases h2 : n * m ≤ t ∧ t < n * m + k
  · rw [if_pos (by omega), if_pos h2]
  · rw [if_neg (by omega), if_neg h2]
theorem own_read {w : World} {base g n c : Nat} {e : TypeId} {xs : List Int} (h : w.ownsRow base e 1 (.slice (some ⟨g, 0, none⟩) n c) n (nums .u8 xs)) (hx : ∀ j, 0 ≤ xs.getD j 0 ∧ xs.getD j 0 ≤ 255) : Rd w (some ⟨g, 0, none⟩) n xs := by
  obtain ⟨A, c', e1, hR⟩ := own_rd h hx
  simp only [Value.slice.injEq] at e1
  obtain ⟨rfl, _, _⟩ := e1
  exact hR
theorem rset_absent (n : Nat) (hn : Wd n) (i : Int) (A : Option Addr) (len cap : Nat) (d v : Nat) (hl : len ≤ 1048576) (hp : Pr len n i = false) (w : World) :
    Calls Try.prog 12 #[.slice A len cap, .int .i64 n, .int .i64 i, .int .u64 d, .int .u64 v] w fun e w' => e = .returned (.tuple #[.slice A len cap, .bool false]) ∧ w = w' := by
  have HP := Lib.hid hp
  clear hp
  go_enter Try.func12, Try.ntmps12
  go_wp2_with fail
  refine (rpresent_is n hn i A len cap hl false HP.out _).mono ?_
  rintro e' w' ⟨rfl, rfl⟩
  go_wp2
  refine bodyPost_ret (v := .tuple #[.slice A len cap, .bool false]) (by simp [results, Try.results12, go_sem]) rfl ⟨rfl, rfl⟩
set_option maxHeartbeats 4000000 in
theorem rset_here (n : Nat) (hn : Wd n) (m : Nat) (A : Option Addr) (len cap : Nat) (xs : List Int) (d v : Nat) (hd : d < 18446744073709551616) (hv : v < 18446744073709551616) (hl : len ≤ 1048576) (hp : Pr len n m = true) (hm : n * m + n ≤ 8 * len) (w : World) (hR : Rd w A len xs) (hA : A = none → len = 0 ∧ cap = 0) :
    Calls Try.prog 12 #[.slice A len cap, .int .i64 n, .int .i64 m, .int .u64 d, .int .u64 v] w fun e w' => (∃ r, e = .returned (.tuple #[r, .bool true]) ∧ w'.ownsRow w.heap.size 5 1 r len (nums .u8 (sL xs n m (v ^^^ d)))) ∧ Below w.heap.size w w' := by
  have hn1 : 1 ≤ n := by rcases hn with rfl | rfl | rfl | rfl | rfl <;> omega
  have hn64 : n ≤ 64 := by rcases hn with rfl | rfl | rfl | rfl | rfl <;> omega
  have HP := Lib.hid hp
  obtain ⟨x, hxx⟩ : ∃ x, Hid (x = v ^^^ d) := ⟨v ^^^ d, rfl⟩
  have hRx := hR.2.2
  have HRl := Lib.hid hR.1
  obtain ⟨p, hpp⟩ : ∃ p, Hid (n * m = p) := ⟨_, rfl⟩
  rw [hpp.out] at hm
  have hnm : (n : Int) * (m : Int) = p := by rw [← hpp.out]; simp
  have hp0 : (0 : Int) ≤ p := Int.natCast_nonneg _
  have HR := Lib.hid hR
  clear hR hp
  go_enter Try.func12, Try.ntmps12
  go_wp2_with fail
  refine (rpresent_is n hn m A len cap hl true HP.out _).mono ?_
  rintro e' w' ⟨rfl, rfl⟩
  have hE := own_empty w
  have B1 : Below w.heap.size w (w.alloc (Obj.cells #[] 5)) := (Below.refl _ _).alloc (Nat.le_refl _) _
  have HRd := Lib.hid (HR.out.below B1)
  go_wp2_with (at_builtin; refine wpList_append_rd rfl _ _ 22 rfl w.heap.size 5 Try.underlying22 Try.info5 _ 0 [] rfl hE A len cap xs rfl HRd.out hA ?c1 ?c2 ?_)
  case c1 => omega
  case c2 => simp
  intro v' w2 hown2 hg2 hn2
  clear hE
  have hbb : Below w.heap.size w w2 := B1.grown hg2 (by simp) (own_base (own_empty w))
  obtain ⟨g1, cap1, rfl, hc1, hgb1⟩ := own_form hown2 hn2
  obtain ⟨len', rfl⟩ : ∃ k, len = k + 1 := ⟨len - 1, by omega⟩
  have HO := Lib.hid hown2
  clear B1 HRd hn2 hg2 hown2
  go_wp2_with fail
  go_loopw [13, 14, 15, 16] (fun kk aa ww ss wr => ∃ j : Nat, j ≤ n ∧ kk = .int .i64 j ∧ Hid (wr.ownsRow w.heap.size 5 1 (.slice (some ⟨g1, 0, none⟩) (len' + 1) cap1) (len' + 1) (nums .u8 (mR xs n m j x))) ∧ Below w.heap.size w wr) (fun kk _ _ _ _ => n - (intOf kk).toNat)
  case atStart => exact ⟨0, Nat.zero_le _, rfl, by rw [mR_zero hRx]; exact HO, hbb⟩
  case round =>
    obtain ⟨j, hj, rfl, HOk, hB⟩ := hrel
    clear HO
    have hj0 : (0 : Int) ≤ j := Int.natCast_nonneg _
    by_cases hjn : j < n
    · have hjni : (j : Int) < n := by omega
      have hpk : (p : Int) + (j : Int) = ((p + j : Nat) : Int) := by omega
      obtain ⟨t, ht⟩ : ∃ t, Hid (p + j = t) := ⟨_, rfl⟩
      have htl : t < 8 * (len' + 1) := by rw [← ht.out]; omega
      rw [ht.out] at hpk
      obtain ⟨q, hq⟩ : ∃ q, Hid (t / 8 = q) := ⟨_, rfl⟩
      obtain ⟨r, hr⟩ : ∃ r, Hid (t % 8 = r) := ⟨_, rfl⟩
      have hr8 : r < 8 := by rw [← hr.out]; omega
      have hqn : q < len' + 1 := by rw [← hq.out]; omega
      have hq1 : (t : Int) / 8 = q := by rw [← hq.out]; omega
      have hr1 : (t : Int) % 8 = r := by rw [← hr.out]; omega
      have ht0 : (0 : Int) ≤ t := Int.natCast_nonneg _
      have hqi : (q : Int) < ((len' + 1 : Nat) : Int) := by omega
      have hqz : (0 : Int) ≤ q := Int.natCast_nonneg _
      have hrz : (0 : Int) ≤ r := Int.natCast_nonneg _
      have hRd := own_read HOk.out (mR_range xs n m j x)
      have hml := hRd.1
      obtain ⟨y, hy⟩ : ∃ y : Nat, Hid ((mR xs n m j x).getD q 0 = y) := ⟨((mR xs n m j x).getD q 0).toNat, by show _ = _; have := mR_range xs n m j x q; omega⟩
      have hy1 : y ≤ 255 := by have := mR_range xs n m j x q; rw [hy.out] at this; omega
      have hcell : wr.cell? ⟨g1, q, none⟩ = some (.int .u8 y) := by
        rw [HOk.out.cellAt q (by omega), ← hy.out]
        have hl2 : q < (mR xs n m j x).length := by omega
        simp [nums, List.getD_eq_getElem?_getD, List.getElem?_eq_getElem hl2]
      have hfr := HOk.out.frozenAt q
      have HRd := Lib.hid hRd
      obtain ⟨st, hst⟩ : ∃ st, Hid (2 ^ r = st) := ⟨2 ^ r, rfl⟩
      have hst1 : st ≤ 128 := by rw [← hst.out]; exact Nat.pow_le_pow_right (n := 2) (j := 7) (by omega) (by omega)
      have hfb := Lib.hid (mR_fb xs n m j x (by rw [hpp.out, HRl.out]; omega))
      rw [hpp.out, ht.out] at hfb
      obtain ⟨b1, hb1⟩ : ∃ b, Hid (d.testBit j = b) := ⟨_, rfl⟩
      obtain ⟨b2, hb2⟩ : ∃ b, Hid (v.testBit j = b) := ⟨_, rfl⟩
      obtain ⟨b3, hb3⟩ : ∃ b, Hid (fb xs t = b) := ⟨_, rfl⟩
      rw [hb3.out] at hfb
      have hwant : Hid (x.testBit j = (b1 ^^ b2)) := by show _ = _; rw [hxx.out, Nat.testBit_xor, hb1.out, hb2.out]; cases b1 <;> cases b2 <;> rfl
      have HU := Lib.hid (mR_up xs n m j x q r y (by rw [hpp.out, ht.out]; exact hq.out) (by rw [hpp.out, ht.out]; exact hr.out) (by rw [hpp.out, HRl.out, ht.out]; exact htl))
      have HD := Lib.hid (mR_down xs n m j x q r y (by rw [hpp.out, ht.out]; exact hq.out) (by rw [hpp.out, ht.out]; exact hr.out) (by rw [hpp.out, HRl.out, ht.out]; exact htl))
      have HS := Lib.hid (mR_same xs n m j x)
      rw [hpp.out, ht.out, hb3.out, hwant.out, hst.out] at HU HD
      rw [hpp.out, ht.out, hb3.out, hwant.out] at HS
      clear hml hRd
      cases b1 <;> cases b2 <;> cases b3
      · go_wp2_with fail
        refine (field1_is d j hd (by omega) 0 (by rw [hb1.out]; rfl) _).mono ?_
        rintro e' w' ⟨rfl, rfl⟩
        go_wp2_with fail
        refine (field1_is v j hv (by omega) 0 (by rw [hb2.out]; rfl) _).mono ?_
        rintro e' w' ⟨rfl, rfl⟩
        go_wp2_with fail
        refine (pow_is r (by omega) st hst.out _).mono ?_
        rintro e' w' ⟨rfl, rfl⟩
        go_wp2_with fail
        refine (bitAt_is (some ⟨g1, 0, none⟩) (len' + 1) cap1 (mR xs n m j x) _ hl HRd.out t htl _ (by omega) 0 (by rw [hfb.out]; rfl)).mono ?_
        rintro e' w' ⟨rfl, rfl⟩
        go_wp2_with fail
        refine (bitAt_is (some ⟨g1, 0, none⟩) (len' + 1) cap1 (mR xs n m j x) _ hl HRd.out t htl _ (by omega) 0 (by rw [hfb.out]; rfl)).mono ?_
        rintro e' w' ⟨rfl, rfl⟩
        go_wp2
        go_roundw
        case rel => exact ⟨j + 1, by omega, by go_num, by rw [HS.out (by trivial)]; exact HOk, hB⟩
        case measure => simp [intOf]; omega
      · go_wp2_with fail
        refine (field1_is d j hd (by omega) 0 (by rw [hb1.out]; rfl) _).mono ?_
        rintro e' w' ⟨rfl, rfl⟩
        go_wp2_with fail
        refine (field1_is v j hv (by omega) 0 (by rw [hb2.out]; rfl) _).mono ?_
        rintro e' w' ⟨rfl, rfl⟩
        go_wp2_with fail
        refine (pow_is r (by omega) st hst.out _).mono ?_
        rintro e' w' ⟨rfl, rfl⟩
        go_wp2_with fail
        refine (bitAt_is (some ⟨g1, 0, none⟩) (len' + 1) cap1 (mR xs n m j x) _ hl HRd.out t htl _ (by omega) 1 (by rw [hfb.out]; rfl)).mono ?_
        rintro e' w' ⟨rfl, rfl⟩
        obtain ⟨e1, e2⟩ := HD.out (by trivial) (by trivial) hy.out
        have hsub : (0 : Int) ≤ (y : Int) - (st : Int) := by omega
        have hyi : (y : Int) ≤ 255 := by omega
        have hst2 := HOk.out.stored q (.int .u8 ((y : Int) - (st : Int)))
        obtain ⟨hs1, hs2⟩ := hst2
        rw [← set_list, e1] at hs1
        have HS1 := Lib.hid hs1
        have HS2 := Lib.hid hs2
        have hlow := Lib.hid (mR_fb' xs n m j x (by rw [hpp.out, HRl.out]; omega))
        rw [hpp.out, ht.out, hwant.out] at hlow
        clear e1 hs1 hs2
        go_wp2_with fail
        refine (bitAt_is (some ⟨g1, 0, none⟩) (len' + 1) cap1 (mR xs n m (j + 1) x) _ hl (own_read HS1.out (mR_range xs n m (j + 1) x)) t htl _ (by omega) 0 (by rw [hlow.out]; rfl)).mono ?_
        rintro e' w' ⟨rfl, rfl⟩
        go_wp2
        go_roundw
        case rel => exact ⟨j + 1, by omega, by go_num, HS1, hB.grown HS2.out (by have := hB.size; omega) (fun j hj => by cases hj; exact hgb1)⟩
        case measure => simp [intOf]; omega
      · go_wp2_with fail
        refine (field1_is d j hd (by omega) 0 (by rw [hb1.out]; rfl) _).mono ?_
        rintro e' w' ⟨rfl, rfl⟩
        go_wp2_with fail
        refine (field1_is v j hv (by omega) 1 (by rw [hb2.out]; rfl) _).mono ?_
        rintro e' w' ⟨rfl, rfl⟩
        go_wp2_with fail
        refine (pow_is r (by omega) st hst.out _).mono ?_
        rintro e' w' ⟨rfl, rfl⟩
        go_wp2_with fail
        refine (bitAt_is (some ⟨g1, 0, none⟩) (len' + 1) cap1 (mR xs n m j x) _ hl HRd.out t htl _ (by omega) 0 (by rw [hfb.out]; rfl)).mono ?_
        rintro e' w' ⟨rfl, rfl⟩
        go_wp2_with fail
        refine (bitAt_is (some ⟨g1, 0, none⟩) (len' + 1) cap1 (mR xs n m j x) _ hl HRd.out t htl _ (by omega) 0 (by rw [hfb.out]; rfl)).mono ?_
        rintro e' w' ⟨rfl, rfl⟩
        obtain ⟨e1, e2⟩ := HU.out (by trivial) (by trivial) hy.out
        have hsub : (y : Int) + (st : Int) ≤ 255 := by omega
        have hst2 := HOk.out.stored q (.int .u8 ((y : Int) + (st : Int)))
        obtain ⟨hs1, hs2⟩ := hst2
        rw [← set_list, show ((y : Int) + (st : Int)) = ((y + st : Nat) : Int) by omega, e1] at hs1
        have HS1 := Lib.hid hs1
        have HS2 := Lib.hid hs2
        clear e1 hs1 hs2
        go_wp2
        go_roundw
        case rel => exact ⟨j + 1, by omega, by go_num, by simpa using HS1, hB.grown HS2.out (by have := hB.size; omega) (fun j hj => by cases hj; exact hgb1)⟩
        case measure => simp [intOf]; omega
      · go_wp2_with fail
        refine (field1_is d j hd (by omega) 0 (by rw [hb1.out]; rfl) _).mono ?_
        rintro e' w' ⟨rfl, rfl⟩
        go_wp2_with fail
        refine (field1_is v j hv (by omega) 1 (by rw [hb2.out]; rfl) _).mono ?_
        rintro e' w' ⟨rfl, rfl⟩
        go_wp2_with fail
        refine (pow_is r (by omega) st hst.out _).mono ?_
        rintro e' w' ⟨rfl, rfl⟩
        go_wp2_with fail
        refine (bitAt_is (some ⟨g1, 0, none⟩) (len' + 1) cap1 (mR xs n m j x) _ hl HRd.out t htl _ (by omega) 1 (by rw [hfb.out]; rfl)).mono ?_
        rintro e' w' ⟨rfl, rfl⟩
        go_wp2_with fail
        refine (bitAt_is (some ⟨g1, 0, none⟩) (len' + 1) cap1 (mR xs n m j x) _ hl HRd.out t htl _ (by omega) 1 (by rw [hfb.out]; rfl)).mono ?_
        rintro e' w' ⟨rfl, rfl⟩
        go_wp2
        go_roundw
        case rel => exact ⟨j + 1, by omega, by go_num, by rw [HS.out (by trivial)]; exact HOk, hB⟩
        case measure => simp [intOf]; omega
      · go_wp2_with fail
        refine (field1_is d j hd (by omega) 1 (by rw [hb1.out]; rfl) _).mono ?_
        rintro e' w' ⟨rfl, rfl⟩
        go_wp2_with fail
        refine (field1_is v j hv (by omega) 0 (by rw [hb2.out]; rfl) _).mono ?_
        rintro e' w' ⟨rfl, rfl⟩
        go_wp2_with fail
        refine (pow_is r (by omega) st hst.out _).mono ?_
        rintro e' w' ⟨rfl, rfl⟩
        go_wp2_with fail
        refine (bitAt_is (some ⟨g1, 0, none⟩) (len' + 1) cap1 (mR xs n m j x) _ hl HRd.out t htl _ (by omega) 0 (by rw [hfb.out]; rfl)).mono ?_
        rintro e' w' ⟨rfl, rfl⟩
        go_wp2_with fail
        refine (bitAt_is (some ⟨g1, 0, none⟩) (len' + 1) cap1 (mR xs n m j x) _ hl HRd.out t htl _ (by omega) 0 (by rw [hfb.out]; rfl)).mono ?_
        rintro e' w' ⟨rfl, rfl⟩
        obtain ⟨e1, e2⟩ := HU.out (by trivial) (by trivial) hy.out
        have hsub : (y : Int) + (st : Int) ≤ 255 := by omega
        have hst2 := HOk.out.stored q (.int .u8 ((y : Int) + (st : Int)))
        obtain ⟨hs1, hs2⟩ := hst2
        rw [← set_list, show ((y : Int) + (st : Int)) = ((y + st : Nat) : Int) by omega, e1] at hs1
        have HS1 := Lib.hid hs1
        have HS2 := Lib.hid hs2
        clear e1 hs1 hs2
        go_wp2
        go_roundw
        case rel => exact ⟨j + 1, by omega, by go_num, by simpa using HS1, hB.grown HS2.out (by have := hB.size; omega) (fun j hj => by cases hj; exact hgb1)⟩
        case measure => simp [intOf]; omega
      · go_wp2_with fail
        refine (field1_is d j hd (by omega) 1 (by rw [hb1.out]; rfl) _).mono ?_
        rintro e' w' ⟨rfl, rfl⟩
        go_wp2_with fail
        refine (field1_is v j hv (by omega) 0 (by rw [hb2.out]; rfl) _).mono ?_
        rintro e' w' ⟨rfl, rfl⟩
        go_wp2_with fail
        refine (pow_is r (by omega) st hst.out _).mono ?_
        rintro e' w' ⟨rfl, rfl⟩
        go_wp2_with fail
        refine (bitAt_is (some ⟨g1, 0, none⟩) (len' + 1) cap1 (mR xs n m j x) _ hl HRd.out t htl _ (by omega) 1 (by rw [hfb.out]; rfl)).mono ?_
        rintro e' w' ⟨rfl, rfl⟩
        go_wp2_with fail
        refine (bitAt_is (some ⟨g1, 0, none⟩) (len' + 1) cap1 (mR xs n m j x) _ hl HRd.out t htl _ (by omega) 1 (by rw [hfb.out]; rfl)).mono ?_
        rintro e' w' ⟨rfl, rfl⟩
        go_wp2
        go_roundw
        case rel => exact ⟨j + 1, by omega, by go_num, by rw [HS.out (by trivial)]; exact HOk, hB⟩
        case measure => simp [intOf]; omega
      · go_wp2_with fail
        refine (field1_is d j hd (by omega) 1 (by rw [hb1.out]; rfl) _).mono ?_
        rintro e' w' ⟨rfl, rfl⟩
        go_wp2_with fail
        refine (field1_is v j hv (by omega) 1 (by rw [hb2.out]; rfl) _).mono ?_
        rintro e' w' ⟨rfl, rfl⟩
        go_wp2_with fail
        refine (pow_is r (by omega) st hst.out _).mono ?_
        rintro e' w' ⟨rfl, rfl⟩
        go_wp2_with fail
        refine (bitAt_is (some ⟨g1, 0, none⟩) (len' + 1) cap1 (mR xs n m j x) _ hl HRd.out t htl _ (by omega) 0 (by rw [hfb.out]; rfl)).mono ?_
        rintro e' w' ⟨rfl, rfl⟩
        go_wp2_with fail
        refine (bitAt_is (some ⟨g1, 0, none⟩) (len' + 1) cap1 (mR xs n m j x) _ hl HRd.out t htl _ (by omega) 0 (by rw [hfb.out]; rfl)).mono ?_
        rintro e' w' ⟨rfl, rfl⟩
        go_wp2
        go_roundw
        case rel => exact ⟨j + 1, by omega, by go_num, by rw [HS.out (by trivial)]; exact HOk, hB⟩
        case measure => simp [intOf]; omega
      · go_wp2_with fail
        refine (field1_is d j hd (by omega) 1 (by rw [hb1.out]; rfl) _).mono ?_
        rintro e' w' ⟨rfl, rfl⟩
        go_wp2_with fail
        refine (field1_is v j hv (by omega) 1 (by rw [hb2.out]; rfl) _).mono ?_
        rintro e' w' ⟨rfl, rfl⟩
        go_wp2_with fail
        refine (pow_is r (by omega) st hst.out _).mono ?_
        rintro e' w' ⟨rfl, rfl⟩
        go_wp2_with fail
        refine (bitAt_is (some ⟨g1, 0, none⟩) (len' + 1) cap1 (mR xs n m j x) _ hl HRd.out t htl _ (by omega) 1 (by rw [hfb.out]; rfl)).mono ?_
        rintro e' w' ⟨rfl, rfl⟩
        obtain ⟨e1, e2⟩ := HD.out (by trivial) (by trivial) hy.out
        have hsub : (0 : Int) ≤ (y : Int) - (st : Int) := by omega
        have hyi : (y : Int) ≤ 255 := by omega
        have hst2 := HOk.out.stored q (.int .u8 ((y : Int) - (st : Int)))
        obtain ⟨hs1, hs2⟩ := hst2
        rw [← set_list, e1] at hs1
        have HS1 := Lib.hid hs1
        have HS2 := Lib.hid hs2
        have hlow := Lib.hid (mR_fb' xs n m j x (by rw [hpp.out, HRl.out]; omega))
        rw [hpp.out, ht.out, hwant.out] at hlow
        clear e1 hs1 hs2
        go_wp2_with fail
        refine (bitAt_is (some ⟨g1, 0, none⟩) (len' + 1) cap1 (mR xs n m (j + 1) x) _ hl (own_read HS1.out (mR_range xs n m (j + 1) x)) t htl _ (by omega) 0 (by rw [hlow.out]; rfl)).mono ?_
        rintro e' w' ⟨rfl, rfl⟩
        go_wp2
        go_roundw
        case rel => exact ⟨j + 1, by omega, by go_num, HS1, hB.grown HS2.out (by have := hB.size; omega) (fun j hj => by cases hj; exact hgb1)⟩
        case measure => simp [intOf]; omega
    · obtain rfl : j = n := by omega
      have hjni : ¬ (j : Int) < j := by omega
      go_wp2
      refine bodyPost_ret (v := .tuple #[.slice (some ⟨g1, 0, none⟩) (len' + 1) cap1, .bool true]) (by simp [results, Try.results12, go_sem]) rfl ?_
      refine ⟨⟨_, rfl, ?_⟩, hB⟩
      rw [← hxx.out]
      exact HOk.out
end Go.Proofs.Ytdnhbjcfhljcnaa
