/- ListsizeTrims' walk, in its domain. Conditions: each number is of its kind; the slice lies in memory as the form reads it; the table lies as the program's text lays it. -/
import Derived.Test.YtmbecfiajkalcaaDoorLs13
set_option linter.unusedVariables false
set_option linter.unusedSimpArgs false
namespace Go.Proofs.YtmbecfiajkalcaaDoor
open Go.RowKit

theorem own_form {w : World} {base n : Nat} {e : TypeId} {size : Nat} {v : Value} {xs : List Value} (h : w.ownsRow base e size v n xs) (hv : v ≠ .slice none 0 0) : ∃ g c, v = .slice (some ⟨g, 0, none⟩) n c ∧ n ≤ c ∧ base ≤ g := by
  rcases h.2 with ⟨rfl, _⟩ | ⟨g, cap, cur, rfl, hb, _, hc, _⟩
  · exact absurd rfl hv
  · exact ⟨g, cap, rfl, hc, hb⟩
theorem own_any {w : World} {base n : Nat} {e : TypeId} {size : Nat} {v : Value} {xs : List Value} (h : w.ownsRow base e size v n xs) : ∃ A c, v = .slice A n c ∧ n ≤ c ∧ (A = none → n = 0) := by
  rcases h.2 with ⟨rfl, rfl⟩ | ⟨g, cap, cur, rfl, hb, _, hc, _⟩
  · exact ⟨none, 0, rfl, Nat.le_refl _, fun _ => rfl⟩
  · exact ⟨_, cap, rfl, hc, fun h => by cases h⟩
theorem range_append {xs : List Int} {x : Int} (h : ∀ j, 0 ≤ xs.getD j 0 ∧ xs.getD j 0 ≤ 255) (h0 : 0 ≤ x) (h1 : x ≤ 255) (j : Nat) : 0 ≤ (xs ++ [x]).getD j 0 ∧ (xs ++ [x]).getD j 0 ≤ 255 := by
  rw [List.getD_eq_getElem?_getD, List.getElem?_append]
  split
  · rw [← List.getD_eq_getElem?_getD]; exact h j
  · match hj : j - xs.length with
    | 0 => simp; omega
    | q + 1 => simp

set_option maxHeartbeats 8000000 in
theorem trims_in (e c : Int) (A : Option Addr) (n cap : Nat) (x : Int) (h0 : 0 ≤ e) (h1 : e ≤ 5) (h2 : 0 ≤ c) (h3 : c ≤ 4000) (h4 : n ≤ 2000) (k : Nat) (hB : Hid (bytesOf e c = (k : Int))) (hk : k ≤ n) (hcap : n ≤ cap)
    (xs : List Int) (w : World) (hA : Hid (A = none → n = 0 ∧ cap = 0)) (hR : Hid (Rd w A n xs)) (hx0 : 0 ≤ x) (hx1 : x ≤ 255) (ht : Tab w) :
    Calls Tryd.prog 6 #[.int .i64 e, .int .i64 c, .slice A n cap, .int .u8 x] w fun e' w' => e' = .returned (.bool true) ∧ Below w.heap.size w w' := by
  have HT := Lib.hid ht
  clear ht
  have t0 : decide (e < 0) = false := b1 (by omega)
  have t1 : decide (5 < e) = false := b1 (by omega)
  have t2 : decide (c < 0) = false := b1 (by omega)
  have t3 : decide (4000 < c) = false := b1 (by omega)
  have t4 : decide (2000 < (n : Int)) = false := b1 (by omega)
  have t6 : decide ((n : Int) < (k : Int)) = false := b1 (by omega)
  have HK : Hid ((bytesOf e c).toNat = k) := by show _ = _; rw [hB.out]; omega
  obtain ⟨T, hT⟩ : ∃ T, Hid (trimL e c xs = T) := ⟨_, rfl⟩
  have HTr : Hid (∀ j, 0 ≤ T.getD j 0 ∧ T.getD j 0 ≤ 255) := by rw [← hT.out]; exact trimL_range hR.out.2.2
  have hxl := hR.out.1
  have HX := Lib.hid hxl
  clear hxl
  have HTl : Hid (T.length = k) := by show _ = _; rw [← hT.out, trimL_length, HK.out, HX.out]; omega
  go_enter Tryd.func6, Tryd.ntmps6
  go_wp2_with fail
  refine (awake_any _ HT.out).mono ?_
  rintro e' w1 ⟨rfl, hb1⟩
  have z1 := hb1.size
  go_wp2_with fail
  refine (rbytes_is e c k h0 (by omega) h2 (by omega) hB.out _).mono ?_
  rintro e' w' ⟨rfl, rfl⟩
  have hE := own_empty w1
  have B1 : Below w1.heap.size w1 (w1.alloc (Obj.cells #[] 5)) := (Below.refl _ _).alloc (Nat.le_refl _) _
  have HRd := Lib.hid (hR.out.below (hb1.trans (B1.mono hb1.size)))
  go_wp2_with (at_builtin; refine wpList_append_rd rfl _ _ 22 rfl w1.heap.size 5 Tryd.underlying22 Tryd.info5 _ 0 [] rfl hE A n cap xs rfl HRd.out hA.out ?c1 ?c2 ?_)
  case c1 => omega
  case c2 => simp
  intro v' w2 hown2 hg2 hn2
  clear hE
  have C2 : Below w1.heap.size w1 w2 := B1.grown hg2 (by simp) (own_base (own_empty w1))
  have D2 : Below w.heap.size w w2 := hb1.trans (C2.mono hb1.size)
  obtain ⟨g1, cap1, rfl, hc1, hgb1⟩ := own_form hown2 hn2
  obtain ⟨A1, cc1, e1, hR2⟩ := own_rd hown2 hR.out.2.2
  simp only [Value.slice.injEq] at e1
  obtain ⟨rfl, _, rfl⟩ := e1
  have HR2 := Lib.hid hR2
  clear B1 HRd hn2 hg2 hown2 hR2
  go_wp2_with fail
  refine (trim_any e c h0 h1 h2 (by omega) _ n cap1 xs w2 (HT.out.below D2) (by omega) (fun h => by cases h) hc1 HR2.out k hB.out.symm hk).mono ?_
  rintro e' w3 ⟨⟨v3, rfl, hown3⟩, hb3⟩
  rw [hT.out] at hown3
  obtain ⟨A3, c3, rfl, hcap3, hA3⟩ := own_any hown3
  have HA3 := Lib.hid hA3
  have HO3 := Lib.hid hown3
  clear hown3 hA3
  have z3 := hb3.size
  have D3 : Below w.heap.size w w3 := D2.trans (hb3.mono D2.size)
  go_wp2_with fail
  refine (bytes_is e c k h0 (by omega) h2 (by omega) hB.out _ (HT.out.below D3)).mono ?_
  rintro e' w' ⟨rfl, rfl⟩
  have hE := own_empty w3
  have B3 : Below w3.heap.size w3 (w3.alloc (Obj.cells #[] 5)) := (Below.refl _ _).alloc (Nat.le_refl _) _
  have HRd := Lib.hid (((HR2.out.below hb3).below B3).take k hk)
  have hkcap : (k : Int) ≤ (cap1 : Int) := by omega
  go_wp2_with (at_builtin; refine wpList_append_rd rfl _ _ 22 rfl w3.heap.size 5 Tryd.underlying22 Tryd.info5 _ 0 [] rfl hE _ k cap1 (xs.take k) rfl HRd.out (fun h => by cases h) ?c3 ?c4 ?_)
  case c3 => omega
  case c4 => simp
  intro v4 w4 hown4 hg4 hn4
  clear hE
  have C4 : Below w3.heap.size w3 w4 := B3.grown hg4 (by simp) (own_base (own_empty w3))
  have z4 := C4.size
  clear B3 HRd hg4
  obtain ⟨i0, hi, hz0, hz1, hz2⟩ := info_parts Tryd.info5
  go_wp2_with (at_builtin; refine wpList_append_own_w rfl _ _ 22 rfl w3.heap.size 5 i0 (.int .u8 0) 1 1 Tryd.underlying22 hi hz0 hz1 hz2 rfl (by decide) v4 k (nums .u8 (xs.take k)) rfl (hown4.alloc _) ⟨w4.heap.size, 0, none⟩ 1 1 [.int .u8 x] rfl rfl (cell_one_new _ _ _) (by simp [Value.oneCell']) ?c5 ?c6 ?c7 ?_)
  case c5 => simp only [maxLen]; omega
  case c6 => omega
  case c7 => simp; omega
  intro v5 w5 hown5 hg5 hn5 _
  have C5 : Below w3.heap.size w3 w5 := (C4.alloc z4 _).grown hg5 (by simp; omega) (own_base hown4)
  have z5 := C5.size
  have D5 : Below w.heap.size w w5 := D3.trans (C5.mono D3.size)
  have hown5' : w5.ownsRow w3.heap.size 5 1 v5 (k + 1) (nums .u8 (xs.take k ++ [x])) := by rw [nums_append]; exact hown5
  obtain ⟨A5, cap5, rfl, hcap5, hA5⟩ := own_any hown5'
  obtain ⟨A6, cc6, e6, hR5⟩ := own_rd hown5' (range_append (hR.out.take k hk).2.2 hx0 hx1)
  simp only [Value.slice.injEq] at e6
  obtain ⟨rfl, _, rfl⟩ := e6
  have HR5 := Lib.hid hR5
  have HA5 := Lib.hid hA5
  have HTx : Hid (trimL e c (xs.take k ++ [x]) = T) := by
    show _ = _
    rw [← hT.out]
    refine trimL_congr h2 ?_
    rw [HK.out, List.take_append_of_le_length (by simp [HX.out]; omega), List.take_take, Nat.min_self]
  clear hR5 hA5 hown5 hown5' hg5 hn5 hown4 hn4 C4 hi hz0 hz1 hz2
  go_wp2_with fail
  refine (trim_any e c h0 h1 h2 (by omega) A5 (k + 1) cap5 _ w5 (HT.out.below D5) (by omega) (fun h => by have := HA5.out h; omega) hcap5 HR5.out k hB.out.symm (by omega)).mono ?_
  rintro e' w6 ⟨⟨v6, rfl, hown6⟩, hb6⟩
  rw [HTx.out] at hown6
  obtain ⟨A6, cap6, rfl, hR6⟩ := own_rd hown6 HTr.out
  have HR6 := Lib.hid hR6
  clear hR6 hown6
  have z6 := hb6.size
  have C6 : Below w3.heap.size w3 w6 := C5.trans (hb6.mono C5.size)
  have HO6 := Lib.hid (own_below HO3.out C6)
  obtain ⟨A7, cc7, e7, hR7⟩ := own_rd HO6.out HTr.out
  simp only [Value.slice.injEq] at e7
  obtain ⟨rfl, _, rfl⟩ := e7
  have HR7 := Lib.hid hR7
  clear hR7
  go_wp2_with fail
  refine (same_any A6 A3 k k cap6 c3 T T w6 (by omega) HR6.out HR7.out).mono ?_
  rintro e' w7 ⟨rfl, hb7⟩
  simp only [decide_true]
  have z7 := hb7.size
  have C7 : Below w3.heap.size w3 w7 := C6.trans (hb7.mono C6.size)
  have D7 : Below w.heap.size w w7 := D3.trans (C7.mono D3.size)
  have HR8 := Lib.hid (HR7.out.below hb7)
  have HTi : Hid (trimL e c T = T) := by show _ = _; rw [← hT.out]; exact trimL_idem h2 (by rw [HK.out, HX.out]; exact hk)
  go_wp2_with fail
  refine (trim_any e c h0 h1 h2 (by omega) A3 k c3 T w7 (HT.out.below D7) (by omega) HA3.out hcap3 HR8.out k hB.out.symm (Nat.le_refl _)).mono ?_
  rintro e' w8 ⟨⟨v8, rfl, hown8⟩, hb8⟩
  rw [HTi.out] at hown8
  obtain ⟨A8, cap8, rfl, hR9⟩ := own_rd hown8 HTr.out
  have HR9 := Lib.hid hR9
  clear hR9 hown8
  have C8 : Below w3.heap.size w3 w8 := C7.trans (hb8.mono C7.size)
  have HR10 := Lib.hid (HR8.out.below hb8)
  go_wp2_with fail
  refine (same_any A8 A3 k k cap8 c3 T T w8 (by omega) HR9.out HR10.out).mono ?_
  rintro e' w9 ⟨rfl, hb9⟩
  simp only [decide_true]
  have C9 : Below w3.heap.size w3 w9 := C8.trans (hb9.mono C8.size)
  have E9 : Below w2.heap.size w2 w9 := hb3.trans (C9.mono hb3.size)
  have D9 : Below w.heap.size w w9 := D2.trans (E9.mono D2.size)
  have HO9 := Lib.hid (own_below HO3.out C9)
  go_wp2_with fail
  have D2' := Lib.hid D2
  clear hb1 C2 D2 hb3 D3 C5 D5 hb6 C6 hb7 C7 D7 hb8 C8 hb9 C9 HR5 HA5 HR6 HR7 HR8 HR9 HR10 HTx HTi HO3 HO6 z1 z3 z4 z5 z6 z7 t0 t1 t2 t3 t4 t6
  have hz9 := E9.size
  have hz9' := D9.size
  have hk0 : (0 : Int) ≤ (k : Int) := Int.natCast_nonneg _
  go_loopw [12] (fun i wr => ∃ (j : Nat) (ys : List Int), j ≤ k ∧ i = .int .i64 j ∧ Hid (wr.ownsRow w2.heap.size 5 1 (.slice A3 k c3) k (nums .u8 ys)) ∧ Hid (∀ q, j ≤ q → q < k → ys.getD q 0 = T.getD q 0) ∧ Hid (Below w2.heap.size w2 wr) ∧ Hid (Below w.heap.size w wr))
    (fun i _ => k - (intOf i).toNat)
  case atStart => exact ⟨0, T, Nat.zero_le _, rfl, HO9.out, fun _ _ _ => rfl, E9, D9⟩
  case round =>
    obtain ⟨j, ys, hj, rfl, hO, hY, hE, hD⟩ := hrel
    by_cases hlt : j < k
    · obtain ⟨g, hg⟩ : ∃ g, Hid (A3 = some ⟨g, 0, none⟩) := by
        rcases hO.out.2 with ⟨h, _⟩ | ⟨g, cap', cur, h, _⟩
        · simp only [Value.slice.injEq] at h
          omega
        · simp only [Value.slice.injEq] at h
          exact ⟨g, h.1⟩
      have hg' := hg.out
      subst hg'
      have hO' := hO.out
      have hys : ys.length = k := by have := hO'.1; simpa [nums] using this
      obtain ⟨ty, hty⟩ : ∃ ty, Hid (T.getD j 0 = ty) := ⟨_, rfl⟩
      obtain ⟨tb, htb⟩ : ∃ tb, Hid (xs.getD j 0 = tb) := ⟨_, rfl⟩
      have hct : wr.cell? ⟨g, j, none⟩ = some (.int .u8 ty) := by
        rw [hO'.cellAt j (by omega)]
        have e1 : ys[j]? = some ty := by
          rw [List.getElem?_eq_getElem (by omega), getD_of_lt (by omega), hY.out j (Nat.le_refl _) hlt, hty.out]
        simp [nums, e1]
      have hft := hO'.frozenAt j
      have hgb := own_base hO' g rfl
      have hyr := HTr.out j
      rw [hty.out] at hyr
      obtain ⟨hy0, hy1⟩ := hyr
      have hj0 : (0 : Int) ≤ (j : Int) := Int.natCast_nonneg _
      have hj1 : (j : Int) < (k : Int) := by omega
      have hj2 : (j : Int) < (n : Int) := by omega
      have HO := Lib.hid hO'
      have HY := Lib.hid hys
      clear hO' hys hO hg
      obtain ⟨_, hr2, _⟩ := hR.out
      rcases hr2 with hr2 | ⟨b, off, hA2, hbw, hcb⟩
      · omega
      have hcb' : wr.cell? ⟨b, off + j, none⟩ = some (.int .u8 tb) := by rw [← htb.out]; exact (hD.out.cell (p := ⟨b, off + j, none⟩) hbw).trans (hcb j (by omega))
      clear hcb
      subst hA2
      by_cases heq : ty = tb
      · subst heq
        go_wp2_with fail
        go_quiet (fail)
        go_wp2
        go_roundw
        case rel =>
          have hst := (show (wr.drewN nq).ownsRow w2.heap.size 5 1 (.slice (some ⟨g, 0, none⟩) k c3) k (nums .u8 ys) from HO.out).stored j (.int .u8 ((ty + 1) % 256))
          refine ⟨j + 1, ys.set j ((ty + 1) % 256), by omega, by go_num, ?_, fun q hq hqk => ?_, ?_, ?_⟩
          · show _
            rw [show nums .u8 (ys.set j ((ty + 1) % 256)) = (nums .u8 ys).set j (.int .u8 ((ty + 1) % 256)) by simp [nums, List.map_set]]
            exact hst.1
          · rw [List.getD_eq_getElem?_getD, List.getElem?_set_ne (by omega), ← List.getD_eq_getElem?_getD]
            exact hY.out q (by omega) hqk
          · exact (below_drewN hE.out nq).setCell (p := ⟨g, j, none⟩) hgb _
          · exact (below_drewN hD.out nq).setCell (p := ⟨g, j, none⟩) (Nat.le_trans D2'.out.size hgb) _
        case measure => simp [intOf]; omega
      · have hnk : e = 1 ∧ 0 < c % 8 ∧ j = (bytesOf e c).toNat - 1 := by
          refine Decidable.byContradiction fun h => heq ?_
          rw [← hty.out, ← htb.out, ← hT.out]
          exact trimL_at (by rw [HK.out]; exact hlt) h
        obtain ⟨he, hc8, hjk⟩ := hnk
        rw [HK.out] at hjk
        have t7 : (e != 1) = false := by simp [he]
        have t8 : decide ((j : Int) < (k : Int) - 1) = false := b1 (by omega)
        have t9 : (c % 8 == 0) = false := by simp; omega
        have t10 : (ty != tb) = true := by simp [heq]
        clear he hjk hc8
        go_wp2_with fail
        go_quiet (fail)
        go_wp2
        go_roundw
        case rel =>
          have hst := (show (wr.drewN nq).ownsRow w2.heap.size 5 1 (.slice (some ⟨g, 0, none⟩) k c3) k (nums .u8 ys) from HO.out).stored j (.int .u8 ((ty + 1) % 256))
          refine ⟨j + 1, ys.set j ((ty + 1) % 256), by omega, by go_num, ?_, fun q hq hqk => ?_, ?_, ?_⟩
          · show _
            rw [show nums .u8 (ys.set j ((ty + 1) % 256)) = (nums .u8 ys).set j (.int .u8 ((ty + 1) % 256)) by simp [nums, List.map_set]]
            exact hst.1
          · rw [List.getD_eq_getElem?_getD, List.getElem?_set_ne (by omega), ← List.getD_eq_getElem?_getD]
            exact hY.out q (by omega) hqk
          · exact (below_drewN hE.out nq).setCell (p := ⟨g, j, none⟩) hgb _
          · exact (below_drewN hD.out nq).setCell (p := ⟨g, j, none⟩) (Nat.le_trans D2'.out.size hgb) _
        case measure => simp [intOf]; omega
    · obtain rfl : j = k := by omega
      have HRa := Lib.hid (HR2.out.below hE.out)
      have HRb := Lib.hid (hR.out.below hD.out)
      go_wp2_with fail
      refine (same_any _ A n n cap1 cap xs xs wr (by omega) HRa.out HRb.out).mono ?_
      rintro e' w10 ⟨rfl, hb10⟩
      simp only [decide_true]
      go_wp2
      go_ret
      exact ⟨rfl, below_step hD.out hD.out.size hb10⟩
end Go.Proofs.YtmbecfiajkalcaaDoor
