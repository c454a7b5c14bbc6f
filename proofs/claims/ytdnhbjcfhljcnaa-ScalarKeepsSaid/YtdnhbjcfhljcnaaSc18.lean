/- ScalarKeeps' walk. Conditions: each number is of its kind; the slice lies in memory as the form reads it. -/
import Derived.Test.YtdnhbjcfhljcnaaSc17
set_option linter.unusedVariables false
set_option linter.unusedSimpArgs false
namespace Go.Proofs.Ytdnhbjcfhljcnaa
open Go.RowKit

/-- The call's own bytes. -/
def OwnB (base g len cap : Nat) (wr : World) : Prop := ∃ ys : List Int, (∀ j, 0 ≤ ys.getD j 0 ∧ ys.getD j 0 ≤ 255) ∧ ys.length = len ∧ wr.ownsRow base 5 1 (.slice (some ⟨g, 0, none⟩) len cap) len (nums .u8 ys)
theorem OwnB.below {base g len cap : Nat} {w w1 : World} (h : OwnB base g len cap w) (hb : Below w.heap.size w w1) : OwnB base g len cap w1 := by
  obtain ⟨ys, h1, h2, h3⟩ := h
  exact ⟨ys, h1, h2, own_below h3 hb⟩
theorem OwnB.step {base g len cap : Nat} {w : World} (h : OwnB base g len cap w) (j : Nat) (hj : j < len) : ∃ x : Int, 0 ≤ x ∧ x ≤ 255 ∧ w.cell? ⟨g, j, none⟩ = some (.int .u8 x) ∧ w.frozen? ⟨g, j, none⟩ = false ∧
    ∀ y : Int, 0 ≤ y → y ≤ 255 → OwnB base g len cap (w.setCell ⟨g, j, none⟩ (.int .u8 y)) ∧ ∀ {B : Nat} {v : World}, Below B v w → B ≤ w.heap.size → B ≤ base → Below B v (w.setCell ⟨g, j, none⟩ (.int .u8 y)) := by
  obtain ⟨ys, h1, h2, h3⟩ := h
  have hl : j < ys.length := by omega
  refine ⟨ys.getD j 0, (h1 j).1, (h1 j).2, ?_, h3.frozenAt j, fun y h0 hy => ?_⟩
  · rw [h3.cellAt j (by omega)]
    simp [nums, List.getD_eq_getElem?_getD, List.getElem?_eq_getElem hl]
  · have hs := h3.stored j (.int .u8 y)
    refine ⟨⟨ys.set j y, fun i => ?_, by simp [h2], ?_⟩, fun {B v} hB hsz hbb => hB.grown hs.2 hsz (fun k hk => by cases hk; exact Nat.le_trans hbb (own_base h3 g rfl))⟩
    · rw [List.getD_eq_getElem?_getD, List.getElem?_set]
      split
      · simp [h0, hy]
      · rw [← List.getD_eq_getElem?_getD]; exact h1 i
    · rw [set_list]; exact hs.1
theorem own_of {w : World} {base n : Nat} {v : Value} {xs : List Int} (h : w.ownsRow base 5 1 v (n + 1) (nums .u8 xs)) (hx : ∀ j, 0 ≤ xs.getD j 0 ∧ xs.getD j 0 ≤ 255) : ∃ g c, v = .slice (some ⟨g, 0, none⟩) (n + 1) c ∧ OwnB base g (n + 1) c w := by
  obtain ⟨g, c, rfl⟩ := ownsRow_succ h
  exact ⟨g, c, rfl, xs, hx, by have := h.1; simpa [nums] using this, h⟩

theorem keeps_far (A : Option Addr) (len cap : Nat) (k i : Int) (d v : Nat) (h : 500 < len) (w : World) :
    Calls Try.prog 8 #[.slice A len cap, .int .u8 k, .int .i64 i, .int .u64 d, .int .u64 v] w fun e w' => e = .returned (.bool true) ∧ Below w.heap.size w w' := by
  go_enter Try.func8, Try.ntmps8
  go_wp2_with fail
  refine (awake_any _).mono ?_
  rintro e' w1 ⟨rfl, hb1⟩
  go_wp2_with fail
  refine (awake_any _).mono ?_
  rintro e' w2 ⟨rfl, hb2⟩
  go_wp2
  go_ret
  exact ⟨rfl, hb1.trans (hb2.mono hb1.size)⟩
set_option maxHeartbeats 8000000 in
theorem keeps_near (A : Option Addr) (len cap : Nat) (k i : Int) (d v : Nat) (xs : List Int) (h : len ≤ 500) (hk0 : 0 ≤ k) (hk1 : k ≤ 255) (hd : d < 18446744073709551616) (hv : v < 18446744073709551616) (w : World) (hR : Rd w A len xs) (hA : A = none → len = 0 ∧ cap = 0) :
    Calls Try.prog 8 #[.slice A len cap, .int .u8 k, .int .i64 i, .int .u64 d, .int .u64 v] w fun e w' => e = .returned (.bool true) ∧ Below w.heap.size w w' := by
  have h4 : decide (500 < (len : Int)) = false := b1 (by omega)
  have hrf : ∀ (n : Nat) (w : World), (callFunc 18 #[.int .u64 (n : Int)]).run Try.prog w = .ok (.value (.float .f64 n)) w := fun n w => run_from n w
  have HR := Lib.hid hR
  have HX := Lib.hid hR.2.2
  have HA := Lib.hid hA
  have hA2 := Lib.hid (fun hh => (hA hh).1 : A = none → len = 0)
  clear hR hA
  go_enter Try.func8, Try.ntmps8
  go_wp2_with fail
  refine (awake_any _).mono ?_
  rintro e' w1 ⟨rfl, hb1⟩
  have R1 := Lib.hid (HR.out.below hb1)
  have hE := own_empty w1
  have B1 : Below w1.heap.size w1 (w1.alloc (Obj.cells #[] 5)) := (Below.refl _ _).alloc (Nat.le_refl _) _
  have HRd := Lib.hid (R1.out.below B1)
  go_wp2_with (at_builtin; refine wpList_append_rd rfl _ _ 22 rfl w1.heap.size 5 Try.underlying22 Try.info5 _ 0 [] rfl hE A len cap xs rfl HRd.out HA.out ?c1 ?c2 ?_)
  case c1 => omega
  case c2 => simp
  intro v' w2 hown2 hg2 hn2
  clear hE
  have hbb : Below w1.heap.size w1 w2 := B1.grown hg2 (by simp) (own_base (own_empty w1))
  have B2 := hb1.trans (hbb.mono hb1.size)
  have R2 := Lib.hid (R1.out.below hbb)
  obtain ⟨Aw, cw, rfl, hRw⟩ := own_rd hown2 HX.out
  have Rw2 := Lib.hid hRw
  clear B1 HRd hn2 hg2 hown2 hRw hbb
  go_wp2_with fail
  refine (width_is k hk0 hk1 _).mono ?_
  rintro e' w3 ⟨⟨n, hn, rfl⟩, hb3⟩
  have HW := Lib.hid hn
  clear hn
  have B3 := B2.trans (hb3.mono B2.size)
  have R3 := Lib.hid (R2.out.below hb3)
  have Rw3 := Lib.hid (Rw2.out.below hb3)
  cases hp : Pr len n i with
  | false =>
    have HP := Lib.hid hp
    clear hp
    go_wp2_with fail
    refine (set_absent n HW.out i A len cap d v (by omega) HP.out _).mono ?_
    rintro e' w' ⟨rfl, rfl⟩
    go_wp2_with fail
    go_loopw [15] (fun jj wr => jj = .int .i64 0 ∧ wr = w3) (fun _ _ => 0)
    case atStart => exact ⟨rfl, rfl⟩
    case round =>
      obtain ⟨rfl, rfl⟩ := hrel
      cases hq : Pr len 64 i with
      | false =>
        have HQ := Lib.hid hq
        clear hq
        go_wp2_with fail
        refine (setfloat_absent i A len cap d v (by omega) HQ.out _).mono ?_
        rintro e' w' ⟨rfl, rfl⟩
        go_wp2_with fail
        go_loopw [18] (fun jj wq => jj = .int .i64 0 ∧ wq = wr) (fun _ _ => 0)
        case atStart => exact ⟨rfl, rfl⟩
        case round =>
          obtain ⟨rfl, rfl⟩ := hrel
          go_wp2_with fail
          refine (same_is A Aw len len cap cw xs xs _ (by omega) R3.out Rw3.out true (by simp)).mono ?_
          rintro e' w9 ⟨rfl, hb9⟩
          go_wp2
          go_ret
          exact ⟨rfl, B3.trans (hb9.mono B3.size)⟩
      | true =>
        have HQ := Lib.hid hq
        clear hq
        obtain ⟨T2, hT2⟩ : ∃ T, Hid (sL xs 64 i.toNat (v ^^^ d) = T) := ⟨_, rfl⟩
        have HTr2 : Hid (∀ j, 0 ≤ T2.getD j 0 ∧ T2.getD j 0 ≤ 255) := by rw [← hT2.out]; exact sL_range _ _ _ _
        go_wp2_with fail
        refine (setfloat_any i A len cap xs d v hd hv (by omega) HQ.out _ R3.out hA2.out).mono ?_
        rintro e' w7 ⟨⟨r7, rfl, hown7⟩, hb7⟩
        rw [hT2.out] at hown7
        obtain ⟨len', rfl⟩ : ∃ l, len = l + 1 := ⟨len - 1, by
          obtain ⟨m, e, hm⟩ := pr_nat W64 HQ.out
          omega⟩
        obtain ⟨g7, c7, rfl, O7⟩ := own_of hown7 HTr2.out
        have HO7 := Lib.hid O7
        clear hown7 O7
        go_wp2_with fail
        go_loopw [18] (fun jj wq => ∃ j : Nat, j ≤ len' + 1 ∧ jj = .int .i64 j ∧ Hid (OwnB wr.heap.size g7 (len' + 1) c7 wq) ∧ Below wr.heap.size wr wq) (fun jj _ => len' + 1 - (intOf jj).toNat)
        case atStart => exact ⟨0, by omega, rfl, HO7, hb7⟩
        case round =>
          obtain ⟨j, hj, rfl, HOj, hBj⟩ := hrel
          clear HO7
          have hj0 : (0 : Int) ≤ j := Int.natCast_nonneg _
          by_cases hjl : j < len' + 1
          · have hji : (j : Int) < ((len' + 1 : Nat) : Int) := by omega
            obtain ⟨x, hx0, hx1, hcell, hfr, hst⟩ := HOj.out.step j hjl
            have HS := Lib.hid hst
            clear hst
            go_wp2
            go_roundw
            case rel =>
              have hs := HS.out ((x + 1) % 256) (by omega) (by omega)
              exact ⟨j + 1, by omega, by go_num, hs.1, hs.2 hBj hBj.size (Nat.le_refl _)⟩
            case measure => simp [intOf]; omega
          · obtain rfl : j = len' + 1 := by omega
            have B8 := B3.trans (hBj.mono B3.size)
            have R8 := Lib.hid (R3.out.below hBj)
            have Rw8 := Lib.hid (Rw3.out.below hBj)
            go_wp2_with fail
            refine (same_is A Aw (len' + 1) (len' + 1) cap cw xs xs _ (by omega) R8.out Rw8.out true (by simp)).mono ?_
            rintro e' w9 ⟨rfl, hb9⟩
            go_wp2
            go_ret
            exact ⟨rfl, B8.trans (hb9.mono B8.size)⟩
  | true =>
    have HP := Lib.hid hp
    clear hp
    obtain ⟨T, hT⟩ : ∃ T, Hid (sL xs n i.toNat (v ^^^ d) = T) := ⟨_, rfl⟩
    have HTr : Hid (∀ j, 0 ≤ T.getD j 0 ∧ T.getD j 0 ≤ 255) := by rw [← hT.out]; exact sL_range _ _ _ _
    go_wp2_with fail
    refine (set_any n HW.out i A len cap xs d v hd hv (by omega) HP.out _ R3.out hA2.out).mono ?_
    rintro e' w5 ⟨⟨r5, rfl, hown5⟩, hb5⟩
    rw [hT.out] at hown5
    obtain ⟨len', rfl⟩ : ∃ l, len = l + 1 := ⟨len - 1, by
      obtain ⟨m, e, hm⟩ := pr_nat HW.out HP.out
      have : 1 ≤ n := by rcases HW.out with rfl | rfl | rfl | rfl | rfl <;> omega
      omega⟩
    obtain ⟨g5, c5, rfl, O5⟩ := own_of hown5 HTr.out
    have HO5 := Lib.hid O5
    clear hown5 O5
    have B5 := B3.trans (hb5.mono B3.size)
    have z3 := B3.size
    go_wp2_with fail
    go_loopw [15] (fun jj wr => ∃ j : Nat, j ≤ len' + 1 ∧ jj = .int .i64 j ∧ Hid (OwnB w3.heap.size g5 (len' + 1) c5 wr) ∧ Below w3.heap.size w3 wr) (fun jj _ => len' + 1 - (intOf jj).toNat)
    case atStart => exact ⟨0, by omega, rfl, HO5, hb5⟩
    case round =>
      obtain ⟨j, hj, rfl, HOj, hBj⟩ := hrel
      clear HO5
      have hj0 : (0 : Int) ≤ j := Int.natCast_nonneg _
      by_cases hjl : j < len' + 1
      · have hji : (j : Int) < ((len' + 1 : Nat) : Int) := by omega
        obtain ⟨x, hx0, hx1, hcell, hfr, hst⟩ := HOj.out.step j hjl
        have HS := Lib.hid hst
        clear hst
        go_wp2
        go_roundw
        case rel => 
          have hs := HS.out ((x + 1) % 256) (by omega) (by omega)
          exact ⟨j + 1, by omega, by go_num, hs.1, hs.2 hBj hBj.size (Nat.le_refl _)⟩
        case measure => simp [intOf]; omega
      · obtain rfl : j = len' + 1 := by omega
        have B4 := B3.trans (hBj.mono B3.size)
        have R4 := Lib.hid (R3.out.below hBj)
        have Rw4 := Lib.hid (Rw3.out.below hBj)
        obtain ⟨w4, hw4⟩ : ∃ w4 : World, w4 = wr := ⟨_, rfl⟩
        subst hw4
        cases hq : Pr (len' + 1) 64 i with
        | false =>
          have HQ := Lib.hid hq
          clear hq
          go_wp2_with fail
          refine (setfloat_absent i A (len' + 1) cap d v (by omega) HQ.out _).mono ?_
          rintro e' w' ⟨rfl, rfl⟩
          go_wp2_with fail
          go_loopw [18] (fun jj wq => jj = .int .i64 0 ∧ wq = w4) (fun _ _ => 0)
          case atStart => exact ⟨rfl, rfl⟩
          case round =>
            obtain ⟨rfl, rfl⟩ := hrel
            go_wp2_with fail
            refine (same_is A Aw (len' + 1) (len' + 1) cap cw xs xs _ (by omega) R4.out Rw4.out true (by simp)).mono ?_
            rintro e' w9 ⟨rfl, hb9⟩
            go_wp2
            go_ret
            exact ⟨rfl, B4.trans (hb9.mono B4.size)⟩
        | true =>
          have HQ := Lib.hid hq
          clear hq
          obtain ⟨T2, hT2⟩ : ∃ T, Hid (sL xs 64 i.toNat (v ^^^ d) = T) := ⟨_, rfl⟩
          have HTr2 : Hid (∀ j, 0 ≤ T2.getD j 0 ∧ T2.getD j 0 ≤ 255) := by rw [← hT2.out]; exact sL_range _ _ _ _
          go_wp2_with fail
          refine (setfloat_any i A (len' + 1) cap xs d v hd hv (by omega) HQ.out _ R4.out hA2.out).mono ?_
          rintro e' w7 ⟨⟨r7, rfl, hown7⟩, hb7⟩
          rw [hT2.out] at hown7
          obtain ⟨g7, c7, rfl, O7⟩ := own_of hown7 HTr2.out
          have HO7 := Lib.hid O7
          clear hown7 O7
          go_wp2_with fail
          go_loopw [18] (fun jj wq => ∃ j : Nat, j ≤ len' + 1 ∧ jj = .int .i64 j ∧ Hid (OwnB w4.heap.size g7 (len' + 1) c7 wq) ∧ Below w4.heap.size w4 wq) (fun jj _ => len' + 1 - (intOf jj).toNat)
          case atStart => exact ⟨0, by omega, rfl, HO7, hb7⟩
          case round =>
            obtain ⟨j2, hj2, rfl, HOj2, hBj2⟩ := hrel
            clear HO7
            have hj02 : (0 : Int) ≤ j2 := Int.natCast_nonneg _
            by_cases hjl2 : j2 < len' + 1
            · have hji2 : (j2 : Int) < ((len' + 1 : Nat) : Int) := by omega
              obtain ⟨x, hx0, hx1, hcell, hfr, hst⟩ := HOj2.out.step j2 hjl2
              have HS := Lib.hid hst
              clear hst
              go_wp2
              go_roundw
              case rel =>
                have hs := HS.out ((x + 1) % 256) (by omega) (by omega)
                exact ⟨j2 + 1, by omega, by go_num, hs.1, hs.2 hBj2 hBj2.size (Nat.le_refl _)⟩
              case measure => simp [intOf]; omega
            · obtain rfl : j2 = len' + 1 := by omega
              have B8 := B4.trans (hBj2.mono B4.size)
              have R8 := Lib.hid (R4.out.below hBj2)
              have Rw8 := Lib.hid (Rw4.out.below hBj2)
              go_wp2_with fail
              refine (same_is A Aw (len' + 1) (len' + 1) cap cw xs xs _ (by omega) R8.out Rw8.out true (by simp)).mono ?_
              rintro e' w9 ⟨rfl, hb9⟩
              go_wp2
              go_ret
              exact ⟨rfl, B8.trans (hb9.mono B8.size)⟩
theorem keeps_walk (A : Option Addr) (len cap : Nat) (k i d v : Int) (xs : List Int) (w : World) (hk0 : 0 ≤ k) (hk1 : k ≤ 255) (hd0 : 0 ≤ d) (hd : d ≤ 18446744073709551615) (hv0 : 0 ≤ v) (hv : v ≤ 18446744073709551615) (hA : A = none → len = 0 ∧ cap = 0) (hR : Rd w A len xs) :
    Calls Try.prog 8 #[.slice A len cap, .int .u8 k, .int .i64 i, .int .u64 d, .int .u64 v] w fun e w' => e = .returned (.bool true) ∧ Below w.heap.size w w' := by
  obtain ⟨D, rfl⟩ := Int.eq_ofNat_of_zero_le hd0
  obtain ⟨V, rfl⟩ := Int.eq_ofNat_of_zero_le hv0
  by_cases h : 500 < len
  · exact keeps_far A len cap k i D V h w
  · exact keeps_near A len cap k i D V xs (by omega) hk0 hk1 (by omega) (by omega) w hR hA
end Go.Proofs.Ytdnhbjcfhljcnaa
