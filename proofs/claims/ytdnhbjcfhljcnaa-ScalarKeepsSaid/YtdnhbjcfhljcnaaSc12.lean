/- The law package's own examples hold (awake). No condition. -/
import Derived.Test.YtdnhbjcfhljcnaaSc11
import Derived.Deep.OwnRows
set_option linter.unusedVariables false
set_option linter.unusedSimpArgs false
namespace Go.Proofs.Ytdnhbjcfhljcnaa
open Go.RowKit

theorem sL_range (xs : List Int) (n m x : Nat) (j : Nat) : 0 ≤ (sL xs n m x).getD j 0 ∧ (sL xs n m x).getD j 0 ≤ 255 := L_range _ _ _
theorem set_rd (n : Nat) (hn : Wd n) (i : Int) (A : Option Addr) (len cap : Nat) (xs : List Int) (d v : Nat) (hd : d < 18446744073709551616) (hv : v < 18446744073709551616) (hl : len ≤ 1048576) (hp : Pr len n i = true) (w : World) (hR : Rd w A len xs) (hA : A = none → len = 0) (T : List Int) (hT : sL xs n i.toNat (v ^^^ d) = T) :
    Calls Try.prog 11 #[.slice A len cap, .int .i64 n, .int .i64 i, .int .u64 d, .int .u64 v] w fun e w' => (∃ A' c, e = .returned (.tuple #[.slice A' len c, .bool true]) ∧ Hid (Rd w' A' len T) ∧ Hid (A' = none → len = 0)) ∧ Below w.heap.size w w' :=
  (set_any n hn i A len cap xs d v hd hv hl hp w hR hA).mono fun e w' ⟨⟨r, he, hown⟩, hb⟩ => by
    subst hT
    obtain ⟨A', c, rfl, h1, h2⟩ := own_any hown
    obtain ⟨A2, c2, e1, h3⟩ := own_rd hown (sL_range _ _ _ _)
    simp only [Value.slice.injEq] at e1
    obtain ⟨rfl, _, rfl⟩ := e1
    exact ⟨⟨A', c, he, h3, h2⟩, hb⟩
theorem setfloat_rd (i : Int) (A : Option Addr) (len cap : Nat) (xs : List Int) (d v : Nat) (hd : d < 18446744073709551616) (hv : v < 18446744073709551616) (hl : len ≤ 1048576) (hp : Pr len 64 i = true) (w : World) (hR : Rd w A len xs) (hA : A = none → len = 0) (T : List Int) (hT : sL xs 64 i.toNat (v ^^^ d) = T) :
    Calls Try.prog 19 #[.slice A len cap, .int .i64 i, .float .f64 d, .float .f64 v] w fun e w' => (∃ A' c, e = .returned (.tuple #[.slice A' len c, .bool true]) ∧ Hid (Rd w' A' len T) ∧ Hid (A' = none → len = 0)) ∧ Below w.heap.size w w' :=
  (setfloat_any i A len cap xs d v hd hv hl hp w hR hA).mono fun e w' ⟨⟨r, he, hown⟩, hb⟩ => by
    subst hT
    obtain ⟨A', c, rfl, h1, h2⟩ := own_any hown
    obtain ⟨A2, c2, e1, h3⟩ := own_rd hown (sL_range _ _ _ _)
    simp only [Value.slice.injEq] at e1
    obtain ⟨rfl, _, rfl⟩ := e1
    exact ⟨⟨A', c, he, h3, h2⟩, hb⟩
theorem samebits_is (a b : Nat) (t : Bool) (h : decide (a = b) = t) (w : World) : Calls Try.prog 22 #[.float .f64 a, .float .f64 b] w fun e w' => e = .returned (.bool t) ∧ w = w' := by
  subst h; exact samebits_any a b w
theorem same_is (A B : Option Addr) (n m ca cb : Nat) (xs ys : List Int) (w : World) (hn : n ≤ 1048576) (h1 : Rd w A n xs) (h2 : Rd w B m ys) (t : Bool) (h : decide (xs = ys) = t) :
    Calls Try.prog 15 #[.slice A n ca, .slice B m cb] w fun e w' => e = .returned (.bool t) ∧ Below w.heap.size w w' := by
  subst h; exact same_any A B n m ca cb xs ys w (by omega) h1 h2
theorem rd_block (w : World) (vs : List Int) (hx : ∀ j, 0 ≤ vs.getD j 0 ∧ vs.getD j 0 ≤ 255) : Rd (w.alloc (Obj.cells (nums .u8 vs).toArray 5)) (some ⟨w.heap.size, 0, none⟩) vs.length vs := by
  refine ⟨rfl, .inr ⟨w.heap.size, 0, rfl, by simp, fun j hj => ?_⟩, hx⟩
  simp [go_sem, nums, List.getElem?_eq_getElem hj, List.getD_eq_getElem?_getD]
theorem rd_small (vs : List Int) (h : vs.all (fun x => decide (0 ≤ x ∧ x ≤ 255)) = true) (j : Nat) : 0 ≤ vs.getD j 0 ∧ vs.getD j 0 ≤ 255 := by
  by_cases hj : j < vs.length
  · have h1 := List.all_eq_true.1 h vs[j] (List.getElem_mem hj)
    simpa [List.getD_eq_getElem?_getD, List.getElem?_eq_getElem hj] using h1
  · simp [List.getD_eq_getElem?_getD, List.getElem?_eq_none (Nat.le_of_not_lt hj)]
theorem rd_nil (w : World) : Rd w none 0 [] := ⟨rfl, .inl rfl, fun j => by simp⟩

theorem made_one (z : Value) (n : Nat) : madeCells #[z] n = (List.replicate n z).toArray := by
  apply Array.ext
  · simp [madeCells]
  · intro i h1 h2
    simp [madeCells, Nat.mod_one]
theorem made_8 : madeCells #[Value.int .u8 0] 8 = #[.int .u8 0, .int .u8 0, .int .u8 0, .int .u8 0, .int .u8 0, .int .u8 0, .int .u8 0, .int .u8 0] := made_one _ 8
set_option maxHeartbeats 8000000 in
theorem awake_any (w : World) : Calls Try.prog 9 #[] w fun e w' => e = .returned (.bool true) ∧ Below w.heap.size w w' := by
  have hb1 := run_bits
  have hb2 := run_from
  have hinfo := Try.info5
  have hD := Lib.hid (rd_block w [0, 0, 0, 0, 0, 0, 0, 0] (rd_small _ (by decide)))
  simp only [nums, List.map] at hD
  have hB0 : Below w.heap.size w (w.alloc (Obj.cells #[.int .u8 0, .int .u8 0, .int .u8 0, .int .u8 0, .int .u8 0, .int .u8 0, .int .u8 0, .int .u8 0] 5)) := (Below.refl _ _).alloc (Nat.le_refl _) _
  have hmk : (Instr.makeSlice 22 (.int .i64 8) (.int .i64 8)).run Try.prog w = .ok (.slice (some ⟨w.heap.size, 0, none⟩) 8 8) (w.alloc (Obj.cells #[.int .u8 0, .int .u8 0, .int .u8 0, .int .u8 0, .int .u8 0, .int .u8 0, .int .u8 0, .int .u8 0] 5)) := by
    rw [← made_8]
    exact run_make_row' 22 5 (.int .u8 0) 1 Try.underlying22 Try.info5 rfl .i64 .i64 8 (by decide) (by decide) w
  go_enter Try.func9, Try.ntmps9
  go_wp2_with fail
  refine (copysign_01 _).mono ?_
  rintro e' w' ⟨rfl, rfl⟩
  go_wp2_with fail
  refine (set_rd 16 (by simp [Wd]) 1 (some ⟨w.heap.size, 0, none⟩) 8 8 [0, 0, 0, 0, 0, 0, 0, 0] 5 4 (by decide) (by decide) (by decide) (by decide) _ hD.out (fun h => by cases h) [0, 0, 1, 0, 0, 0, 0, 0] (by decide)).mono ?_
  rintro e' w1 ⟨⟨Aa, ca, rfl, Ra, Na⟩, hb3⟩
  have B1 := hB0.trans ((hb3).mono hB0.size)
  have Rd1 := Lib.hid ((hD.out).below (hb3))
  go_wp2_with fail
  refine (set_rd 1 (by simp [Wd]) 9 (some ⟨w.heap.size, 0, none⟩) 8 8 [0, 0, 0, 0, 0, 0, 0, 0] 0 1 (by decide) (by decide) (by decide) (by decide) _ Rd1.out (fun h => by cases h) [0, 2, 0, 0, 0, 0, 0, 0] (by decide)).mono ?_
  rintro e' w2 ⟨⟨Ab, cb, rfl, Rb, Nb⟩, hb4⟩
  have B2 := B1.trans ((hb4).mono B1.size)
  have Rd2 := Lib.hid ((Rd1.out).below (hb4))
  have Ra2 := Lib.hid ((Ra.out).below (hb4))
  go_wp2_with fail
  refine (set_absent 64 (by simp [Wd]) 1 (some ⟨w.heap.size, 0, none⟩) 8 8 0 1 (by decide) (by decide) _).mono ?_
  rintro e' w' ⟨rfl, rfl⟩
  go_wp2_with fail
  refine (setfloat_rd 0 (some ⟨w.heap.size, 0, none⟩) 8 8 [0, 0, 0, 0, 0, 0, 0, 0] 4607182418800017408 4607182418800017408 (by decide) (by decide) (by decide) (by decide) _ Rd2.out (fun h => by cases h) [0, 0, 0, 0, 0, 0, 0, 0] (by decide)).mono ?_
  rintro e' w3 ⟨⟨Ac, cc, rfl, Rc, Nc⟩, hb5⟩
  have B3 := B2.trans ((hb5).mono B2.size)
  have Rd3 := Lib.hid ((Rd2.out).below (hb5))
  have Ra3 := Lib.hid ((Ra2.out).below (hb5))
  have Rb3 := Lib.hid ((Rb.out).below (hb5))
  go_wp2_with fail
  refine (setfloat_rd 0 (some ⟨w.heap.size, 0, none⟩) 8 8 [0, 0, 0, 0, 0, 0, 0, 0] 4612811918334230528 9221120237041090851 (by decide) (by decide) (by decide) (by decide) _ Rd3.out (fun h => by cases h) _ rfl).mono ?_
  rintro e' w4 ⟨⟨Ae, ce, rfl, Re, Ne⟩, hb6⟩
  have B4 := B3.trans ((hb6).mono B3.size)
  have Rd4 := Lib.hid ((Rd3.out).below (hb6))
  have Ra4 := Lib.hid ((Ra3.out).below (hb6))
  have Rb4 := Lib.hid ((Rb3.out).below (hb6))
  have Rc4 := Lib.hid ((Rc.out).below (hb6))
  go_wp2_with fail
  refine (float_any 0 (some ⟨w.heap.size, 0, none⟩) 8 8 [0, 0, 0, 0, 0, 0, 0, 0] 9223372036854775808 (by decide) (by decide) _ Rd4.out 9223372036854775808 (by decide)).mono ?_
  rintro e' w5 ⟨rfl, hb7⟩
  have B5 := B4.trans ((hb7).mono B4.size)
  have Rd5 := Lib.hid ((Rd4.out).below (hb7))
  have Ra5 := Lib.hid ((Ra4.out).below (hb7))
  have Rb5 := Lib.hid ((Rb4.out).below (hb7))
  have Rc5 := Lib.hid ((Rc4.out).below (hb7))
  have Re5 := Lib.hid ((Re.out).below (hb7))
  go_wp2_with fail
  refine (samebits_is 9223372036854775808 9223372036854775808 true (by decide) _).mono ?_
  rintro e' w' ⟨rfl, rfl⟩
  go_wp2_with fail
  refine (samebits_is 9223372036854775808 0 false (by decide) _).mono ?_
  rintro e' w' ⟨rfl, rfl⟩
  go_wp2_with fail
  refine (samebits_is 9221120237041090851 9221120237041090851 true (by decide) _).mono ?_
  rintro e' w' ⟨rfl, rfl⟩
  go_wp2_with fail
  refine (same_is _ _ 8 8 ca 8 _ _ _ (by decide) ((Ra5.out).below ((Below.refl _ _).alloc (Nat.le_refl _) _)) (rd_block _ [0, 0, 1, 0, 0, 0, 0, 0] (rd_small _ (by decide))) true (by decide)).mono ?_
  rintro e' w6 ⟨rfl, hb8⟩
  have hc6 := ((Below.refl _ _).alloc (Nat.le_refl _) _).trans (hb8.mono (by simp))
  have B6 := B5.trans ((hc6).mono B5.size)
  have Rd6 := Lib.hid ((Rd5.out).below (hc6))
  have Ra6 := Lib.hid ((Ra5.out).below (hc6))
  have Rb6 := Lib.hid ((Rb5.out).below (hc6))
  have Rc6 := Lib.hid ((Rc5.out).below (hc6))
  have Re6 := Lib.hid ((Re5.out).below (hc6))
  go_wp2_with fail
  refine (uint_is 16 (by simp [Wd]) 1 Aa 8 ca _ 5 (by decide) (by decide) _ Ra6.out 4 (by decide)).mono ?_
  rintro e' w7 ⟨rfl, hb9⟩
  have B7 := B6.trans ((hb9).mono B6.size)
  have Rd7 := Lib.hid ((Rd6.out).below (hb9))
  have Ra7 := Lib.hid ((Ra6.out).below (hb9))
  have Rb7 := Lib.hid ((Rb6.out).below (hb9))
  have Rc7 := Lib.hid ((Rc6.out).below (hb9))
  have Re7 := Lib.hid ((Re6.out).below (hb9))
  go_wp2_with fail
  refine (same_is _ _ 8 8 cb 8 _ _ _ (by decide) ((Rb7.out).below ((Below.refl _ _).alloc (Nat.le_refl _) _)) (rd_block _ [0, 2, 0, 0, 0, 0, 0, 0] (rd_small _ (by decide))) true (by decide)).mono ?_
  rintro e' w8 ⟨rfl, hb10⟩
  have hc8 := ((Below.refl _ _).alloc (Nat.le_refl _) _).trans (hb10.mono (by simp))
  have B8 := B7.trans ((hc8).mono B7.size)
  have Rd8 := Lib.hid ((Rd7.out).below (hc8))
  have Ra8 := Lib.hid ((Ra7.out).below (hc8))
  have Rb8 := Lib.hid ((Rb7.out).below (hc8))
  have Rc8 := Lib.hid ((Rc7.out).below (hc8))
  have Re8 := Lib.hid ((Re7.out).below (hc8))
  go_wp2_with fail
  refine (same_is _ _ 8 8 cc 8 _ _ _ (by decide) (Rc8.out) (Rd8.out) true (by decide)).mono ?_
  rintro e' w9 ⟨rfl, hb11⟩
  have B9 := B8.trans ((hb11).mono B8.size)
  have Rd9 := Lib.hid ((Rd8.out).below (hb11))
  have Ra9 := Lib.hid ((Ra8.out).below (hb11))
  have Rb9 := Lib.hid ((Rb8.out).below (hb11))
  have Rc9 := Lib.hid ((Rc8.out).below (hb11))
  have Re9 := Lib.hid ((Re8.out).below (hb11))
  go_wp2_with fail
  refine (float_any 0 Ae 8 ce _ 4612811918334230528 (by decide) (by decide) _ Re9.out 9221120237041090851 (by decide)).mono ?_
  rintro e' w10 ⟨rfl, hb12⟩
  have B10 := B9.trans ((hb12).mono B9.size)
  have Rd10 := Lib.hid ((Rd9.out).below (hb12))
  have Ra10 := Lib.hid ((Ra9.out).below (hb12))
  have Rb10 := Lib.hid ((Rb9.out).below (hb12))
  have Rc10 := Lib.hid ((Rc9.out).below (hb12))
  have Re10 := Lib.hid ((Re9.out).below (hb12))
  go_wp2_with fail
  refine (samebits_is 9221120237041090851 9221120237041090851 true (by decide) _).mono ?_
  rintro e' w' ⟨rfl, rfl⟩
  go_wp2_with fail
  refine (uint_is 8 (by simp [Wd]) 0 none 0 0 [] 511 (by decide) (by decide) _ (rd_nil _) 255 (by decide)).mono ?_
  rintro e' w11 ⟨rfl, hb13⟩
  have B11 := B10.trans ((hb13).mono B10.size)
  have Rd11 := Lib.hid ((Rd10.out).below (hb13))
  have Ra11 := Lib.hid ((Ra10.out).below (hb13))
  have Rb11 := Lib.hid ((Rb10.out).below (hb13))
  have Rc11 := Lib.hid ((Rc10.out).below (hb13))
  have Re11 := Lib.hid ((Re10.out).below (hb13))
  go_wp2_with fail
  refine (uint_is 32 (by simp [Wd]) (-1) (some ⟨w.heap.size, 0, none⟩) 8 8 [0, 0, 0, 0, 0, 0, 0, 0] 7 (by decide) (by decide) _ Rd11.out 7 (by decide)).mono ?_
  rintro e' w12 ⟨rfl, hb14⟩
  have B12 := B11.trans ((hb14).mono B11.size)
  have Rd12 := Lib.hid ((Rd11.out).below (hb14))
  have Ra12 := Lib.hid ((Ra11.out).below (hb14))
  have Rb12 := Lib.hid ((Rb11.out).below (hb14))
  have Rc12 := Lib.hid ((Rc11.out).below (hb14))
  have Re12 := Lib.hid ((Re11.out).below (hb14))
  go_wp2
  go_ret
  exact ⟨rfl, B12⟩
end Go.Proofs.Ytdnhbjcfhljcnaa
