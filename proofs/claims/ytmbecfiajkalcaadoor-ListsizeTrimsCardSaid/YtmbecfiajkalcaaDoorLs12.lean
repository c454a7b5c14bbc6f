/- ListsizeTrims' walk, where the arguments lie outside its domain; plain laws of trimming; appends that stand under a guard. Conditions: each number is of its kind; the table lies as the program's text lays it. -/
import Derived.Test.YtmbecfiajkalcaaDoorLs11
set_option linter.unusedVariables false
set_option linter.unusedSimpArgs false
namespace Go.Proofs.YtmbecfiajkalcaaDoor
open Go.RowKit

/-- An append onto a slice of the call's own, at an operation that its guard lets by. -/
theorem wpList_append_own_w {P : Program} {w : World} {ops : Array Oper} {rest : List Oper} {o : Oper} {a : Act} {Q : Exit → Act → World → Prop} (hgd : Region.wanted o (yielded ops a.tmps) = true) (s x : Operand) (t : TypeId)
    (ho : o.op = .call { callee := .builtin .append, args := #[s, x], argTypes := #[t, t] })
    (base : Nat) (e : TypeId) (i : TypeInfo) (z : Value) (size bytes : Nat) (ht : P.underlying t = some (.slice e)) (hi : P.info? e = some i) (hz : i.zero = some z)
    (hsize : i.size = size) (hby : i.bytes = bytes) (hzs : z.cells.size = size) (hsz : 0 < size)
    (v : Value) (n : Nat) (xs : List Value) (hs : a.eval s = v) (hown : w.ownsRow base e size v n xs)
    (ad : Addr) (m c : Nat) (news : List Value) (hx : a.eval x = .slice (some ad) m c) (hl : news.length = m * size) (hnews : ∀ j u, news[j]? = some u → w.cell? (ad.add j) = some u) (h1 : ∀ u ∈ news, u.oneCell' = true)
    (h63 : n + m ≤ maxLen) (hbytes : (n + m) * bytes ≤ 140737488355328) (hbase : base ≤ w.heap.size)
    (h : ∀ v' w', w'.ownsRow base e size v' (n + m) (xs ++ news) → w.grownBy w' v.ownBlock → (v' = .slice none 0 0 ↔ v = .slice none 0 0 ∧ m = 0) → (v'.ownBlock = v.ownBlock ∨ v'.ownBlock = some w.heap.size) → wpList P ops Q rest (a.put o.dst v') w') :
    wpList P ops Q (o :: rest) a w := by
  refine wpList_step fun K hK => ?_
  rw [if_pos hgd]
  obtain ⟨v', w', hr, h2, h3, h4, h5⟩ := run_append_own_at (P := P) w base t o.type e i z size bytes ht hi hz hsize hby hzs hsz v n xs hown ad m c news hl hnews h1 h63 hbytes hbase
  unfold Oper.wp execOp
  simp only [ho, resolve, invoke, builtin, Sem.run_bind, Sem.run_pure, Result.andThen_ok, List.map_toArray, List.map_cons, List.map_nil, hs, hx, hr]
  exact hK _ _ (h v' w' h2 h3 h4 h5)

/-! ### Plain laws -/
theorem bytes_pos {e c : Int} (h : e = 1 ∧ 0 < c % 8) (hc : 0 ≤ c) : 0 < bytesOf e c := by
  obtain ⟨rfl, h⟩ := h
  simp [bytesOf, bitsOf]; omega
/-- Trimming looks at the first bytes alone. -/
theorem trimL_congr {e c : Int} (hc : 0 ≤ c) {xs ys : List Int} (h : xs.take (bytesOf e c).toNat = ys.take (bytesOf e c).toNat) : trimL e c xs = trimL e c ys := by
  unfold trimL
  split
  · rename_i hh
    have hp := bytes_pos hh hc
    have e1 : xs.getD ((bytesOf e c).toNat - 1) 0 = ys.getD ((bytesOf e c).toNat - 1) 0 := by
      have h2 := congrArg (fun l => l.getD ((bytesOf e c).toNat - 1) 0) h
      simp only [List.getD_eq_getElem?_getD, List.getElem?_take] at h2
      rw [if_pos (by omega), if_pos (by omega)] at h2
      simpa [List.getD_eq_getElem?_getD] using h2
    rw [h, e1]
  · exact h
theorem trimL_length {e c : Int} {xs : List Int} : (trimL e c xs).length = min (bytesOf e c).toNat xs.length := by
  unfold trimL
  split <;> simp
/-- What trimming keeps. -/
theorem trimL_at {e c : Int} {xs : List Int} {j : Nat} (hj : j < (bytesOf e c).toNat) (h : ¬ (e = 1 ∧ 0 < c % 8 ∧ j = (bytesOf e c).toNat - 1)) : (trimL e c xs).getD j 0 = xs.getD j 0 := by
  unfold trimL
  split
  · rename_i hh
    rw [List.getD_eq_getElem?_getD, List.getElem?_set, if_neg (fun e1 => h ⟨hh.1, hh.2, e1.symm⟩), List.getElem?_take, if_pos hj, ← List.getD_eq_getElem?_getD]
  · rw [List.getD_eq_getElem?_getD, List.getElem?_take, if_pos hj, ← List.getD_eq_getElem?_getD]
theorem trimL_last {e c : Int} {xs : List Int} (hh : e = 1 ∧ 0 < c % 8) (hc : 0 ≤ c) (hx : (bytesOf e c).toNat ≤ xs.length) : (trimL e c xs).getD ((bytesOf e c).toNat - 1) 0 = xs.getD ((bytesOf e c).toNat - 1) 0 % 2 ^ (c % 8).toNat := by
  have hp := bytes_pos hh hc
  unfold trimL
  rw [if_pos hh, List.getD_eq_getElem?_getD, List.getElem?_set, if_pos rfl, if_pos (by simp; omega)]
  rfl
theorem getD_ext {xs ys : List Int} (hl : xs.length = ys.length) (h : ∀ j, j < xs.length → xs.getD j 0 = ys.getD j 0) : xs = ys := by
  refine List.ext_getElem hl fun j h1 h2 => ?_
  rw [getD_of_lt h1, getD_of_lt h2]
  exact h j h1
theorem trimL_idem {e c : Int} (hc : 0 ≤ c) {xs : List Int} (hx : (bytesOf e c).toNat ≤ xs.length) : trimL e c (trimL e c xs) = trimL e c xs := by
  have hl : (trimL e c xs).length = (bytesOf e c).toNat := by rw [trimL_length]; omega
  refine getD_ext (by rw [trimL_length, hl]; omega) fun j hj => ?_
  have hj' : j < (bytesOf e c).toNat := by rw [trimL_length, hl] at hj; omega
  by_cases h : e = 1 ∧ 0 < c % 8 ∧ j = (bytesOf e c).toNat - 1
  · obtain ⟨h1, h2, rfl⟩ := h
    rw [trimL_last ⟨h1, h2⟩ hc (by omega), trimL_last ⟨h1, h2⟩ hc hx, Int.emod_emod_of_dvd _ (Int.dvd_refl _)]
  · rw [trimL_at hj' h]

theorem trims_out0 (e c : Int) (A : Option Addr) (n cap : Nat) (x : Int) (h0 : e < 0) (w : World) (ht : Tab w) :
    Calls Tryd.prog 6 #[.int .i64 e, .int .i64 c, .slice A n cap, .int .u8 x] w fun e' w' => e' = .returned (.bool true) ∧ Below w.heap.size w w' := by
  have HT := Lib.hid ht
  clear ht
  have t0 : decide (e < 0) = true := b2 (by omega)
  go_enter Tryd.func6, Tryd.ntmps6
  go_wp2_with fail
  refine (awake_any _ HT.out).mono ?_
  rintro e' w1 ⟨rfl, hb1⟩
  go_wp2_with fail
  refine (awake_any _ (HT.out.below hb1)).mono ?_
  rintro e' w2 ⟨rfl, hb2⟩
  go_wp2
  go_ret
  exact ⟨rfl, below_step hb1 hb1.size hb2⟩
theorem trims_out1 (e c : Int) (A : Option Addr) (n cap : Nat) (x : Int) (h0 : 0 ≤ e) (h1 : 5 < e) (w : World) (ht : Tab w) :
    Calls Tryd.prog 6 #[.int .i64 e, .int .i64 c, .slice A n cap, .int .u8 x] w fun e' w' => e' = .returned (.bool true) ∧ Below w.heap.size w w' := by
  have HT := Lib.hid ht
  clear ht
  have t0 : decide (e < 0) = false := b1 (by omega)
  have t1 : decide (5 < e) = true := b2 (by omega)
  go_enter Tryd.func6, Tryd.ntmps6
  go_wp2_with fail
  refine (awake_any _ HT.out).mono ?_
  rintro e' w1 ⟨rfl, hb1⟩
  go_wp2_with fail
  refine (awake_any _ (HT.out.below hb1)).mono ?_
  rintro e' w2 ⟨rfl, hb2⟩
  go_wp2
  go_ret
  exact ⟨rfl, below_step hb1 hb1.size hb2⟩
theorem trims_out2 (e c : Int) (A : Option Addr) (n cap : Nat) (x : Int) (h0 : 0 ≤ e) (h1 : e ≤ 5) (h2 : c < 0) (w : World) (ht : Tab w) :
    Calls Tryd.prog 6 #[.int .i64 e, .int .i64 c, .slice A n cap, .int .u8 x] w fun e' w' => e' = .returned (.bool true) ∧ Below w.heap.size w w' := by
  have HT := Lib.hid ht
  clear ht
  have t0 : decide (e < 0) = false := b1 (by omega)
  have t1 : decide (5 < e) = false := b1 (by omega)
  have t2 : decide (c < 0) = true := b2 (by omega)
  go_enter Tryd.func6, Tryd.ntmps6
  go_wp2_with fail
  refine (awake_any _ HT.out).mono ?_
  rintro e' w1 ⟨rfl, hb1⟩
  go_wp2_with fail
  refine (awake_any _ (HT.out.below hb1)).mono ?_
  rintro e' w2 ⟨rfl, hb2⟩
  go_wp2
  go_ret
  exact ⟨rfl, below_step hb1 hb1.size hb2⟩
theorem trims_out3 (e c : Int) (A : Option Addr) (n cap : Nat) (x : Int) (h0 : 0 ≤ e) (h1 : e ≤ 5) (h2 : 0 ≤ c) (h3 : 4000 < c) (w : World) (ht : Tab w) :
    Calls Tryd.prog 6 #[.int .i64 e, .int .i64 c, .slice A n cap, .int .u8 x] w fun e' w' => e' = .returned (.bool true) ∧ Below w.heap.size w w' := by
  have HT := Lib.hid ht
  clear ht
  have t0 : decide (e < 0) = false := b1 (by omega)
  have t1 : decide (5 < e) = false := b1 (by omega)
  have t2 : decide (c < 0) = false := b1 (by omega)
  have t3 : decide (4000 < c) = true := b2 (by omega)
  go_enter Tryd.func6, Tryd.ntmps6
  go_wp2_with fail
  refine (awake_any _ HT.out).mono ?_
  rintro e' w1 ⟨rfl, hb1⟩
  go_wp2_with fail
  refine (awake_any _ (HT.out.below hb1)).mono ?_
  rintro e' w2 ⟨rfl, hb2⟩
  go_wp2
  go_ret
  exact ⟨rfl, below_step hb1 hb1.size hb2⟩
theorem trims_out4 (e c : Int) (A : Option Addr) (n cap : Nat) (x : Int) (h0 : 0 ≤ e) (h1 : e ≤ 5) (h2 : 0 ≤ c) (h3 : c ≤ 4000) (h4 : 2000 < n) (w : World) (ht : Tab w) :
    Calls Tryd.prog 6 #[.int .i64 e, .int .i64 c, .slice A n cap, .int .u8 x] w fun e' w' => e' = .returned (.bool true) ∧ Below w.heap.size w w' := by
  have HT := Lib.hid ht
  clear ht
  have t0 : decide (e < 0) = false := b1 (by omega)
  have t1 : decide (5 < e) = false := b1 (by omega)
  have t2 : decide (c < 0) = false := b1 (by omega)
  have t3 : decide (4000 < c) = false := b1 (by omega)
  have t4 : decide (2000 < (n : Int)) = true := b2 (by omega)
  go_enter Tryd.func6, Tryd.ntmps6
  go_wp2_with fail
  refine (awake_any _ HT.out).mono ?_
  rintro e' w1 ⟨rfl, hb1⟩
  go_wp2_with fail
  refine (awake_any _ (HT.out.below hb1)).mono ?_
  rintro e' w2 ⟨rfl, hb2⟩
  go_wp2
  go_ret
  exact ⟨rfl, below_step hb1 hb1.size hb2⟩
theorem trims_out5 (e c : Int) (A : Option Addr) (n cap : Nat) (x : Int) (h0 : 0 ≤ e) (h1 : e ≤ 5) (h2 : 0 ≤ c) (h3 : c ≤ 4000) (h4 : n ≤ 2000) (k : Nat) (hB : Hid (bytesOf e c = (k : Int))) (hk : n < k) (w : World) (ht : Tab w) :
    Calls Tryd.prog 6 #[.int .i64 e, .int .i64 c, .slice A n cap, .int .u8 x] w fun e' w' => e' = .returned (.bool true) ∧ Below w.heap.size w w' := by
  have HT := Lib.hid ht
  clear ht
  have t0 : decide (e < 0) = false := b1 (by omega)
  have t1 : decide (5 < e) = false := b1 (by omega)
  have t2 : decide (c < 0) = false := b1 (by omega)
  have t3 : decide (4000 < c) = false := b1 (by omega)
  have t4 : decide (2000 < (n : Int)) = false := b1 (by omega)
  have t6 : decide ((n : Int) < (k : Int)) = true := b2 (by omega)
  go_enter Tryd.func6, Tryd.ntmps6
  go_wp2_with fail
  refine (awake_any _ HT.out).mono ?_
  rintro e' w1 ⟨rfl, hb1⟩
  go_wp2_with fail
  refine (rbytes_is e c k h0 (by omega) h2 (by omega) hB.out _).mono ?_
  rintro e' w' ⟨rfl, rfl⟩
  go_wp2_with fail
  refine (awake_any _ (HT.out.below hb1)).mono ?_
  rintro e' w2 ⟨rfl, hb2⟩
  go_wp2
  go_ret
  exact ⟨rfl, below_step hb1 hb1.size hb2⟩
end Go.Proofs.YtmbecfiajkalcaaDoor
