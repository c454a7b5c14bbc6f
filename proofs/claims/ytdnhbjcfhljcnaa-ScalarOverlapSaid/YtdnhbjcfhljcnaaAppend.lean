/- Appends that stand under a guard or read a slice that may be nil; the forms of a slice of the call's own. No condition. -/
import Derived.Test.YtdnhbjcfhljcnaaBytes
import Derived.RangeFuncBox
set_option linter.unusedVariables false
set_option linter.unusedSimpArgs false
namespace Go.Proofs.Ytdnhbjcfhljcnaa
open Go.RowKit

/-- An append onto a slice of the call's own, at an operation that its guard lets by. -/
theorem wpList_append_own_w {P : Program} {w : World} {ops : Array Oper} {rest : List Oper} {o : Oper} {a : Act} {Q : Exit → Act → World → Prop} (hgd : Region.wanted o (yielded ops a.tmps) = true) (s x : Operand) (t : TypeId)
    (ho : o.op = .call { callee := .builtin .append, args := #[s, x], argTypes := #[t, t] })
    (base : Nat) (e : TypeId) (i : TypeInfo) (z : Value) (size bytes : Nat) (ht : P.underlying t = some (.slice e)) (hi : P.info? e = some i) (hz : i.zero = some z)
    (hsize : i.size = size) (hby : i.bytes = bytes) (hzs : z.cells.size = size) (hsz : 0 < size)
    (v : Value) (n : Nat) (xs : List Value) (hs : a.eval s = v) (hown : w.ownsRow base e size v n xs)
    (ad : Addr) (m c : Nat) (news : List Value) (hx : a.eval x = .slice (some ad) m c) (hl : news.length = m * size) (hnews : ∀ j u, news[j]? = some u → w.cell? (ad.add j) = some u) (h1 : ∀ u ∈ news, u.oneCell' = true)
    (h63 : n + m ≤ maxLen) (hbytes : (n + m) * bytes ≤ 140737488355328) (hbase : base ≤ w.heap.size)
    (h : ∀ v' w', w'.ownsRow base e size v' (n + m) (xs ++ news) → w.grownBy w' v.ownBlock → (v' = .slice none 0 0 ↔ v = .slice none 0 0 ∧ m = 0) → (v'.ownBlock = v.ownBlock ∨ v'.ownBlock = some w.heap.size) → wpList P ops Q rest (a.put o.dst v') w') :
    wpList P ops Q (o :: rest) a w := by
  refine wpList_step fun K hK => ?_
  rw [if_pos hgd]
  obtain ⟨v', w', hr, h2, h3, h4, h5⟩ := run_append_own_at (P := P) w base t o.type e i z size bytes ht hi hz hsize hby hzs hsz v n xs hown ad m c news hl hnews h1 h63 hbytes hbase
  unfold Oper.wp execOp
  simp only [ho, resolve, invoke, builtin, Sem.run_bind, Sem.run_pure, Result.andThen_ok, List.map_toArray, List.map_cons, List.map_nil, hs, hx, hr]
  exact hK _ _ (h v' w' h2 h3 h4 h5)

/-- An append of a slice that is read, nil too, onto a slice of the call's own. -/
theorem wpList_append_rd {P : Program} {w : World} {ops : Array Oper} {rest : List Oper} {o : Oper} {a : Act} {Q : Exit → Act → World → Prop} (hgd : Region.wanted o (yielded ops a.tmps) = true) (s x : Operand) (t : TypeId)
    (ho : o.op = .call { callee := .builtin .append, args := #[s, x], argTypes := #[t, t] })
    (base : Nat) (e : TypeId) (ht : P.underlying t = some (.slice e)) (hinfo : (P.info? e).map (fun i => (i.zero, i.size, i.bytes)) = some (some (.int .u8 0), 1, 1))
    (v : Value) (n : Nat) (xs : List Int) (hs : a.eval s = v) (hown : w.ownsRow base e 1 v n (nums .u8 xs))
    (A : Option Addr) (m c : Nat) (ys : List Int) (hx : a.eval x = .slice A m c) (hR : Rd w A m ys) (hA : A = none → m = 0 ∧ c = 0)
    (hbytes : n + m ≤ 140737488355328) (hbase : base ≤ w.heap.size)
    (h : ∀ v' w', w'.ownsRow base e 1 v' (n + m) (nums .u8 (xs ++ ys)) → w.grownBy w' v.ownBlock → (v ≠ .slice none 0 0 → v' ≠ .slice none 0 0) → wpList P ops Q rest (a.put o.dst v') w') :
    wpList P ops Q (o :: rest) a w := by
  obtain ⟨i, hi, hz0, hz1, hz2⟩ := info_parts hinfo
  obtain ⟨hl, hr, _⟩ := hR
  cases A with
  | some ad =>
    refine wpList_append_own_w hgd s x t ho base e i (.int .u8 0) 1 1 ht hi hz0 hz1 hz2 rfl (by decide) v n (nums .u8 xs) hs hown ad m c (nums .u8 ys) hx (by simp [nums, hl]) ?_ (nums_oneCell _ _) (by simp only [maxLen]; omega) (by omega) hbase ?_
    · rcases hr with rfl | ⟨b, off, e1, _, hc⟩
      · obtain rfl := List.eq_nil_of_length_eq_zero hl
        intro j u hj
        simp [nums] at hj
      · obtain rfl := Option.some.inj e1
        exact Rd.news hl hc
    · intro v' w' h1 h2 h3 _
      exact h v' w' (by rw [nums_append]; exact h1) h2 (fun hv hv' => hv (h3.1 hv').1)
  | none =>
    obtain ⟨rfl, rfl⟩ := hA rfl
    obtain rfl := List.eq_nil_of_length_eq_zero hl
    refine wpList_step fun K hK => ?_
    rw [if_pos hgd]
    have hrun := run_append_owned_none (P := P) w base t o.type e i 1 ht hi _ n (nums .u8 xs) hown
    unfold Oper.wp execOp
    simp only [ho, resolve, invoke, builtin, Sem.run_bind, Sem.run_pure, Result.andThen_ok, List.map_toArray, List.map_cons, List.map_nil, hs, hx, hrun]
    exact hK _ _ (h v w (by simpa using hown) (World.grownBy.refl _ _) (fun hv => hv))
theorem own_form {w : World} {base n : Nat} {e : TypeId} {size : Nat} {v : Value} {xs : List Value} (h : w.ownsRow base e size v n xs) (hv : v ≠ .slice none 0 0) : ∃ g c, v = .slice (some ⟨g, 0, none⟩) n c ∧ n ≤ c ∧ base ≤ g := by
  rcases h.2 with ⟨rfl, _⟩ | ⟨g, cap, cur, rfl, hb, _, hc, _⟩
  · exact absurd rfl hv
  · exact ⟨g, cap, rfl, hc, hb⟩
theorem own_any {w : World} {base n : Nat} {e : TypeId} {size : Nat} {v : Value} {xs : List Value} (h : w.ownsRow base e size v n xs) : ∃ A c, v = .slice A n c ∧ n ≤ c ∧ (A = none → n = 0) := by
  rcases h.2 with ⟨rfl, rfl⟩ | ⟨g, cap, cur, rfl, hb, _, hc, _⟩
  · exact ⟨none, 0, rfl, Nat.le_refl _, fun _ => rfl⟩
  · exact ⟨_, cap, rfl, hc, fun h => by cases h⟩
theorem range_append {xs : List Int} {x : Int} (h : ∀ j, 0 ≤ xs.getD j 0 ∧ xs.getD j 0 ≤ 255) (h0 : 0 ≤ x) (h1 : x ≤ 255) (j : Nat) : 0 ≤ (xs ++ [x]).getD j 0 ∧ (xs ++ [x]).getD j 0 ≤ 255 := by
  rw [List.getD_eq_getElem?_getD, List.getElem?_append]
  split
  · rw [← List.getD_eq_getElem?_getD]; exact h j
  · match hj : j - xs.length with
    | 0 => simp; omega
    | q + 1 => simp

end Go.Proofs.Ytdnhbjcfhljcnaa
