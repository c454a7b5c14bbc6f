/- ListsizeTrims' walk, in its domain. Conditions: each number is of its kind; the slice lies in memory as the form reads it; the table lies as the program's text lays it. -/
import Derived.Test.YtmbecfiajkalcaaDoorLs12
set_option linter.unusedVariables false
set_option linter.unusedSimpArgs false
namespace Go.Proofs.YtmbecfiajkalcaaDoor
open Go.RowKit

/-- An append of a slice that is read, nil too, onto a slice of the call's own. -/
theorem wpList_append_rd {P : Program} {w : World} {ops : Array Oper} {rest : List Oper} {o : Oper} {a : Act} {Q : Exit → Act → World → Prop} (hgd : Region.wanted o (yielded ops a.tmps) = true) (s x : Operand) (t : TypeId)
    (ho : o.op = .call { callee := .builtin .append, args := #[s, x], argTypes := #[t, t] })
    (base : Nat) (e : TypeId) (ht : P.underlying t = some (.slice e)) (hinfo : (P.info? e).map (fun i => (i.zero, i.size, i.bytes)) = some (some (.int .u8 0), 1, 1))
    (v : Value) (n : Nat) (xs : List Int) (hs : a.eval s = v) (hown : w.ownsRow base e 1 v n (nums .u8 xs))
    (A : Option Addr) (m c : Nat) (ys : List Int) (hx : a.eval x = .slice A m c) (hR : Rd w A m ys) (hA : A = none → m = 0 ∧ c = 0)
    (hbytes : n + m ≤ 140737488355328) (hbase : base ≤ w.heap.size)
    (h : ∀ v' w', w'.ownsRow base e 1 v' (n + m) (nums .u8 (xs ++ ys)) → w.grownBy w' v.ownBlock → (v ≠ .slice none 0 0 → v' ≠ .slice none 0 0) → wpList P ops Q rest (a.put o.dst v') w') :
    wpList P ops Q (o :: rest) a w := by
  obtain ⟨i, hi, hz0, hz1, hz2⟩ := info_parts hinfo
  obtain ⟨hl, hr, _⟩ := hR
  cases A with
  | some ad =>
    refine wpList_append_own_w hgd s x t ho base e i (.int .u8 0) 1 1 ht hi hz0 hz1 hz2 rfl (by decide) v n (nums .u8 xs) hs hown ad m c (nums .u8 ys) hx (by simp [nums, hl]) ?_ (nums_oneCell _ _) (by simp only [maxLen]; omega) (by omega) hbase ?_
    · rcases hr with rfl | ⟨b, off, e1, _, hc⟩
      · obtain rfl := List.eq_nil_of_length_eq_zero hl
        intro j u hj
        simp [nums] at hj
      · obtain rfl := Option.some.inj e1
        exact Rd.news hl hc
    · intro v' w' h1 h2 h3 _
      exact h v' w' (by rw [nums_append]; exact h1) h2 (fun hv hv' => hv (h3.1 hv').1)
  | none =>
    obtain ⟨rfl, rfl⟩ := hA rfl
    obtain rfl := List.eq_nil_of_length_eq_zero hl
    refine wpList_step fun K hK => ?_
    rw [if_pos hgd]
    have hrun := run_append_owned_none (P := P) w base t o.type e i 1 ht hi _ n (nums .u8 xs) hown
    unfold Oper.wp execOp
    simp only [ho, resolve, invoke, builtin, Sem.run_bind, Sem.run_pure, Result.andThen_ok, List.map_toArray, List.map_cons, List.map_nil, hs, hx, hrun]
    exact hK _ _ (h v w (by simpa using hown) (World.grownBy.refl _ _) (fun hv => hv))
end Go.Proofs.YtmbecfiajkalcaaDoor
