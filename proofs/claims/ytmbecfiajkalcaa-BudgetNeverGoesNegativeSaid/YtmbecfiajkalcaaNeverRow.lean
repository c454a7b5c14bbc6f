/- The successful charges of any list of costs add up to at most the budget: the law returns true. No condition. -/
import Derived.Test.YtmbecfiajkalcaaRows
import Derived.Test.YtmbecfiajkalcaaBud7
import Derived.WalkKit
import Derived.ProofKit
import Derived.OpenShut
import Derived.ShutString
import Derived.ChangeOld
import Derived.Below
import Derived.SizedLaws
import Derived.Lib.SmallJoins
namespace Go.Proofs.Ytmbecfiajkalcaa.budgetNeverGoesNegative
open Go.ChangeShapes Go.WideShapes Go.ChangeAt Go.RowKit Go.Joins
set_option linter.unusedVariables false
set_option linter.unusedSimpArgs false
theorem own : ownKnob Try.prog.godebug = none := by kernel_rfl
theorem laidOut : laidOutB Try.prog = true := by kernel_rfl
set_option maxRecDepth 100000 in
theorem lifted (os : Os) (started : os.Started) (H : Type) (enc : TypeId × Value → H) :
    ReturnsInHanded {} Try.checked os 4 .any (Rows.budgetNeverGoesNegativeSpec.pre6 enc Try.prog Try.f4 Rows.budgetNeverGoesNegativeRow.domain false) (Rows.budgetNeverGoesNegativeSpec.post enc Try.prog Try.f4 false true false false) := by
  refine returnsInHanded_of_change_sized (C := Try.checked) own started (by kernel_rfl) Try.func4
    (ChangeSpec.witness6 (enc := enc) (C := Try.checked) false ⟨#[], #[.agg #[.int .i64 0, .int .i64 0, .int .i64 0], .slice none 0 0], []⟩ 8 (by kernel_rfl) (by kernel_rfl) (by kernel_rfl) (by kernel_rfl)) ?_
  intro W base args ds gs before hval0 hW hcnd hsz0 _
  have hsz : (DataW.weightsEach Try.prog (Try.f4.params.toList ++ Rows.budgetNeverGoesNegativeSpec.plain.varTypes Try.prog) (ds ++ gs)).all (· ≤ reachBytes) = true := hsz0
  have hval : ∀ (j : Nat) t v, Try.f4.params[j]? = some t → args[j]? = some v → Value.okWide Try.prog W .any base t v := hval0
  have hW' := hW
  obtain ⟨p, q, hA0, hV, rfl, hfz, hnd⟩ := hW
  have hA : DataW.TrodAll enc Try.prog W 0 (fun _ => true) true Try.f4.params.toList args.toList ds p := hA0
  rw [Try.params4] at hA hval hsz
  obtain ⟨v0, vs0, d0, ds0, p0, q0, hargs, rfl, rfl, h0, r0⟩ := trodAll_cons hA
  obtain ⟨v1, vs1, d1, ds1, p1, q1, rfl, rfl, rfl, h1, r1⟩ := trodAll_cons r0
  obtain ⟨rfl, rfl, rfl⟩ := trodAll_nil r1
  obtain rfl : args = #[v0, v1] := by cases args; simp_all
  obtain ⟨rfl, rfl⟩ := trodVars_none hV
  have k0 := h0
  have lt0 : ∀ x ∈ p0, x.block < W.heap.size := by obtain ⟨m, hm⟩ := k0; exact DataW.trod_lt m _ _ _ hm
  obtain ⟨a0_0, a0_1, a0_2, rfl, w0_0, w0_1, w0_2⟩ : ∃ x0 x1 x2 : Int, v0 = .agg #[.int .i64 x0, .int .i64 x1, .int .i64 x2] ∧ (Lit.int .i64 x0).wf = true ∧ (Lit.int .i64 x1).wf = true ∧ (Lit.int .i64 x2).wf = true := by
    obtain ⟨c0, c1, c2, y0, y1, y2, m, rfl, _, _, e0, e1, e2⟩ := open_agg3 Try.underlying23 (by kernel_rfl) (by kernel_rfl) (hval 0 23 v0 rfl rfl) h0
    obtain ⟨x0, g0, _, z0⟩ := DataW.trod_int Try.underlying3 e0
    simp at g0
    subst g0
    obtain ⟨x1, g1, _, z1⟩ := DataW.trod_int Try.underlying3 e1
    simp at g1
    subst g1
    obtain ⟨x2, g2, _, z2⟩ := DataW.trod_int Try.underlying3 e2
    simp at g2
    subst g2
    exact ⟨x0, x1, x2, rfl, z0, z1, z2⟩
  have k1 := h1
  have lt1 : ∀ x ∈ p1, x.block < W.heap.size := by obtain ⟨m, hm⟩ := k1; exact DataW.trod_lt m _ _ _ hm
  obtain ⟨a1, len1, cap1, rfl⟩ := okWide_slice Try.underlying38 (hval 1 38 v1 rfl rfl)
  obtain ⟨z1, s1, f1⟩ : ∃ zs : List Int, (len1 = 0 ∨ ∃ b off, a1 = some ⟨b, off, none⟩ ∧ b < W.heap.size ∧ ∀ j, j < len1 → W.cell? ⟨b, off + j, none⟩ = some (.int .u16 (zs.getD j 0))) ∧ ∀ n ∈ zs, (Lit.int .u16 n).wf = true := by
    obtain ⟨fuel, hf⟩ := h1
    rcases open_ints Try.underlying38 Try.underlying39 (by kernel_rfl) hf with ⟨hcs, _⟩ | ⟨x, l, c, zs, hcs, _, hl, hm, hz, _, hcell, hwz⟩
    · simp [Value.cells] at hcs
      obtain ⟨rfl, rfl, rfl⟩ := hcs
      exact ⟨[], .inl rfl, by simp⟩
    · simp [Value.cells] at hcs
      obtain ⟨rfl, rfl, rfl⟩ := hcs
      refine ⟨zs, ?_, hwz⟩
      by_cases h0 : len1 = 0
      · exact .inl h0
      · refine .inr ?_
        have hz' : zs.length = cap1 := by simpa using hz
        obtain ⟨b, off, rfl, hc⟩ := ints_at hcell (by omega)
        refine ⟨b, off, rfl, ?_, fun j hj => hc j (by omega)⟩
        exact World.block_lt_of_cell? W _ (hc 0 (by omega))
  clear hA0 hval0 hsz0 hsz
  refine (never_walk a0_0 a0_1 a0_2 a1 len1 cap1 z1 W s1 (fun j => by have := range_u16 f1 j; simpa using this)).mono fun e W' ⟨he, bel⟩ => ?_
  subst he
  exact ⟨_, rfl, _, _, _, [], _, [], hW', trodAll_mk1 (shut_bool Try.underlying4 _), (trodAll_cons_mk (Below.trod laidOut (by kernel_rfl) (of_decide_eq_true (by kernel_rfl)) k0 bel lt0) (trodAll_cons_mk (Below.trod laidOut (by kernel_rfl) (of_decide_eq_true (by kernel_rfl)) k1 bel lt1) trodAll_mk0)), rfl, bel.frame _, fun h => by cases h⟩
theorem over : Rows.budgetNeverGoesNegativeRow.holds Try.pinned (OpenSpec.ofChange Rows.budgetNeverGoesNegativeSpec) :=
  OpenClaim.holds_of_wide 4 Try.f4 rfl rfl rfl rfl rfl rfl rfl ⟨rfl, rfl, rfl, rfl, rfl⟩ rfl rfl rfl rfl rfl (by kernel_rfl) Try.func4 (by kernel_rfl)
    (of_decide_eq_true (by kernel_rfl)) (by unfold Func.isWrapper; first | (rw [if_pos (by decide +kernel)]; kernel_rfl) | (rw [if_neg (by decide +kernel)]; exact ⟨rfl, rfl⟩))
    (fun os started H enc _ => lifted os started H enc)
theorem proved : Rows.BudgetNeverGoesNegativeSaid := over
#print axioms proved
end Go.Proofs.Ytmbecfiajkalcaa.budgetNeverGoesNegative
namespace Go.Proofs.Ytmbecfiajkalcaa
/-- The row, under a short name, for the claim. -/
theorem budgetNeverGoesNegative_holds : Rows.BudgetNeverGoesNegativeSaid := budgetNeverGoesNegative.proved
end Go.Proofs.Ytmbecfiajkalcaa
