/-
  No cell of these rows narrows 'for every input' (looked for: loops, veiled, ifaces, maps, wideKeys, modest, calm, conditions, laid).
  DERIVED. THE GIVEN ROWS OF THIS SEAT. 4 by the template 'for every input the law returns true; each argument reads behind the call as it read before'; 0 by the template 'total and deterministic' (their statements: YtmbecfiajkalcaaTotals.lean).
  GIVEN WITH THE SEED: the statements are not yours to turn. If you find one false, say at which input.
  Laid BY PROGRAM, IN A SANDBOX (cutbox-rows.mjs): the forced cells as the released guide's own fill.sh prints them over the translation e853016a320b8048… (all of the seat's roots in one cut). By AI agents, Wed Nov 11 2026. No macro, syntax, notation, axiom, sorry.
-/
import Derived.Test.YtmbecfiajkalcaaChecked
import GoSem.Claim
import GoSem.ClaimJoined
import GoSem.ClaimMapViews
import Derived.JoinedTies
import Derived.KernelRfl
namespace Go.Proofs.Ytmbecfiajkalcaa
/- THE CELL 'sum', in the pinned program and in every row, IS THE sha256 OF THE DUMP (.gsa) THAT YtmbecfiajkalcaaProg.lean LOADS. Nothing in Lean hashes anything: it is a label: what it is worth is what the hold of that sum in a sandbox is worth. -/
noncomputable def Try.pinned : Pinned := { name := "ytmbecfiajkalcaa", sum := "e853016a320b8048ab8ef62df1edf23e94bdbcf3aaeef437c32c13acb8d658c4", checked := Try.checked }
namespace Rows
def none {H : Type} : Left H := { results := [], args := [] }

/-- 'capnplaw09.BudgetMatchesReference': WHATEVER THE INPUT: true; the input reads as it did. -/
def budgetMatchesReferenceSpec : ChangeSpec := { name := "budgetMatchesReference", fn := fun _ => fun
  | [d1, d2, d3, d4] => { results := [.lit (.bool true)], args := [d1, d2, d3, d4] }
  | _ => none }
def budgetMatchesReferenceRow : OpenClaim := { program := "ytmbecfiajkalcaa", sum := "e853016a320b8048ab8ef62df1edf23e94bdbcf3aaeef437c32c13acb8d658c4", func := "capnp/capnplaw09.BudgetMatchesReference", spec := "budgetMatchesReference", apart := false }
def BudgetMatchesReferenceSaid : Prop := budgetMatchesReferenceRow.holds Try.pinned (OpenSpec.ofChange budgetMatchesReferenceSpec)

/-- ITS FALSE NEIGHBOUR: 'it returns false'. Refute it at one input. -/
def budgetMatchesReferenceWrong : ChangeSpec := { name := "budgetMatchesReference", fn := fun _ => fun
  | [d1, d2, d3, d4] => { results := [.lit (.bool false)], args := [d1, d2, d3, d4] }
  | _ => none }
def BudgetMatchesReferenceWrongFalsely : Prop := budgetMatchesReferenceRow.holds Try.pinned (OpenSpec.ofChange budgetMatchesReferenceWrong)

/-- 'capnplaw09.BudgetNeverGoesNegative': WHATEVER THE INPUT: true; the input reads as it did. -/
def budgetNeverGoesNegativeSpec : ChangeSpec := { name := "budgetNeverGoesNegative", fn := fun _ => fun
  | [d1, d2] => { results := [.lit (.bool true)], args := [d1, d2] }
  | _ => none }
def budgetNeverGoesNegativeRow : OpenClaim := { program := "ytmbecfiajkalcaa", sum := "e853016a320b8048ab8ef62df1edf23e94bdbcf3aaeef437c32c13acb8d658c4", func := "capnp/capnplaw09.BudgetNeverGoesNegative", spec := "budgetNeverGoesNegative", apart := false }
def BudgetNeverGoesNegativeSaid : Prop := budgetNeverGoesNegativeRow.holds Try.pinned (OpenSpec.ofChange budgetNeverGoesNegativeSpec)

/-- ITS FALSE NEIGHBOUR: 'it returns false'. Refute it at one input. -/
def budgetNeverGoesNegativeWrong : ChangeSpec := { name := "budgetNeverGoesNegative", fn := fun _ => fun
  | [d1, d2] => { results := [.lit (.bool false)], args := [d1, d2] }
  | _ => none }
def BudgetNeverGoesNegativeWrongFalsely : Prop := budgetNeverGoesNegativeRow.holds Try.pinned (OpenSpec.ofChange budgetNeverGoesNegativeWrong)

/-- 'capnplaw09.BudgetOrder': WHATEVER THE INPUT: true; the input reads as it did. -/
def budgetOrderSpec : ChangeSpec := { name := "budgetOrder", fn := fun _ => fun
  | [d1, d2, d3, d4] => { results := [.lit (.bool true)], args := [d1, d2, d3, d4] }
  | _ => none }
def budgetOrderRow : OpenClaim := { program := "ytmbecfiajkalcaa", sum := "e853016a320b8048ab8ef62df1edf23e94bdbcf3aaeef437c32c13acb8d658c4", func := "capnp/capnplaw09.BudgetOrder", spec := "budgetOrder", apart := false }
def BudgetOrderSaid : Prop := budgetOrderRow.holds Try.pinned (OpenSpec.ofChange budgetOrderSpec)

/-- ITS FALSE NEIGHBOUR: 'it returns false'. Refute it at one input. -/
def budgetOrderWrong : ChangeSpec := { name := "budgetOrder", fn := fun _ => fun
  | [d1, d2, d3, d4] => { results := [.lit (.bool false)], args := [d1, d2, d3, d4] }
  | _ => none }
def BudgetOrderWrongFalsely : Prop := budgetOrderRow.holds Try.pinned (OpenSpec.ofChange budgetOrderWrong)

/-- 'capnplaw09.BudgetSplits': WHATEVER THE INPUT: true; the input reads as it did. -/
def budgetSplitsSpec : ChangeSpec := { name := "budgetSplits", fn := fun _ => fun
  | [d1, d2, d3] => { results := [.lit (.bool true)], args := [d1, d2, d3] }
  | _ => none }
def budgetSplitsRow : OpenClaim := { program := "ytmbecfiajkalcaa", sum := "e853016a320b8048ab8ef62df1edf23e94bdbcf3aaeef437c32c13acb8d658c4", func := "capnp/capnplaw09.BudgetSplits", spec := "budgetSplits", apart := false }
def BudgetSplitsSaid : Prop := budgetSplitsRow.holds Try.pinned (OpenSpec.ofChange budgetSplitsSpec)

/-- ITS FALSE NEIGHBOUR: 'it returns false'. Refute it at one input. -/
def budgetSplitsWrong : ChangeSpec := { name := "budgetSplits", fn := fun _ => fun
  | [d1, d2, d3] => { results := [.lit (.bool false)], args := [d1, d2, d3] }
  | _ => none }
def BudgetSplitsWrongFalsely : Prop := budgetSplitsRow.holds Try.pinned (OpenSpec.ofChange budgetSplitsWrong)

/- THE SECOND FORM. 'bulk': how many values and letters a reading holds, each counted each time it is reached (what is shared counts as often as it is met; a slice's spare places count too). A statement '..UptoSaid' is the law's where the arguments, and the package variables that the reading takes, are together of bulk at most 1048576: NARROWER than '..Said'. Prove '..Said' where nothing that the law and all that it calls make is longer than what came in: it says more and counts as full. Else prove '..UptoSaid'. A law counts once. -/
mutual
def uptoBulk {H : Type} : DataW H → Nat
  | .lit (.string bytes) => bytes.length + 1
  | .lit _ => 1
  | .nil => 1
  | .ptr d => uptoBulk d + 1
  | .slice elems spare => uptoBulkAll elems + uptoBulkAll spare + 1
  | .agg parts => uptoBulkAll parts + 1
  | .iface _ d => uptoBulk d + 1
  | .map entries => uptoBulkEntries entries + 1
  | .held _ => 1
def uptoBulkAll {H : Type} : List (DataW H) → Nat
  | [] => 0
  | d :: r => uptoBulk d + uptoBulkAll r
def uptoBulkEntries {H : Type} : List (Lit × DataW H) → Nat
  | [] => 0
  | x :: r => uptoBulkEntry x + uptoBulkEntries r
def uptoBulkEntry {H : Type} : Lit × DataW H → Nat
  | (.string bytes, d) => bytes.length + uptoBulk d + 1
  | (_, d) => uptoBulk d + 1
 end
def uptoSmall : (H : Type) → List (DataW H) → Bool := fun _ ds => decide (uptoBulkAll ds ≤ 1048576)
def OpenSpec.upto (s : _root_.Go.ChangeSpec) : _root_.Go.OpenSpec := { _root_.Go.OpenSpec.ofChange s with cond := some uptoSmall }

/-- 'capnplaw09.BudgetMatchesReference', WHERE WHAT IT READS IS OF BULK AT MOST 1048576: true; the input reads as it did. -/
def budgetMatchesReferenceUptoRow : OpenClaim := { program := "ytmbecfiajkalcaa", sum := "e853016a320b8048ab8ef62df1edf23e94bdbcf3aaeef437c32c13acb8d658c4", func := "capnp/capnplaw09.BudgetMatchesReference", spec := "budgetMatchesReference", apart := false, narrowed := true }
def BudgetMatchesReferenceUptoSaid : Prop := budgetMatchesReferenceUptoRow.holds Try.pinned (OpenSpec.upto budgetMatchesReferenceSpec)

/-- 'capnplaw09.BudgetNeverGoesNegative', WHERE WHAT IT READS IS OF BULK AT MOST 1048576: true; the input reads as it did. -/
def budgetNeverGoesNegativeUptoRow : OpenClaim := { program := "ytmbecfiajkalcaa", sum := "e853016a320b8048ab8ef62df1edf23e94bdbcf3aaeef437c32c13acb8d658c4", func := "capnp/capnplaw09.BudgetNeverGoesNegative", spec := "budgetNeverGoesNegative", apart := false, narrowed := true }
def BudgetNeverGoesNegativeUptoSaid : Prop := budgetNeverGoesNegativeUptoRow.holds Try.pinned (OpenSpec.upto budgetNeverGoesNegativeSpec)

/-- 'capnplaw09.BudgetOrder', WHERE WHAT IT READS IS OF BULK AT MOST 1048576: true; the input reads as it did. -/
def budgetOrderUptoRow : OpenClaim := { program := "ytmbecfiajkalcaa", sum := "e853016a320b8048ab8ef62df1edf23e94bdbcf3aaeef437c32c13acb8d658c4", func := "capnp/capnplaw09.BudgetOrder", spec := "budgetOrder", apart := false, narrowed := true }
def BudgetOrderUptoSaid : Prop := budgetOrderUptoRow.holds Try.pinned (OpenSpec.upto budgetOrderSpec)

/-- 'capnplaw09.BudgetSplits', WHERE WHAT IT READS IS OF BULK AT MOST 1048576: true; the input reads as it did. -/
def budgetSplitsUptoRow : OpenClaim := { program := "ytmbecfiajkalcaa", sum := "e853016a320b8048ab8ef62df1edf23e94bdbcf3aaeef437c32c13acb8d658c4", func := "capnp/capnplaw09.BudgetSplits", spec := "budgetSplits", apart := false, narrowed := true }
def BudgetSplitsUptoSaid : Prop := budgetSplitsUptoRow.holds Try.pinned (OpenSpec.upto budgetSplitsSpec)

end Rows
end Go.Proofs.Ytmbecfiajkalcaa
