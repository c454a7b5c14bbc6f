/-
  NARROWER THAN 'FOR EVERY INPUT', by the rows' own cells (each row's printed sentence says how): NodeMatchesReference: loops, laid · NodeEqualityIsStructural: loops, laid · NodeDepth: loops, laid · NodeValidity: loops, laid · NodeCopies: loops, laid.
  DERIVED. THE GIVEN ROWS OF THIS SEAT. 5 by the template 'for every input the law returns true; each argument reads behind the call as it read before'; 0 by the template 'total and deterministic' (their statements: YtmbockhcmhghlaaDoorTotals.lean).
  GIVEN WITH THE SEED: the statements are not yours to turn. If you find one false, say at which input.
  Laid BY PROGRAM, IN A SANDBOX (cutbox-rows.mjs): the forced cells as the released guide's own fill.sh prints them over the translation a8676ce6613a18b4… (all of the seat's roots in one cut). By AI agents, Wed Nov 11 2026. No macro, syntax, notation, axiom, sorry.
-/
import Derived.Test.YtmbockhcmhghlaaDoorChecked
import GoSem.Claim
import GoSem.ClaimJoined
import GoSem.ClaimMapViews
import Derived.JoinedTies
import Derived.KernelRfl
namespace Go.Proofs.YtmbockhcmhghlaaDoor
/- THE CELL 'sum', in the pinned program and in every row, IS THE sha256 OF THE DUMP (.gsa) THAT YtmbockhcmhghlaaDoorProg.lean LOADS. Nothing in Lean hashes anything: it is a label: what it is worth is what the hold of that sum in a sandbox is worth. -/
noncomputable def Tryd.pinned : Pinned := { name := "ytmbockhcmhghlaadoor", sum := "a8676ce6613a18b4924062fc013a39141eb7dc15c8f03add4ee9653f2df09fc1", checked := Tryd.checked }
namespace Rows
def none {H : Type} : Left H := { results := [], args := [] }

/- WHAT THE LISTED PACKAGE-LEVEL VARIABLES READ AS WHEN THE CALL BEGINS. Each datum BY PROGRAM (the guide's laid-datum.mjs) off the statement by which the dump's own 'gosem.cut.vars' lays the variable. In a bare row this is a premise. The card (YtmbockhcmhghlaaDoorCards.lean) ties it to the program's text. -/
def laid_capnp_listsize_bits {H : Type} : DataW H := .agg [.lit (.int .i64 0), .lit (.int .i64 1), .lit (.int .i64 8), .lit (.int .i64 16), .lit (.int .i64 32), .lit (.int .i64 64), .lit (.int .i64 64), .lit (.int .i64 0)]

/-- 'capnplaw10.NodeMatchesReference': WHATEVER THE INPUT: true; the input reads as it did. -/
def nodeMatchesReferenceSpec : ChangeSpec := { name := "nodeMatchesReference", fn := fun _ => fun
  | [d1, d2] => { results := [.lit (.bool true)], args := [d1, d2] }
  | _ => none }
def nodeMatchesReferenceRow : OpenClaim := { program := "ytmbockhcmhghlaadoor", sum := "a8676ce6613a18b4924062fc013a39141eb7dc15c8f03add4ee9653f2df09fc1", func := "capnp/capnplaw10.NodeMatchesReference", spec := "nodeMatchesReference", unfollowed := true, recurses := true, named := ["capnp/listsize.bits"], loops := true, apart := false, laid := [("capnp/listsize.bits", laid_capnp_listsize_bits)] }
def NodeMatchesReferenceSaid : Prop := nodeMatchesReferenceRow.holds Tryd.pinned (OpenSpec.ofChange nodeMatchesReferenceSpec)

/-- ITS FALSE NEIGHBOUR: 'it returns false'. Refute it at one input. -/
def nodeMatchesReferenceWrong : ChangeSpec := { name := "nodeMatchesReference", fn := fun _ => fun
  | [d1, d2] => { results := [.lit (.bool false)], args := [d1, d2] }
  | _ => none }
def NodeMatchesReferenceWrongFalsely : Prop := nodeMatchesReferenceRow.holds Tryd.pinned (OpenSpec.ofChange nodeMatchesReferenceWrong)

/-- 'capnplaw10.NodeEqualityIsStructural': WHATEVER THE INPUT: true; the input reads as it did. -/
def nodeEqualityIsStructuralSpec : ChangeSpec := { name := "nodeEqualityIsStructural", fn := fun _ => fun
  | [d1, d2, d3] => { results := [.lit (.bool true)], args := [d1, d2, d3] }
  | _ => none }
def nodeEqualityIsStructuralRow : OpenClaim := { program := "ytmbockhcmhghlaadoor", sum := "a8676ce6613a18b4924062fc013a39141eb7dc15c8f03add4ee9653f2df09fc1", func := "capnp/capnplaw10.NodeEqualityIsStructural", spec := "nodeEqualityIsStructural", unfollowed := true, recurses := true, named := ["capnp/listsize.bits"], loops := true, apart := false, laid := [("capnp/listsize.bits", laid_capnp_listsize_bits)] }
def NodeEqualityIsStructuralSaid : Prop := nodeEqualityIsStructuralRow.holds Tryd.pinned (OpenSpec.ofChange nodeEqualityIsStructuralSpec)

/-- ITS FALSE NEIGHBOUR: 'it returns false'. Refute it at one input. -/
def nodeEqualityIsStructuralWrong : ChangeSpec := { name := "nodeEqualityIsStructural", fn := fun _ => fun
  | [d1, d2, d3] => { results := [.lit (.bool false)], args := [d1, d2, d3] }
  | _ => none }
def NodeEqualityIsStructuralWrongFalsely : Prop := nodeEqualityIsStructuralRow.holds Tryd.pinned (OpenSpec.ofChange nodeEqualityIsStructuralWrong)

/-- 'capnplaw10.NodeDepth': WHATEVER THE INPUT: true; the input reads as it did. -/
def nodeDepthSpec : ChangeSpec := { name := "nodeDepth", fn := fun _ => fun
  | [d1, d2] => { results := [.lit (.bool true)], args := [d1, d2] }
  | _ => none }
def nodeDepthRow : OpenClaim := { program := "ytmbockhcmhghlaadoor", sum := "a8676ce6613a18b4924062fc013a39141eb7dc15c8f03add4ee9653f2df09fc1", func := "capnp/capnplaw10.NodeDepth", spec := "nodeDepth", unfollowed := true, recurses := true, named := ["capnp/listsize.bits"], loops := true, apart := false, laid := [("capnp/listsize.bits", laid_capnp_listsize_bits)] }
def NodeDepthSaid : Prop := nodeDepthRow.holds Tryd.pinned (OpenSpec.ofChange nodeDepthSpec)

/-- ITS FALSE NEIGHBOUR: 'it returns false'. Refute it at one input. -/
def nodeDepthWrong : ChangeSpec := { name := "nodeDepth", fn := fun _ => fun
  | [d1, d2] => { results := [.lit (.bool false)], args := [d1, d2] }
  | _ => none }
def NodeDepthWrongFalsely : Prop := nodeDepthRow.holds Tryd.pinned (OpenSpec.ofChange nodeDepthWrong)

/-- 'capnplaw10.NodeValidity': WHATEVER THE INPUT: true; the input reads as it did. -/
def nodeValiditySpec : ChangeSpec := { name := "nodeValidity", fn := fun _ => fun
  | [d1, d2] => { results := [.lit (.bool true)], args := [d1, d2] }
  | _ => none }
def nodeValidityRow : OpenClaim := { program := "ytmbockhcmhghlaadoor", sum := "a8676ce6613a18b4924062fc013a39141eb7dc15c8f03add4ee9653f2df09fc1", func := "capnp/capnplaw10.NodeValidity", spec := "nodeValidity", unfollowed := true, recurses := true, named := ["capnp/listsize.bits"], loops := true, apart := false, laid := [("capnp/listsize.bits", laid_capnp_listsize_bits)] }
def NodeValiditySaid : Prop := nodeValidityRow.holds Tryd.pinned (OpenSpec.ofChange nodeValiditySpec)

/-- ITS FALSE NEIGHBOUR: 'it returns false'. Refute it at one input. -/
def nodeValidityWrong : ChangeSpec := { name := "nodeValidity", fn := fun _ => fun
  | [d1, d2] => { results := [.lit (.bool false)], args := [d1, d2] }
  | _ => none }
def NodeValidityWrongFalsely : Prop := nodeValidityRow.holds Tryd.pinned (OpenSpec.ofChange nodeValidityWrong)

/-- 'capnplaw10.NodeCopies': WHATEVER THE INPUT: true; the input reads as it did. -/
def nodeCopiesSpec : ChangeSpec := { name := "nodeCopies", fn := fun _ => fun
  | [d] => { results := [.lit (.bool true)], args := [d] }
  | _ => none }
def nodeCopiesRow : OpenClaim := { program := "ytmbockhcmhghlaadoor", sum := "a8676ce6613a18b4924062fc013a39141eb7dc15c8f03add4ee9653f2df09fc1", func := "capnp/capnplaw10.NodeCopies", spec := "nodeCopies", unfollowed := true, recurses := true, named := ["capnp/listsize.bits"], loops := true, apart := false, laid := [("capnp/listsize.bits", laid_capnp_listsize_bits)] }
def NodeCopiesSaid : Prop := nodeCopiesRow.holds Tryd.pinned (OpenSpec.ofChange nodeCopiesSpec)

/-- ITS FALSE NEIGHBOUR: 'it returns false'. Refute it at one input. -/
def nodeCopiesWrong : ChangeSpec := { name := "nodeCopies", fn := fun _ => fun
  | [d] => { results := [.lit (.bool false)], args := [d] }
  | _ => none }
def NodeCopiesWrongFalsely : Prop := nodeCopiesRow.holds Tryd.pinned (OpenSpec.ofChange nodeCopiesWrong)

/- THE SECOND FORM. 'bulk': how many values and letters a reading holds, each counted each time it is reached (what is shared counts as often as it is met; a slice's spare places count too). A statement '..UptoSaid' is the law's where the arguments, and the package variables that the reading takes, are together of bulk at most 1048576: NARROWER than '..Said'. Prove '..Said' where nothing that the law and all that it calls make is longer than what came in: it says more and counts as full. Else prove '..UptoSaid'. A law counts once. -/
mutual
def uptoBulk {H : Type} : DataW H → Nat
  | .lit (.string bytes) => bytes.length + 1
  | .lit _ => 1
  | .nil => 1
  | .ptr d => uptoBulk d + 1
  | .slice elems spare => uptoBulkAll elems + uptoBulkAll spare + 1
  | .agg parts => uptoBulkAll parts + 1
  | .iface _ d => uptoBulk d + 1
  | .map entries => uptoBulkEntries entries + 1
  | .held _ => 1
def uptoBulkAll {H : Type} : List (DataW H) → Nat
  | [] => 0
  | d :: r => uptoBulk d + uptoBulkAll r
def uptoBulkEntries {H : Type} : List (Lit × DataW H) → Nat
  | [] => 0
  | x :: r => uptoBulkEntry x + uptoBulkEntries r
def uptoBulkEntry {H : Type} : Lit × DataW H → Nat
  | (.string bytes, d) => bytes.length + uptoBulk d + 1
  | (_, d) => uptoBulk d + 1
 end
def uptoSmall : (H : Type) → List (DataW H) → Bool := fun _ ds => decide (uptoBulkAll ds ≤ 1048576)
def OpenSpec.upto (s : _root_.Go.ChangeSpec) : _root_.Go.OpenSpec := { _root_.Go.OpenSpec.ofChange s with cond := some uptoSmall }

/-- 'capnplaw10.NodeMatchesReference', WHERE WHAT IT READS IS OF BULK AT MOST 1048576: true; the input reads as it did. -/
def nodeMatchesReferenceUptoRow : OpenClaim := { program := "ytmbockhcmhghlaadoor", sum := "a8676ce6613a18b4924062fc013a39141eb7dc15c8f03add4ee9653f2df09fc1", func := "capnp/capnplaw10.NodeMatchesReference", spec := "nodeMatchesReference", unfollowed := true, recurses := true, named := ["capnp/listsize.bits"], loops := true, apart := false, laid := [("capnp/listsize.bits", laid_capnp_listsize_bits)], narrowed := true }
def NodeMatchesReferenceUptoSaid : Prop := nodeMatchesReferenceUptoRow.holds Tryd.pinned (OpenSpec.upto nodeMatchesReferenceSpec)

/-- 'capnplaw10.NodeEqualityIsStructural', WHERE WHAT IT READS IS OF BULK AT MOST 1048576: true; the input reads as it did. -/
def nodeEqualityIsStructuralUptoRow : OpenClaim := { program := "ytmbockhcmhghlaadoor", sum := "a8676ce6613a18b4924062fc013a39141eb7dc15c8f03add4ee9653f2df09fc1", func := "capnp/capnplaw10.NodeEqualityIsStructural", spec := "nodeEqualityIsStructural", unfollowed := true, recurses := true, named := ["capnp/listsize.bits"], loops := true, apart := false, laid := [("capnp/listsize.bits", laid_capnp_listsize_bits)], narrowed := true }
def NodeEqualityIsStructuralUptoSaid : Prop := nodeEqualityIsStructuralUptoRow.holds Tryd.pinned (OpenSpec.upto nodeEqualityIsStructuralSpec)

/-- 'capnplaw10.NodeDepth', WHERE WHAT IT READS IS OF BULK AT MOST 1048576: true; the input reads as it did. -/
def nodeDepthUptoRow : OpenClaim := { program := "ytmbockhcmhghlaadoor", sum := "a8676ce6613a18b4924062fc013a39141eb7dc15c8f03add4ee9653f2df09fc1", func := "capnp/capnplaw10.NodeDepth", spec := "nodeDepth", unfollowed := true, recurses := true, named := ["capnp/listsize.bits"], loops := true, apart := false, laid := [("capnp/listsize.bits", laid_capnp_listsize_bits)], narrowed := true }
def NodeDepthUptoSaid : Prop := nodeDepthUptoRow.holds Tryd.pinned (OpenSpec.upto nodeDepthSpec)

/-- 'capnplaw10.NodeValidity', WHERE WHAT IT READS IS OF BULK AT MOST 1048576: true; the input reads as it did. -/
def nodeValidityUptoRow : OpenClaim := { program := "ytmbockhcmhghlaadoor", sum := "a8676ce6613a18b4924062fc013a39141eb7dc15c8f03add4ee9653f2df09fc1", func := "capnp/capnplaw10.NodeValidity", spec := "nodeValidity", unfollowed := true, recurses := true, named := ["capnp/listsize.bits"], loops := true, apart := false, laid := [("capnp/listsize.bits", laid_capnp_listsize_bits)], narrowed := true }
def NodeValidityUptoSaid : Prop := nodeValidityUptoRow.holds Tryd.pinned (OpenSpec.upto nodeValiditySpec)

/-- 'capnplaw10.NodeCopies', WHERE WHAT IT READS IS OF BULK AT MOST 1048576: true; the input reads as it did. -/
def nodeCopiesUptoRow : OpenClaim := { program := "ytmbockhcmhghlaadoor", sum := "a8676ce6613a18b4924062fc013a39141eb7dc15c8f03add4ee9653f2df09fc1", func := "capnp/capnplaw10.NodeCopies", spec := "nodeCopies", unfollowed := true, recurses := true, named := ["capnp/listsize.bits"], loops := true, apart := false, laid := [("capnp/listsize.bits", laid_capnp_listsize_bits)], narrowed := true }
def NodeCopiesUptoSaid : Prop := nodeCopiesUptoRow.holds Tryd.pinned (OpenSpec.upto nodeCopiesSpec)

end Rows
end Go.Proofs.YtmbockhcmhghlaaDoor
