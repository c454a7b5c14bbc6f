/-
  NARROWER THAN 'FOR EVERY INPUT', by the rows' own cells (each row's printed sentence says how): ListsizeMatchesReference: laid · ListsizeIsExact: laid · ListsizeGrows: laid · ListsizeTrims: laid.
  DERIVED. THE GIVEN ROWS OF THIS SEAT. 4 by the template 'for every input the law returns true; each argument reads behind the call as it read before'; 0 by the template 'total and deterministic' (their statements: YtmbecfiajkalcaaDoorTotals.lean).
  GIVEN WITH THE SEED: the statements are not yours to turn. If you find one false, say at which input.
  Laid BY PROGRAM, IN A SANDBOX (cutbox-rows.mjs): the forced cells as the released guide's own fill.sh prints them over the translation 77211207536b0930… (all of the seat's roots in one cut). By AI agents, Wed Nov 11 2026. No macro, syntax, notation, axiom, sorry.
-/
import Derived.Test.YtmbecfiajkalcaaDoorChecked
import GoSem.Claim
import GoSem.ClaimJoined
import GoSem.ClaimMapViews
import Derived.JoinedTies
import Derived.KernelRfl
namespace Go.Proofs.YtmbecfiajkalcaaDoor
/- THE CELL 'sum', in the pinned program and in every row, IS THE sha256 OF THE DUMP (.gsa) THAT YtmbecfiajkalcaaDoorProg.lean LOADS. Nothing in Lean hashes anything: it is a label: what it is worth is what the hold of that sum in a sandbox is worth. -/
noncomputable def Tryd.pinned : Pinned := { name := "ytmbecfiajkalcaadoor", sum := "77211207536b0930689668d139ad19bc71d16c76309c1aceddcbc0b4e1b48a73", checked := Tryd.checked }
namespace Rows
def none {H : Type} : Left H := { results := [], args := [] }

/- WHAT THE LISTED PACKAGE-LEVEL VARIABLES READ AS WHEN THE CALL BEGINS. Each datum BY PROGRAM (the guide's laid-datum.mjs) off the statement by which the dump's own 'gosem.cut.vars' lays the variable. In a bare row this is a premise. The card (YtmbecfiajkalcaaDoorCards.lean) ties it to the program's text. -/
def laid_capnp_listsize_bits {H : Type} : DataW H := .agg [.lit (.int .i64 0), .lit (.int .i64 1), .lit (.int .i64 8), .lit (.int .i64 16), .lit (.int .i64 32), .lit (.int .i64 64), .lit (.int .i64 64), .lit (.int .i64 0)]

/-- 'capnplaw06.ListsizeMatchesReference': WHATEVER THE INPUT: true; the input reads as it did. -/
def listsizeMatchesReferenceSpec : ChangeSpec := { name := "listsizeMatchesReference", fn := fun _ => fun
  | [d1, d2, d3] => { results := [.lit (.bool true)], args := [d1, d2, d3] }
  | _ => none }
def listsizeMatchesReferenceRow : OpenClaim := { program := "ytmbecfiajkalcaadoor", sum := "77211207536b0930689668d139ad19bc71d16c76309c1aceddcbc0b4e1b48a73", func := "capnp/capnplaw06.ListsizeMatchesReference", spec := "listsizeMatchesReference", named := ["capnp/listsize.bits"], apart := false, laid := [("capnp/listsize.bits", laid_capnp_listsize_bits)] }
def ListsizeMatchesReferenceSaid : Prop := listsizeMatchesReferenceRow.holds Tryd.pinned (OpenSpec.ofChange listsizeMatchesReferenceSpec)

/-- ITS FALSE NEIGHBOUR: 'it returns false'. Refute it at one input. -/
def listsizeMatchesReferenceWrong : ChangeSpec := { name := "listsizeMatchesReference", fn := fun _ => fun
  | [d1, d2, d3] => { results := [.lit (.bool false)], args := [d1, d2, d3] }
  | _ => none }
def ListsizeMatchesReferenceWrongFalsely : Prop := listsizeMatchesReferenceRow.holds Tryd.pinned (OpenSpec.ofChange listsizeMatchesReferenceWrong)

/-- 'capnplaw06.ListsizeIsExact': WHATEVER THE INPUT: true; the input reads as it did. -/
def listsizeIsExactSpec : ChangeSpec := { name := "listsizeIsExact", fn := fun _ => fun
  | [d1, d2] => { results := [.lit (.bool true)], args := [d1, d2] }
  | _ => none }
def listsizeIsExactRow : OpenClaim := { program := "ytmbecfiajkalcaadoor", sum := "77211207536b0930689668d139ad19bc71d16c76309c1aceddcbc0b4e1b48a73", func := "capnp/capnplaw06.ListsizeIsExact", spec := "listsizeIsExact", named := ["capnp/listsize.bits"], apart := false, laid := [("capnp/listsize.bits", laid_capnp_listsize_bits)] }
def ListsizeIsExactSaid : Prop := listsizeIsExactRow.holds Tryd.pinned (OpenSpec.ofChange listsizeIsExactSpec)

/-- ITS FALSE NEIGHBOUR: 'it returns false'. Refute it at one input. -/
def listsizeIsExactWrong : ChangeSpec := { name := "listsizeIsExact", fn := fun _ => fun
  | [d1, d2] => { results := [.lit (.bool false)], args := [d1, d2] }
  | _ => none }
def ListsizeIsExactWrongFalsely : Prop := listsizeIsExactRow.holds Tryd.pinned (OpenSpec.ofChange listsizeIsExactWrong)

/-- 'capnplaw06.ListsizeGrows': WHATEVER THE INPUT: true; the input reads as it did. -/
def listsizeGrowsSpec : ChangeSpec := { name := "listsizeGrows", fn := fun _ => fun
  | [d1, d2, d3] => { results := [.lit (.bool true)], args := [d1, d2, d3] }
  | _ => none }
def listsizeGrowsRow : OpenClaim := { program := "ytmbecfiajkalcaadoor", sum := "77211207536b0930689668d139ad19bc71d16c76309c1aceddcbc0b4e1b48a73", func := "capnp/capnplaw06.ListsizeGrows", spec := "listsizeGrows", named := ["capnp/listsize.bits"], apart := false, laid := [("capnp/listsize.bits", laid_capnp_listsize_bits)] }
def ListsizeGrowsSaid : Prop := listsizeGrowsRow.holds Tryd.pinned (OpenSpec.ofChange listsizeGrowsSpec)

/-- ITS FALSE NEIGHBOUR: 'it returns false'. Refute it at one input. -/
def listsizeGrowsWrong : ChangeSpec := { name := "listsizeGrows", fn := fun _ => fun
  | [d1, d2, d3] => { results := [.lit (.bool false)], args := [d1, d2, d3] }
  | _ => none }
def ListsizeGrowsWrongFalsely : Prop := listsizeGrowsRow.holds Tryd.pinned (OpenSpec.ofChange listsizeGrowsWrong)

/-- 'capnplaw06.ListsizeTrims': WHATEVER THE INPUT: true; the input reads as it did. -/
def listsizeTrimsSpec : ChangeSpec := { name := "listsizeTrims", fn := fun _ => fun
  | [d1, d2, d3, d4] => { results := [.lit (.bool true)], args := [d1, d2, d3, d4] }
  | _ => none }
def listsizeTrimsRow : OpenClaim := { program := "ytmbecfiajkalcaadoor", sum := "77211207536b0930689668d139ad19bc71d16c76309c1aceddcbc0b4e1b48a73", func := "capnp/capnplaw06.ListsizeTrims", spec := "listsizeTrims", named := ["capnp/listsize.bits"], apart := false, laid := [("capnp/listsize.bits", laid_capnp_listsize_bits)] }
def ListsizeTrimsSaid : Prop := listsizeTrimsRow.holds Tryd.pinned (OpenSpec.ofChange listsizeTrimsSpec)

/-- ITS FALSE NEIGHBOUR: 'it returns false'. Refute it at one input. -/
def listsizeTrimsWrong : ChangeSpec := { name := "listsizeTrims", fn := fun _ => fun
  | [d1, d2, d3, d4] => { results := [.lit (.bool false)], args := [d1, d2, d3, d4] }
  | _ => none }
def ListsizeTrimsWrongFalsely : Prop := listsizeTrimsRow.holds Tryd.pinned (OpenSpec.ofChange listsizeTrimsWrong)

/- THE SECOND FORM. 'bulk': how many values and letters a reading holds, each counted each time it is reached (what is shared counts as often as it is met; a slice's spare places count too). A statement '..UptoSaid' is the law's where the arguments, and the package variables that the reading takes, are together of bulk at most 1048576: NARROWER than '..Said'. Prove '..Said' where nothing that the law and all that it calls make is longer than what came in: it says more and counts as full. Else prove '..UptoSaid'. A law counts once. -/
mutual
def uptoBulk {H : Type} : DataW H → Nat
  | .lit (.string bytes) => bytes.length + 1
  | .lit _ => 1
  | .nil => 1
  | .ptr d => uptoBulk d + 1
  | .slice elems spare => uptoBulkAll elems + uptoBulkAll spare + 1
  | .agg parts => uptoBulkAll parts + 1
  | .iface _ d => uptoBulk d + 1
  | .map entries => uptoBulkEntries entries + 1
  | .held _ => 1
def uptoBulkAll {H : Type} : List (DataW H) → Nat
  | [] => 0
  | d :: r => uptoBulk d + uptoBulkAll r
def uptoBulkEntries {H : Type} : List (Lit × DataW H) → Nat
  | [] => 0
  | x :: r => uptoBulkEntry x + uptoBulkEntries r
def uptoBulkEntry {H : Type} : Lit × DataW H → Nat
  | (.string bytes, d) => bytes.length + uptoBulk d + 1
  | (_, d) => uptoBulk d + 1
 end
def uptoSmall : (H : Type) → List (DataW H) → Bool := fun _ ds => decide (uptoBulkAll ds ≤ 1048576)
def OpenSpec.upto (s : _root_.Go.ChangeSpec) : _root_.Go.OpenSpec := { _root_.Go.OpenSpec.ofChange s with cond := some uptoSmall }

/-- 'capnplaw06.ListsizeMatchesReference', WHERE WHAT IT READS IS OF BULK AT MOST 1048576: true; the input reads as it did. -/
def listsizeMatchesReferenceUptoRow : OpenClaim := { program := "ytmbecfiajkalcaadoor", sum := "77211207536b0930689668d139ad19bc71d16c76309c1aceddcbc0b4e1b48a73", func := "capnp/capnplaw06.ListsizeMatchesReference", spec := "listsizeMatchesReference", named := ["capnp/listsize.bits"], apart := false, laid := [("capnp/listsize.bits", laid_capnp_listsize_bits)], narrowed := true }
def ListsizeMatchesReferenceUptoSaid : Prop := listsizeMatchesReferenceUptoRow.holds Tryd.pinned (OpenSpec.upto listsizeMatchesReferenceSpec)

/-- 'capnplaw06.ListsizeIsExact', WHERE WHAT IT READS IS OF BULK AT MOST 1048576: true; the input reads as it did. -/
def listsizeIsExactUptoRow : OpenClaim := { program := "ytmbecfiajkalcaadoor", sum := "77211207536b0930689668d139ad19bc71d16c76309c1aceddcbc0b4e1b48a73", func := "capnp/capnplaw06.ListsizeIsExact", spec := "listsizeIsExact", named := ["capnp/listsize.bits"], apart := false, laid := [("capnp/listsize.bits", laid_capnp_listsize_bits)], narrowed := true }
def ListsizeIsExactUptoSaid : Prop := listsizeIsExactUptoRow.holds Tryd.pinned (OpenSpec.upto listsizeIsExactSpec)

/-- 'capnplaw06.ListsizeGrows', WHERE WHAT IT READS IS OF BULK AT MOST 1048576: true; the input reads as it did. -/
def listsizeGrowsUptoRow : OpenClaim := { program := "ytmbecfiajkalcaadoor", sum := "77211207536b0930689668d139ad19bc71d16c76309c1aceddcbc0b4e1b48a73", func := "capnp/capnplaw06.ListsizeGrows", spec := "listsizeGrows", named := ["capnp/listsize.bits"], apart := false, laid := [("capnp/listsize.bits", laid_capnp_listsize_bits)], narrowed := true }
def ListsizeGrowsUptoSaid : Prop := listsizeGrowsUptoRow.holds Tryd.pinned (OpenSpec.upto listsizeGrowsSpec)

/-- 'capnplaw06.ListsizeTrims', WHERE WHAT IT READS IS OF BULK AT MOST 1048576: true; the input reads as it did. -/
def listsizeTrimsUptoRow : OpenClaim := { program := "ytmbecfiajkalcaadoor", sum := "77211207536b0930689668d139ad19bc71d16c76309c1aceddcbc0b4e1b48a73", func := "capnp/capnplaw06.ListsizeTrims", spec := "listsizeTrims", named := ["capnp/listsize.bits"], apart := false, laid := [("capnp/listsize.bits", laid_capnp_listsize_bits)], narrowed := true }
def ListsizeTrimsUptoSaid : Prop := listsizeTrimsUptoRow.holds Tryd.pinned (OpenSpec.upto listsizeTrimsSpec)

end Rows
end Go.Proofs.YtmbecfiajkalcaaDoor
