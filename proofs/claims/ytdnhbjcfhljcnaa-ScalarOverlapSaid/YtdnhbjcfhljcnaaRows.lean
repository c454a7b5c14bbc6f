/-
  No cell of these rows narrows 'for every input' (looked for: loops, veiled, ifaces, maps, wideKeys, modest, calm, conditions, laid).
  DERIVED. THE GIVEN ROWS OF THIS SEAT. 6 by the template 'for every input the law returns true; each argument reads behind the call as it read before'; 0 by the template 'total and deterministic' (their statements: YtdnhbjcfhljcnaaTotals.lean).
  GIVEN WITH THE SEED: the statements are not yours to turn. If you find one false, say at which input.
  Laid BY PROGRAM, IN A SANDBOX (cutbox-rows.mjs): the forced cells as the released guide's own fill.sh prints them over the translation 4544b187983f34f9… (all of the seat's roots in one cut). By AI agents, Wed Nov 11 2026. No macro, syntax, notation, axiom, sorry.
-/
import Derived.Test.YtdnhbjcfhljcnaaChecked
import GoSem.Claim
import GoSem.ClaimJoined
import GoSem.ClaimMapViews
import Derived.JoinedTies
import Derived.KernelRfl
namespace Go.Proofs.Ytdnhbjcfhljcnaa
/- THE CELL 'sum', in the pinned program and in every row, IS THE sha256 OF THE DUMP (.gsa) THAT YtdnhbjcfhljcnaaProg.lean LOADS. Nothing in Lean hashes anything: it is a label: what it is worth is what the hold of that sum in a sandbox is worth. -/
noncomputable def Try.pinned : Pinned := { name := "ytdnhbjcfhljcnaa", sum := "4544b187983f34f9d0d9b017d8374a9e617e5b1aa68fdf713d1ec51d8126cf9f", checked := Try.checked }
namespace Rows
def none {H : Type} : Left H := { results := [], args := [] }

/-- 'capnplaw03.ScalarMatchesReference': WHATEVER THE INPUT: true; the input reads as it did. -/
def scalarMatchesReferenceSpec : ChangeSpec := { name := "scalarMatchesReference", fn := fun _ => fun
  | [d1, d2, d3, d4, d5] => { results := [.lit (.bool true)], args := [d1, d2, d3, d4, d5] }
  | _ => none }
def scalarMatchesReferenceRow : OpenClaim := { program := "ytdnhbjcfhljcnaa", sum := "4544b187983f34f9d0d9b017d8374a9e617e5b1aa68fdf713d1ec51d8126cf9f", func := "capnp/capnplaw03.ScalarMatchesReference", spec := "scalarMatchesReference", inPlace := ["math.Float64bits", "math.Float64frombits"], apart := false }
def ScalarMatchesReferenceSaid : Prop := scalarMatchesReferenceRow.holds Try.pinned (OpenSpec.ofChange scalarMatchesReferenceSpec)

/-- ITS FALSE NEIGHBOUR: 'it returns false'. Refute it at one input. -/
def scalarMatchesReferenceWrong : ChangeSpec := { name := "scalarMatchesReference", fn := fun _ => fun
  | [d1, d2, d3, d4, d5] => { results := [.lit (.bool false)], args := [d1, d2, d3, d4, d5] }
  | _ => none }
def ScalarMatchesReferenceWrongFalsely : Prop := scalarMatchesReferenceRow.holds Try.pinned (OpenSpec.ofChange scalarMatchesReferenceWrong)

/-- 'capnplaw03.ScalarSetThenGet': WHATEVER THE INPUT: true; the input reads as it did. -/
def scalarSetThenGetSpec : ChangeSpec := { name := "scalarSetThenGet", fn := fun _ => fun
  | [d1, d2, d3, d4, d5, d6] => { results := [.lit (.bool true)], args := [d1, d2, d3, d4, d5, d6] }
  | _ => none }
def scalarSetThenGetRow : OpenClaim := { program := "ytdnhbjcfhljcnaa", sum := "4544b187983f34f9d0d9b017d8374a9e617e5b1aa68fdf713d1ec51d8126cf9f", func := "capnp/capnplaw03.ScalarSetThenGet", spec := "scalarSetThenGet", inPlace := ["math.Float64bits", "math.Float64frombits"], apart := false }
def ScalarSetThenGetSaid : Prop := scalarSetThenGetRow.holds Try.pinned (OpenSpec.ofChange scalarSetThenGetSpec)

/-- ITS FALSE NEIGHBOUR: 'it returns false'. Refute it at one input. -/
def scalarSetThenGetWrong : ChangeSpec := { name := "scalarSetThenGet", fn := fun _ => fun
  | [d1, d2, d3, d4, d5, d6] => { results := [.lit (.bool false)], args := [d1, d2, d3, d4, d5, d6] }
  | _ => none }
def ScalarSetThenGetWrongFalsely : Prop := scalarSetThenGetRow.holds Try.pinned (OpenSpec.ofChange scalarSetThenGetWrong)

/-- 'capnplaw03.ScalarZeroIsDefault': WHATEVER THE INPUT: true; the input reads as it did. -/
def scalarZeroIsDefaultSpec : ChangeSpec := { name := "scalarZeroIsDefault", fn := fun _ => fun
  | [d1, d2, d3, d4] => { results := [.lit (.bool true)], args := [d1, d2, d3, d4] }
  | _ => none }
def scalarZeroIsDefaultRow : OpenClaim := { program := "ytdnhbjcfhljcnaa", sum := "4544b187983f34f9d0d9b017d8374a9e617e5b1aa68fdf713d1ec51d8126cf9f", func := "capnp/capnplaw03.ScalarZeroIsDefault", spec := "scalarZeroIsDefault", inPlace := ["math.Float64bits", "math.Float64frombits"], apart := false }
def ScalarZeroIsDefaultSaid : Prop := scalarZeroIsDefaultRow.holds Try.pinned (OpenSpec.ofChange scalarZeroIsDefaultSpec)

/-- ITS FALSE NEIGHBOUR: 'it returns false'. Refute it at one input. -/
def scalarZeroIsDefaultWrong : ChangeSpec := { name := "scalarZeroIsDefault", fn := fun _ => fun
  | [d1, d2, d3, d4] => { results := [.lit (.bool false)], args := [d1, d2, d3, d4] }
  | _ => none }
def ScalarZeroIsDefaultWrongFalsely : Prop := scalarZeroIsDefaultRow.holds Try.pinned (OpenSpec.ofChange scalarZeroIsDefaultWrong)

/-- 'capnplaw03.ScalarFloats': WHATEVER THE INPUT: true; the input reads as it did. -/
def scalarFloatsSpec : ChangeSpec := { name := "scalarFloats", fn := fun _ => fun
  | [d1, d2, d3, d4] => { results := [.lit (.bool true)], args := [d1, d2, d3, d4] }
  | _ => none }
def scalarFloatsRow : OpenClaim := { program := "ytdnhbjcfhljcnaa", sum := "4544b187983f34f9d0d9b017d8374a9e617e5b1aa68fdf713d1ec51d8126cf9f", func := "capnp/capnplaw03.ScalarFloats", spec := "scalarFloats", inPlace := ["math.Float64bits", "math.Float64frombits"], apart := false }
def ScalarFloatsSaid : Prop := scalarFloatsRow.holds Try.pinned (OpenSpec.ofChange scalarFloatsSpec)

/-- ITS FALSE NEIGHBOUR: 'it returns false'. Refute it at one input. -/
def scalarFloatsWrong : ChangeSpec := { name := "scalarFloats", fn := fun _ => fun
  | [d1, d2, d3, d4] => { results := [.lit (.bool false)], args := [d1, d2, d3, d4] }
  | _ => none }
def ScalarFloatsWrongFalsely : Prop := scalarFloatsRow.holds Try.pinned (OpenSpec.ofChange scalarFloatsWrong)

/-- 'capnplaw03.ScalarOverlap': WHATEVER THE INPUT: true; the input reads as it did. -/
def scalarOverlapSpec : ChangeSpec := { name := "scalarOverlap", fn := fun _ => fun
  | [d1, d2] => { results := [.lit (.bool true)], args := [d1, d2] }
  | _ => none }
def scalarOverlapRow : OpenClaim := { program := "ytdnhbjcfhljcnaa", sum := "4544b187983f34f9d0d9b017d8374a9e617e5b1aa68fdf713d1ec51d8126cf9f", func := "capnp/capnplaw03.ScalarOverlap", spec := "scalarOverlap", inPlace := ["math.Float64bits", "math.Float64frombits"], apart := false }
def ScalarOverlapSaid : Prop := scalarOverlapRow.holds Try.pinned (OpenSpec.ofChange scalarOverlapSpec)

/-- ITS FALSE NEIGHBOUR: 'it returns false'. Refute it at one input. -/
def scalarOverlapWrong : ChangeSpec := { name := "scalarOverlap", fn := fun _ => fun
  | [d1, d2] => { results := [.lit (.bool false)], args := [d1, d2] }
  | _ => none }
def ScalarOverlapWrongFalsely : Prop := scalarOverlapRow.holds Try.pinned (OpenSpec.ofChange scalarOverlapWrong)

/-- 'capnplaw03.ScalarKeeps': WHATEVER THE INPUT: true; the input reads as it did. -/
def scalarKeepsSpec : ChangeSpec := { name := "scalarKeeps", fn := fun _ => fun
  | [d1, d2, d3, d4, d5] => { results := [.lit (.bool true)], args := [d1, d2, d3, d4, d5] }
  | _ => none }
def scalarKeepsRow : OpenClaim := { program := "ytdnhbjcfhljcnaa", sum := "4544b187983f34f9d0d9b017d8374a9e617e5b1aa68fdf713d1ec51d8126cf9f", func := "capnp/capnplaw03.ScalarKeeps", spec := "scalarKeeps", inPlace := ["math.Float64bits", "math.Float64frombits"], apart := false }
def ScalarKeepsSaid : Prop := scalarKeepsRow.holds Try.pinned (OpenSpec.ofChange scalarKeepsSpec)

/-- ITS FALSE NEIGHBOUR: 'it returns false'. Refute it at one input. -/
def scalarKeepsWrong : ChangeSpec := { name := "scalarKeeps", fn := fun _ => fun
  | [d1, d2, d3, d4, d5] => { results := [.lit (.bool false)], args := [d1, d2, d3, d4, d5] }
  | _ => none }
def ScalarKeepsWrongFalsely : Prop := scalarKeepsRow.holds Try.pinned (OpenSpec.ofChange scalarKeepsWrong)

/- THE SECOND FORM. 'bulk': how many values and letters a reading holds, each counted each time it is reached (what is shared counts as often as it is met; a slice's spare places count too). A statement '..UptoSaid' is the law's where the arguments, and the package variables that the reading takes, are together of bulk at most 1048576: NARROWER than '..Said'. Prove '..Said' where nothing that the law and all that it calls make is longer than what came in: it says more and counts as full. Else prove '..UptoSaid'. A law counts once. -/
mutual
def uptoBulk {H : Type} : DataW H → Nat
  | .lit (.string bytes) => bytes.length + 1
  | .lit _ => 1
  | .nil => 1
  | .ptr d => uptoBulk d + 1
  | .slice elems spare => uptoBulkAll elems + uptoBulkAll spare + 1
  | .agg parts => uptoBulkAll parts + 1
  | .iface _ d => uptoBulk d + 1
  | .map entries => uptoBulkEntries entries + 1
  | .held _ => 1
def uptoBulkAll {H : Type} : List (DataW H) → Nat
  | [] => 0
  | d :: r => uptoBulk d + uptoBulkAll r
def uptoBulkEntries {H : Type} : List (Lit × DataW H) → Nat
  | [] => 0
  | x :: r => uptoBulkEntry x + uptoBulkEntries r
def uptoBulkEntry {H : Type} : Lit × DataW H → Nat
  | (.string bytes, d) => bytes.length + uptoBulk d + 1
  | (_, d) => uptoBulk d + 1
 end
def uptoSmall : (H : Type) → List (DataW H) → Bool := fun _ ds => decide (uptoBulkAll ds ≤ 1048576)
def OpenSpec.upto (s : _root_.Go.ChangeSpec) : _root_.Go.OpenSpec := { _root_.Go.OpenSpec.ofChange s with cond := some uptoSmall }

/-- 'capnplaw03.ScalarMatchesReference', WHERE WHAT IT READS IS OF BULK AT MOST 1048576: true; the input reads as it did. -/
def scalarMatchesReferenceUptoRow : OpenClaim := { program := "ytdnhbjcfhljcnaa", sum := "4544b187983f34f9d0d9b017d8374a9e617e5b1aa68fdf713d1ec51d8126cf9f", func := "capnp/capnplaw03.ScalarMatchesReference", spec := "scalarMatchesReference", inPlace := ["math.Float64bits", "math.Float64frombits"], apart := false, narrowed := true }
def ScalarMatchesReferenceUptoSaid : Prop := scalarMatchesReferenceUptoRow.holds Try.pinned (OpenSpec.upto scalarMatchesReferenceSpec)

/-- 'capnplaw03.ScalarSetThenGet', WHERE WHAT IT READS IS OF BULK AT MOST 1048576: true; the input reads as it did. -/
def scalarSetThenGetUptoRow : OpenClaim := { program := "ytdnhbjcfhljcnaa", sum := "4544b187983f34f9d0d9b017d8374a9e617e5b1aa68fdf713d1ec51d8126cf9f", func := "capnp/capnplaw03.ScalarSetThenGet", spec := "scalarSetThenGet", inPlace := ["math.Float64bits", "math.Float64frombits"], apart := false, narrowed := true }
def ScalarSetThenGetUptoSaid : Prop := scalarSetThenGetUptoRow.holds Try.pinned (OpenSpec.upto scalarSetThenGetSpec)

/-- 'capnplaw03.ScalarZeroIsDefault', WHERE WHAT IT READS IS OF BULK AT MOST 1048576: true; the input reads as it did. -/
def scalarZeroIsDefaultUptoRow : OpenClaim := { program := "ytdnhbjcfhljcnaa", sum := "4544b187983f34f9d0d9b017d8374a9e617e5b1aa68fdf713d1ec51d8126cf9f", func := "capnp/capnplaw03.ScalarZeroIsDefault", spec := "scalarZeroIsDefault", inPlace := ["math.Float64bits", "math.Float64frombits"], apart := false, narrowed := true }
def ScalarZeroIsDefaultUptoSaid : Prop := scalarZeroIsDefaultUptoRow.holds Try.pinned (OpenSpec.upto scalarZeroIsDefaultSpec)

/-- 'capnplaw03.ScalarFloats', WHERE WHAT IT READS IS OF BULK AT MOST 1048576: true; the input reads as it did. -/
def scalarFloatsUptoRow : OpenClaim := { program := "ytdnhbjcfhljcnaa", sum := "4544b187983f34f9d0d9b017d8374a9e617e5b1aa68fdf713d1ec51d8126cf9f", func := "capnp/capnplaw03.ScalarFloats", spec := "scalarFloats", inPlace := ["math.Float64bits", "math.Float64frombits"], apart := false, narrowed := true }
def ScalarFloatsUptoSaid : Prop := scalarFloatsUptoRow.holds Try.pinned (OpenSpec.upto scalarFloatsSpec)

/-- 'capnplaw03.ScalarOverlap', WHERE WHAT IT READS IS OF BULK AT MOST 1048576: true; the input reads as it did. -/
def scalarOverlapUptoRow : OpenClaim := { program := "ytdnhbjcfhljcnaa", sum := "4544b187983f34f9d0d9b017d8374a9e617e5b1aa68fdf713d1ec51d8126cf9f", func := "capnp/capnplaw03.ScalarOverlap", spec := "scalarOverlap", inPlace := ["math.Float64bits", "math.Float64frombits"], apart := false, narrowed := true }
def ScalarOverlapUptoSaid : Prop := scalarOverlapUptoRow.holds Try.pinned (OpenSpec.upto scalarOverlapSpec)

/-- 'capnplaw03.ScalarKeeps', WHERE WHAT IT READS IS OF BULK AT MOST 1048576: true; the input reads as it did. -/
def scalarKeepsUptoRow : OpenClaim := { program := "ytdnhbjcfhljcnaa", sum := "4544b187983f34f9d0d9b017d8374a9e617e5b1aa68fdf713d1ec51d8126cf9f", func := "capnp/capnplaw03.ScalarKeeps", spec := "scalarKeeps", inPlace := ["math.Float64bits", "math.Float64frombits"], apart := false, narrowed := true }
def ScalarKeepsUptoSaid : Prop := scalarKeepsUptoRow.holds Try.pinned (OpenSpec.upto scalarKeepsSpec)

end Rows
end Go.Proofs.Ytdnhbjcfhljcnaa
