/-
  NARROWER THAN 'FOR EVERY INPUT', by the rows' own cells (each row's printed sentence says how): TrimMatchesReference: loops · TrimIsCanonical: loops · TrimIgnoresExtensions: loops · TrimUniform: loops · TrimKeeps: loops.
  DERIVED. THE GIVEN ROWS OF THIS SEAT. 5 by the template 'for every input the law returns true; each argument reads behind the call as it read before'; 0 by the template 'total and deterministic' (their statements: YtmbockhcmhghlaaTotals.lean).
  GIVEN WITH THE SEED: the statements are not yours to turn. If you find one false, say at which input.
  Laid BY PROGRAM, IN A SANDBOX (cutbox-rows.mjs): the forced cells as the released guide's own fill.sh prints them over the translation f7eb98c14f1da7fb… (all of the seat's roots in one cut). By AI agents, Wed Nov 11 2026. No macro, syntax, notation, axiom, sorry.
-/
import Derived.Test.YtmbockhcmhghlaaChecked
import GoSem.Claim
import GoSem.ClaimJoined
import GoSem.ClaimMapViews
import Derived.JoinedTies
import Derived.KernelRfl
namespace Go.Proofs.Ytmbockhcmhghlaa
/- THE CELL 'sum', in the pinned program and in every row, IS THE sha256 OF THE DUMP (.gsa) THAT YtmbockhcmhghlaaProg.lean LOADS. Nothing in Lean hashes anything: it is a label: what it is worth is what the hold of that sum in a sandbox is worth. -/
noncomputable def Try.pinned : Pinned := { name := "ytmbockhcmhghlaa", sum := "f7eb98c14f1da7fb78b0f0d21f86001578472b9a40ad193806abacb0f4109bda", checked := Try.checked }
namespace Rows
def none {H : Type} : Left H := { results := [], args := [] }

/-- 'capnplaw11.TrimMatchesReference': WHATEVER THE INPUT: true; the input reads as it did. -/
def trimMatchesReferenceSpec : ChangeSpec := { name := "trimMatchesReference", fn := fun _ => fun
  | [d1, d2] => { results := [.lit (.bool true)], args := [d1, d2] }
  | _ => none }
def trimMatchesReferenceRow : OpenClaim := { program := "ytmbockhcmhghlaa", sum := "f7eb98c14f1da7fb78b0f0d21f86001578472b9a40ad193806abacb0f4109bda", func := "capnp/capnplaw11.TrimMatchesReference", spec := "trimMatchesReference", unfollowed := true, recurses := true, loops := true, apart := false }
def TrimMatchesReferenceSaid : Prop := trimMatchesReferenceRow.holds Try.pinned (OpenSpec.ofChange trimMatchesReferenceSpec)

/-- ITS FALSE NEIGHBOUR: 'it returns false'. Refute it at one input. -/
def trimMatchesReferenceWrong : ChangeSpec := { name := "trimMatchesReference", fn := fun _ => fun
  | [d1, d2] => { results := [.lit (.bool false)], args := [d1, d2] }
  | _ => none }
def TrimMatchesReferenceWrongFalsely : Prop := trimMatchesReferenceRow.holds Try.pinned (OpenSpec.ofChange trimMatchesReferenceWrong)

/-- 'capnplaw11.TrimIsCanonical': WHATEVER THE INPUT: true; the input reads as it did. -/
def trimIsCanonicalSpec : ChangeSpec := { name := "trimIsCanonical", fn := fun _ => fun
  | [d] => { results := [.lit (.bool true)], args := [d] }
  | _ => none }
def trimIsCanonicalRow : OpenClaim := { program := "ytmbockhcmhghlaa", sum := "f7eb98c14f1da7fb78b0f0d21f86001578472b9a40ad193806abacb0f4109bda", func := "capnp/capnplaw11.TrimIsCanonical", spec := "trimIsCanonical", unfollowed := true, recurses := true, loops := true, apart := false }
def TrimIsCanonicalSaid : Prop := trimIsCanonicalRow.holds Try.pinned (OpenSpec.ofChange trimIsCanonicalSpec)

/-- ITS FALSE NEIGHBOUR: 'it returns false'. Refute it at one input. -/
def trimIsCanonicalWrong : ChangeSpec := { name := "trimIsCanonical", fn := fun _ => fun
  | [d] => { results := [.lit (.bool false)], args := [d] }
  | _ => none }
def TrimIsCanonicalWrongFalsely : Prop := trimIsCanonicalRow.holds Try.pinned (OpenSpec.ofChange trimIsCanonicalWrong)

/-- 'capnplaw11.TrimIgnoresExtensions': WHATEVER THE INPUT: true; the input reads as it did. -/
def trimIgnoresExtensionsSpec : ChangeSpec := { name := "trimIgnoresExtensions", fn := fun _ => fun
  | [d1, d2, d3, d4, d5] => { results := [.lit (.bool true)], args := [d1, d2, d3, d4, d5] }
  | _ => none }
def trimIgnoresExtensionsRow : OpenClaim := { program := "ytmbockhcmhghlaa", sum := "f7eb98c14f1da7fb78b0f0d21f86001578472b9a40ad193806abacb0f4109bda", func := "capnp/capnplaw11.TrimIgnoresExtensions", spec := "trimIgnoresExtensions", unfollowed := true, recurses := true, loops := true, apart := false }
def TrimIgnoresExtensionsSaid : Prop := trimIgnoresExtensionsRow.holds Try.pinned (OpenSpec.ofChange trimIgnoresExtensionsSpec)

/-- ITS FALSE NEIGHBOUR: 'it returns false'. Refute it at one input. -/
def trimIgnoresExtensionsWrong : ChangeSpec := { name := "trimIgnoresExtensions", fn := fun _ => fun
  | [d1, d2, d3, d4, d5] => { results := [.lit (.bool false)], args := [d1, d2, d3, d4, d5] }
  | _ => none }
def TrimIgnoresExtensionsWrongFalsely : Prop := trimIgnoresExtensionsRow.holds Try.pinned (OpenSpec.ofChange trimIgnoresExtensionsWrong)

/-- 'capnplaw11.TrimUniform': WHATEVER THE INPUT: true; the input reads as it did. -/
def trimUniformSpec : ChangeSpec := { name := "trimUniform", fn := fun _ => fun
  | [d1, d2] => { results := [.lit (.bool true)], args := [d1, d2] }
  | _ => none }
def trimUniformRow : OpenClaim := { program := "ytmbockhcmhghlaa", sum := "f7eb98c14f1da7fb78b0f0d21f86001578472b9a40ad193806abacb0f4109bda", func := "capnp/capnplaw11.TrimUniform", spec := "trimUniform", unfollowed := true, recurses := true, loops := true, apart := false }
def TrimUniformSaid : Prop := trimUniformRow.holds Try.pinned (OpenSpec.ofChange trimUniformSpec)

/-- ITS FALSE NEIGHBOUR: 'it returns false'. Refute it at one input. -/
def trimUniformWrong : ChangeSpec := { name := "trimUniform", fn := fun _ => fun
  | [d1, d2] => { results := [.lit (.bool false)], args := [d1, d2] }
  | _ => none }
def TrimUniformWrongFalsely : Prop := trimUniformRow.holds Try.pinned (OpenSpec.ofChange trimUniformWrong)

/-- 'capnplaw11.TrimKeeps': WHATEVER THE INPUT: true; the input reads as it did. -/
def trimKeepsSpec : ChangeSpec := { name := "trimKeeps", fn := fun _ => fun
  | [d] => { results := [.lit (.bool true)], args := [d] }
  | _ => none }
def trimKeepsRow : OpenClaim := { program := "ytmbockhcmhghlaa", sum := "f7eb98c14f1da7fb78b0f0d21f86001578472b9a40ad193806abacb0f4109bda", func := "capnp/capnplaw11.TrimKeeps", spec := "trimKeeps", unfollowed := true, recurses := true, loops := true, apart := false }
def TrimKeepsSaid : Prop := trimKeepsRow.holds Try.pinned (OpenSpec.ofChange trimKeepsSpec)

/-- ITS FALSE NEIGHBOUR: 'it returns false'. Refute it at one input. -/
def trimKeepsWrong : ChangeSpec := { name := "trimKeeps", fn := fun _ => fun
  | [d] => { results := [.lit (.bool false)], args := [d] }
  | _ => none }
def TrimKeepsWrongFalsely : Prop := trimKeepsRow.holds Try.pinned (OpenSpec.ofChange trimKeepsWrong)

/- THE SECOND FORM. 'bulk': how many values and letters a reading holds, each counted each time it is reached (what is shared counts as often as it is met; a slice's spare places count too). A statement '..UptoSaid' is the law's where the arguments, and the package variables that the reading takes, are together of bulk at most 1048576: NARROWER than '..Said'. Prove '..Said' where nothing that the law and all that it calls make is longer than what came in: it says more and counts as full. Else prove '..UptoSaid'. A law counts once. -/
mutual
def uptoBulk {H : Type} : DataW H → Nat
  | .lit (.string bytes) => bytes.length + 1
  | .lit _ => 1
  | .nil => 1
  | .ptr d => uptoBulk d + 1
  | .slice elems spare => uptoBulkAll elems + uptoBulkAll spare + 1
  | .agg parts => uptoBulkAll parts + 1
  | .iface _ d => uptoBulk d + 1
  | .map entries => uptoBulkEntries entries + 1
  | .held _ => 1
def uptoBulkAll {H : Type} : List (DataW H) → Nat
  | [] => 0
  | d :: r => uptoBulk d + uptoBulkAll r
def uptoBulkEntries {H : Type} : List (Lit × DataW H) → Nat
  | [] => 0
  | x :: r => uptoBulkEntry x + uptoBulkEntries r
def uptoBulkEntry {H : Type} : Lit × DataW H → Nat
  | (.string bytes, d) => bytes.length + uptoBulk d + 1
  | (_, d) => uptoBulk d + 1
 end
def uptoSmall : (H : Type) → List (DataW H) → Bool := fun _ ds => decide (uptoBulkAll ds ≤ 1048576)
def OpenSpec.upto (s : _root_.Go.ChangeSpec) : _root_.Go.OpenSpec := { _root_.Go.OpenSpec.ofChange s with cond := some uptoSmall }

/-- 'capnplaw11.TrimMatchesReference', WHERE WHAT IT READS IS OF BULK AT MOST 1048576: true; the input reads as it did. -/
def trimMatchesReferenceUptoRow : OpenClaim := { program := "ytmbockhcmhghlaa", sum := "f7eb98c14f1da7fb78b0f0d21f86001578472b9a40ad193806abacb0f4109bda", func := "capnp/capnplaw11.TrimMatchesReference", spec := "trimMatchesReference", unfollowed := true, recurses := true, loops := true, apart := false, narrowed := true }
def TrimMatchesReferenceUptoSaid : Prop := trimMatchesReferenceUptoRow.holds Try.pinned (OpenSpec.upto trimMatchesReferenceSpec)

/-- 'capnplaw11.TrimIsCanonical', WHERE WHAT IT READS IS OF BULK AT MOST 1048576: true; the input reads as it did. -/
def trimIsCanonicalUptoRow : OpenClaim := { program := "ytmbockhcmhghlaa", sum := "f7eb98c14f1da7fb78b0f0d21f86001578472b9a40ad193806abacb0f4109bda", func := "capnp/capnplaw11.TrimIsCanonical", spec := "trimIsCanonical", unfollowed := true, recurses := true, loops := true, apart := false, narrowed := true }
def TrimIsCanonicalUptoSaid : Prop := trimIsCanonicalUptoRow.holds Try.pinned (OpenSpec.upto trimIsCanonicalSpec)

/-- 'capnplaw11.TrimIgnoresExtensions', WHERE WHAT IT READS IS OF BULK AT MOST 1048576: true; the input reads as it did. -/
def trimIgnoresExtensionsUptoRow : OpenClaim := { program := "ytmbockhcmhghlaa", sum := "f7eb98c14f1da7fb78b0f0d21f86001578472b9a40ad193806abacb0f4109bda", func := "capnp/capnplaw11.TrimIgnoresExtensions", spec := "trimIgnoresExtensions", unfollowed := true, recurses := true, loops := true, apart := false, narrowed := true }
def TrimIgnoresExtensionsUptoSaid : Prop := trimIgnoresExtensionsUptoRow.holds Try.pinned (OpenSpec.upto trimIgnoresExtensionsSpec)

/-- 'capnplaw11.TrimUniform', WHERE WHAT IT READS IS OF BULK AT MOST 1048576: true; the input reads as it did. -/
def trimUniformUptoRow : OpenClaim := { program := "ytmbockhcmhghlaa", sum := "f7eb98c14f1da7fb78b0f0d21f86001578472b9a40ad193806abacb0f4109bda", func := "capnp/capnplaw11.TrimUniform", spec := "trimUniform", unfollowed := true, recurses := true, loops := true, apart := false, narrowed := true }
def TrimUniformUptoSaid : Prop := trimUniformUptoRow.holds Try.pinned (OpenSpec.upto trimUniformSpec)

/-- 'capnplaw11.TrimKeeps', WHERE WHAT IT READS IS OF BULK AT MOST 1048576: true; the input reads as it did. -/
def trimKeepsUptoRow : OpenClaim := { program := "ytmbockhcmhghlaa", sum := "f7eb98c14f1da7fb78b0f0d21f86001578472b9a40ad193806abacb0f4109bda", func := "capnp/capnplaw11.TrimKeeps", spec := "trimKeeps", unfollowed := true, recurses := true, loops := true, apart := false, narrowed := true }
def TrimKeepsUptoSaid : Prop := trimKeepsUptoRow.holds Try.pinned (OpenSpec.upto trimKeepsSpec)

end Rows
end Go.Proofs.Ytmbockhcmhghlaa
