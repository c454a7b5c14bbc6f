/-
  NARROWER THAN 'FOR EVERY INPUT', by the rows' own cells (each row's printed sentence says how): CanoncheckMatchesReference: laid · CanoncheckAcceptsExactly: laid · CanoncheckAcceptsCanonicalForms: laid · CanoncheckLimits: loops, laid · CanoncheckEnds: laid.
  DERIVED. THE GIVEN ROWS OF THIS SEAT. 5 by the template 'for every input the law returns true; each argument reads behind the call as it read before'; 0 by the template 'total and deterministic' (their statements: YtidglmocekghmaaDoorTotals.lean).
  GIVEN WITH THE SEED: the statements are not yours to turn. If you find one false, say at which input.
  Laid BY PROGRAM, IN A SANDBOX (cutbox-rows.mjs): the forced cells as the released guide's own fill.sh prints them over the translation 7a5860deb666a475… (all of the seat's roots in one cut). By AI agents, Wed Nov 11 2026. No macro, syntax, notation, axiom, sorry.
-/
import Derived.Test.YtidglmocekghmaaDoorChecked
import GoSem.Claim
import GoSem.ClaimJoined
import GoSem.ClaimMapViews
import Derived.JoinedTies
import Derived.KernelRfl
namespace Go.Proofs.YtidglmocekghmaaDoor
/- THE CELL 'sum', in the pinned program and in every row, IS THE sha256 OF THE DUMP (.gsa) THAT YtidglmocekghmaaDoorProg.lean LOADS. Nothing in Lean hashes anything: it is a label: what it is worth is what the hold of that sum in a sandbox is worth. -/
noncomputable def Tryd.pinned : Pinned := { name := "ytidglmocekghmaadoor", sum := "7a5860deb666a475ac89b27f050e75202414864f3bd8cffc9933a17c45e45e2d", checked := Tryd.checked }
namespace Rows
def none {H : Type} : Left H := { results := [], args := [] }

/- WHAT THE LISTED PACKAGE-LEVEL VARIABLES READ AS WHEN THE CALL BEGINS. Each datum BY PROGRAM (the guide's laid-datum.mjs) off the statement by which the dump's own 'gosem.cut.vars' lays the variable. In a bare row this is a premise. The card (YtidglmocekghmaaDoorCards.lean) ties it to the program's text. -/
def laid_capnp_pointer_decoders {H : Type} : DataW H := .iface "func table" (.map [(.int .i64 0, .iface "func" (.lit (.string [99, 97, 112, 110, 112, 47, 112, 111, 105, 110, 116, 101, 114, 46, 100, 101, 99, 111, 100, 101, 114, 115, 36, 49]))), (.int .i64 1, .iface "func" (.lit (.string [99, 97, 112, 110, 112, 47, 112, 111, 105, 110, 116, 101, 114, 46, 100, 101, 99, 111, 100, 101, 114, 115, 36, 50]))), (.int .i64 2, .iface "func" (.lit (.string [99, 97, 112, 110, 112, 47, 112, 111, 105, 110, 116, 101, 114, 46, 100, 101, 99, 111, 100, 101, 114, 115, 36, 51]))), (.int .i64 3, .iface "func" (.lit (.string [99, 97, 112, 110, 112, 47, 112, 111, 105, 110, 116, 101, 114, 46, 100, 101, 99, 111, 100, 101, 114, 115, 36, 52])))])
def laid_capnp_listsize_bits {H : Type} : DataW H := .agg [.lit (.int .i64 0), .lit (.int .i64 1), .lit (.int .i64 8), .lit (.int .i64 16), .lit (.int .i64 32), .lit (.int .i64 64), .lit (.int .i64 64), .lit (.int .i64 0)]

/-- 'capnplaw16.CanoncheckMatchesReference': WHATEVER THE INPUT: true; the input reads as it did. -/
def canoncheckMatchesReferenceSpec : ChangeSpec := { name := "canoncheckMatchesReference", fn := fun _ => fun
  | [d1, d2] => { results := [.lit (.bool true)], args := [d1, d2] }
  | _ => none }
def canoncheckMatchesReferenceRow : OpenClaim := { program := "ytidglmocekghmaadoor", sum := "7a5860deb666a475ac89b27f050e75202414864f3bd8cffc9933a17c45e45e2d", func := "capnp/capnplaw16.CanoncheckMatchesReference", spec := "canoncheckMatchesReference", unfollowed := true, recurses := true, named := ["capnp/pointer.decoders", "capnp/listsize.bits"], apart := false, laid := [("capnp/pointer.decoders", laid_capnp_pointer_decoders), ("capnp/listsize.bits", laid_capnp_listsize_bits)] }
def CanoncheckMatchesReferenceSaid : Prop := canoncheckMatchesReferenceRow.holds Tryd.pinned (OpenSpec.ofChange canoncheckMatchesReferenceSpec)

/-- ITS FALSE NEIGHBOUR: 'it returns false'. Refute it at one input. -/
def canoncheckMatchesReferenceWrong : ChangeSpec := { name := "canoncheckMatchesReference", fn := fun _ => fun
  | [d1, d2] => { results := [.lit (.bool false)], args := [d1, d2] }
  | _ => none }
def CanoncheckMatchesReferenceWrongFalsely : Prop := canoncheckMatchesReferenceRow.holds Tryd.pinned (OpenSpec.ofChange canoncheckMatchesReferenceWrong)

/-- 'capnplaw16.CanoncheckAcceptsExactly': WHATEVER THE INPUT: true; the input reads as it did. -/
def canoncheckAcceptsExactlySpec : ChangeSpec := { name := "canoncheckAcceptsExactly", fn := fun _ => fun
  | [d1, d2] => { results := [.lit (.bool true)], args := [d1, d2] }
  | _ => none }
def canoncheckAcceptsExactlyRow : OpenClaim := { program := "ytidglmocekghmaadoor", sum := "7a5860deb666a475ac89b27f050e75202414864f3bd8cffc9933a17c45e45e2d", func := "capnp/capnplaw16.CanoncheckAcceptsExactly", spec := "canoncheckAcceptsExactly", unfollowed := true, recurses := true, named := ["capnp/pointer.decoders", "capnp/listsize.bits"], apart := false, laid := [("capnp/pointer.decoders", laid_capnp_pointer_decoders), ("capnp/listsize.bits", laid_capnp_listsize_bits)] }
def CanoncheckAcceptsExactlySaid : Prop := canoncheckAcceptsExactlyRow.holds Tryd.pinned (OpenSpec.ofChange canoncheckAcceptsExactlySpec)

/-- ITS FALSE NEIGHBOUR: 'it returns false'. Refute it at one input. -/
def canoncheckAcceptsExactlyWrong : ChangeSpec := { name := "canoncheckAcceptsExactly", fn := fun _ => fun
  | [d1, d2] => { results := [.lit (.bool false)], args := [d1, d2] }
  | _ => none }
def CanoncheckAcceptsExactlyWrongFalsely : Prop := canoncheckAcceptsExactlyRow.holds Tryd.pinned (OpenSpec.ofChange canoncheckAcceptsExactlyWrong)

/-- 'capnplaw16.CanoncheckAcceptsCanonicalForms': WHATEVER THE INPUT: true; the input reads as it did. -/
def canoncheckAcceptsCanonicalFormsSpec : ChangeSpec := { name := "canoncheckAcceptsCanonicalForms", fn := fun _ => fun
  | [d1, d2, d3, d4] => { results := [.lit (.bool true)], args := [d1, d2, d3, d4] }
  | _ => none }
def canoncheckAcceptsCanonicalFormsRow : OpenClaim := { program := "ytidglmocekghmaadoor", sum := "7a5860deb666a475ac89b27f050e75202414864f3bd8cffc9933a17c45e45e2d", func := "capnp/capnplaw16.CanoncheckAcceptsCanonicalForms", spec := "canoncheckAcceptsCanonicalForms", unfollowed := true, recurses := true, named := ["capnp/pointer.decoders", "capnp/listsize.bits"], apart := false, laid := [("capnp/pointer.decoders", laid_capnp_pointer_decoders), ("capnp/listsize.bits", laid_capnp_listsize_bits)] }
def CanoncheckAcceptsCanonicalFormsSaid : Prop := canoncheckAcceptsCanonicalFormsRow.holds Tryd.pinned (OpenSpec.ofChange canoncheckAcceptsCanonicalFormsSpec)

/-- ITS FALSE NEIGHBOUR: 'it returns false'. Refute it at one input. -/
def canoncheckAcceptsCanonicalFormsWrong : ChangeSpec := { name := "canoncheckAcceptsCanonicalForms", fn := fun _ => fun
  | [d1, d2, d3, d4] => { results := [.lit (.bool false)], args := [d1, d2, d3, d4] }
  | _ => none }
def CanoncheckAcceptsCanonicalFormsWrongFalsely : Prop := canoncheckAcceptsCanonicalFormsRow.holds Tryd.pinned (OpenSpec.ofChange canoncheckAcceptsCanonicalFormsWrong)

/-- 'capnplaw16.CanoncheckLimits': WHATEVER THE INPUT: true; the input reads as it did. -/
def canoncheckLimitsSpec : ChangeSpec := { name := "canoncheckLimits", fn := fun _ => fun
  | [d1, d2, d3] => { results := [.lit (.bool true)], args := [d1, d2, d3] }
  | _ => none }
def canoncheckLimitsRow : OpenClaim := { program := "ytidglmocekghmaadoor", sum := "7a5860deb666a475ac89b27f050e75202414864f3bd8cffc9933a17c45e45e2d", func := "capnp/capnplaw16.CanoncheckLimits", spec := "canoncheckLimits", unfollowed := true, recurses := true, named := ["capnp/pointer.decoders", "capnp/listsize.bits"], loops := true, apart := false, laid := [("capnp/pointer.decoders", laid_capnp_pointer_decoders), ("capnp/listsize.bits", laid_capnp_listsize_bits)] }
def CanoncheckLimitsSaid : Prop := canoncheckLimitsRow.holds Tryd.pinned (OpenSpec.ofChange canoncheckLimitsSpec)

/-- ITS FALSE NEIGHBOUR: 'it returns false'. Refute it at one input. -/
def canoncheckLimitsWrong : ChangeSpec := { name := "canoncheckLimits", fn := fun _ => fun
  | [d1, d2, d3] => { results := [.lit (.bool false)], args := [d1, d2, d3] }
  | _ => none }
def CanoncheckLimitsWrongFalsely : Prop := canoncheckLimitsRow.holds Tryd.pinned (OpenSpec.ofChange canoncheckLimitsWrong)

/-- 'capnplaw16.CanoncheckEnds': WHATEVER THE INPUT: true; the input reads as it did. -/
def canoncheckEndsSpec : ChangeSpec := { name := "canoncheckEnds", fn := fun _ => fun
  | [d1, d2, d3, d4] => { results := [.lit (.bool true)], args := [d1, d2, d3, d4] }
  | _ => none }
def canoncheckEndsRow : OpenClaim := { program := "ytidglmocekghmaadoor", sum := "7a5860deb666a475ac89b27f050e75202414864f3bd8cffc9933a17c45e45e2d", func := "capnp/capnplaw16.CanoncheckEnds", spec := "canoncheckEnds", unfollowed := true, recurses := true, named := ["capnp/pointer.decoders", "capnp/listsize.bits"], apart := false, laid := [("capnp/pointer.decoders", laid_capnp_pointer_decoders), ("capnp/listsize.bits", laid_capnp_listsize_bits)] }
def CanoncheckEndsSaid : Prop := canoncheckEndsRow.holds Tryd.pinned (OpenSpec.ofChange canoncheckEndsSpec)

/-- ITS FALSE NEIGHBOUR: 'it returns false'. Refute it at one input. -/
def canoncheckEndsWrong : ChangeSpec := { name := "canoncheckEnds", fn := fun _ => fun
  | [d1, d2, d3, d4] => { results := [.lit (.bool false)], args := [d1, d2, d3, d4] }
  | _ => none }
def CanoncheckEndsWrongFalsely : Prop := canoncheckEndsRow.holds Tryd.pinned (OpenSpec.ofChange canoncheckEndsWrong)

/- THE SECOND FORM. 'bulk': how many values and letters a reading holds, each counted each time it is reached (what is shared counts as often as it is met; a slice's spare places count too). A statement '..UptoSaid' is the law's where the arguments, and the package variables that the reading takes, are together of bulk at most 1048576: NARROWER than '..Said'. Prove '..Said' where nothing that the law and all that it calls make is longer than what came in: it says more and counts as full. Else prove '..UptoSaid'. A law counts once. -/
mutual
def uptoBulk {H : Type} : DataW H → Nat
  | .lit (.string bytes) => bytes.length + 1
  | .lit _ => 1
  | .nil => 1
  | .ptr d => uptoBulk d + 1
  | .slice elems spare => uptoBulkAll elems + uptoBulkAll spare + 1
  | .agg parts => uptoBulkAll parts + 1
  | .iface _ d => uptoBulk d + 1
  | .map entries => uptoBulkEntries entries + 1
  | .held _ => 1
def uptoBulkAll {H : Type} : List (DataW H) → Nat
  | [] => 0
  | d :: r => uptoBulk d + uptoBulkAll r
def uptoBulkEntries {H : Type} : List (Lit × DataW H) → Nat
  | [] => 0
  | x :: r => uptoBulkEntry x + uptoBulkEntries r
def uptoBulkEntry {H : Type} : Lit × DataW H → Nat
  | (.string bytes, d) => bytes.length + uptoBulk d + 1
  | (_, d) => uptoBulk d + 1
 end
def uptoSmall : (H : Type) → List (DataW H) → Bool := fun _ ds => decide (uptoBulkAll ds ≤ 1048576)
def OpenSpec.upto (s : _root_.Go.ChangeSpec) : _root_.Go.OpenSpec := { _root_.Go.OpenSpec.ofChange s with cond := some uptoSmall }

/-- 'capnplaw16.CanoncheckMatchesReference', WHERE WHAT IT READS IS OF BULK AT MOST 1048576: true; the input reads as it did. -/
def canoncheckMatchesReferenceUptoRow : OpenClaim := { program := "ytidglmocekghmaadoor", sum := "7a5860deb666a475ac89b27f050e75202414864f3bd8cffc9933a17c45e45e2d", func := "capnp/capnplaw16.CanoncheckMatchesReference", spec := "canoncheckMatchesReference", unfollowed := true, recurses := true, named := ["capnp/pointer.decoders", "capnp/listsize.bits"], apart := false, laid := [("capnp/pointer.decoders", laid_capnp_pointer_decoders), ("capnp/listsize.bits", laid_capnp_listsize_bits)], narrowed := true }
def CanoncheckMatchesReferenceUptoSaid : Prop := canoncheckMatchesReferenceUptoRow.holds Tryd.pinned (OpenSpec.upto canoncheckMatchesReferenceSpec)

/-- 'capnplaw16.CanoncheckAcceptsExactly', WHERE WHAT IT READS IS OF BULK AT MOST 1048576: true; the input reads as it did. -/
def canoncheckAcceptsExactlyUptoRow : OpenClaim := { program := "ytidglmocekghmaadoor", sum := "7a5860deb666a475ac89b27f050e75202414864f3bd8cffc9933a17c45e45e2d", func := "capnp/capnplaw16.CanoncheckAcceptsExactly", spec := "canoncheckAcceptsExactly", unfollowed := true, recurses := true, named := ["capnp/pointer.decoders", "capnp/listsize.bits"], apart := false, laid := [("capnp/pointer.decoders", laid_capnp_pointer_decoders), ("capnp/listsize.bits", laid_capnp_listsize_bits)], narrowed := true }
def CanoncheckAcceptsExactlyUptoSaid : Prop := canoncheckAcceptsExactlyUptoRow.holds Tryd.pinned (OpenSpec.upto canoncheckAcceptsExactlySpec)

/-- 'capnplaw16.CanoncheckAcceptsCanonicalForms', WHERE WHAT IT READS IS OF BULK AT MOST 1048576: true; the input reads as it did. -/
def canoncheckAcceptsCanonicalFormsUptoRow : OpenClaim := { program := "ytidglmocekghmaadoor", sum := "7a5860deb666a475ac89b27f050e75202414864f3bd8cffc9933a17c45e45e2d", func := "capnp/capnplaw16.CanoncheckAcceptsCanonicalForms", spec := "canoncheckAcceptsCanonicalForms", unfollowed := true, recurses := true, named := ["capnp/pointer.decoders", "capnp/listsize.bits"], apart := false, laid := [("capnp/pointer.decoders", laid_capnp_pointer_decoders), ("capnp/listsize.bits", laid_capnp_listsize_bits)], narrowed := true }
def CanoncheckAcceptsCanonicalFormsUptoSaid : Prop := canoncheckAcceptsCanonicalFormsUptoRow.holds Tryd.pinned (OpenSpec.upto canoncheckAcceptsCanonicalFormsSpec)

/-- 'capnplaw16.CanoncheckLimits', WHERE WHAT IT READS IS OF BULK AT MOST 1048576: true; the input reads as it did. -/
def canoncheckLimitsUptoRow : OpenClaim := { program := "ytidglmocekghmaadoor", sum := "7a5860deb666a475ac89b27f050e75202414864f3bd8cffc9933a17c45e45e2d", func := "capnp/capnplaw16.CanoncheckLimits", spec := "canoncheckLimits", unfollowed := true, recurses := true, named := ["capnp/pointer.decoders", "capnp/listsize.bits"], loops := true, apart := false, laid := [("capnp/pointer.decoders", laid_capnp_pointer_decoders), ("capnp/listsize.bits", laid_capnp_listsize_bits)], narrowed := true }
def CanoncheckLimitsUptoSaid : Prop := canoncheckLimitsUptoRow.holds Tryd.pinned (OpenSpec.upto canoncheckLimitsSpec)

/-- 'capnplaw16.CanoncheckEnds', WHERE WHAT IT READS IS OF BULK AT MOST 1048576: true; the input reads as it did. -/
def canoncheckEndsUptoRow : OpenClaim := { program := "ytidglmocekghmaadoor", sum := "7a5860deb666a475ac89b27f050e75202414864f3bd8cffc9933a17c45e45e2d", func := "capnp/capnplaw16.CanoncheckEnds", spec := "canoncheckEnds", unfollowed := true, recurses := true, named := ["capnp/pointer.decoders", "capnp/listsize.bits"], apart := false, laid := [("capnp/pointer.decoders", laid_capnp_pointer_decoders), ("capnp/listsize.bits", laid_capnp_listsize_bits)], narrowed := true }
def CanoncheckEndsUptoSaid : Prop := canoncheckEndsUptoRow.holds Tryd.pinned (OpenSpec.upto canoncheckEndsSpec)

end Rows
end Go.Proofs.YtidglmocekghmaaDoor
