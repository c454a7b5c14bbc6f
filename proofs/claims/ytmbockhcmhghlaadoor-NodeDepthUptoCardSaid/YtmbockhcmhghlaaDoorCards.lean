/-
  DERIVED. GIVEN WITH THE SEED: THE CARDS: each row of YtmbockhcmhghlaaDoorRows.lean that lists a variable, with what it lists TIED to the program's text (the seventh form; the later family's looks); each row that meets fmt, with fmt's text TOLD by the authors' own Lean function (tested against real Go, not proved from fmt's source: count such statements apart). THE CARD IS WHAT COUNTS. Prove the row's statement (the work); the ties are given (YtmbockhcmhghlaaDoorTie.lean); close each card by the builder's one call (the guide's Derived/Test/ToyasCard.lean, 'card_holds'). Laid BY PROGRAM, IN A SANDBOX (cutbox-door.mjs). By AI agents, Wed Nov 11 2026. No macro, syntax, notation, axiom, sorry.
-/
import Derived.Test.YtmbockhcmhghlaaDoorRows
import GoSem.ClaimSeven
namespace Go.Proofs.YtmbockhcmhghlaaDoor
namespace Rows

/-- THE TIED CARD OF 'capnplaw10.NodeMatchesReference'. -/
def nodeMatchesReferenceCard : Claim7 := { stood := { row := nodeMatchesReferenceRow, standIns := [], harness := (true, "a8b8bfb88d247c30cebd02e186554ed94160245f1975fba7648324731ce3e5b6"), looks := false }, kinds := [], alts := [], laidByText := true, laidKinds := [.data], laidTests := true, laidLooks := .later }
def NodeMatchesReferenceCardSaid : Prop := Claim7.holds Tryd.pinned (.plain (OpenSpec.ofChange nodeMatchesReferenceSpec)) nodeMatchesReferenceCard

/-- THE TIED CARD OF 'capnplaw10.NodeEqualityIsStructural'. -/
def nodeEqualityIsStructuralCard : Claim7 := { stood := { row := nodeEqualityIsStructuralRow, standIns := [], harness := (true, "a8b8bfb88d247c30cebd02e186554ed94160245f1975fba7648324731ce3e5b6"), looks := false }, kinds := [], alts := [], laidByText := true, laidKinds := [.data], laidTests := true, laidLooks := .later }
def NodeEqualityIsStructuralCardSaid : Prop := Claim7.holds Tryd.pinned (.plain (OpenSpec.ofChange nodeEqualityIsStructuralSpec)) nodeEqualityIsStructuralCard

/-- THE TIED CARD OF 'capnplaw10.NodeDepth'. -/
def nodeDepthCard : Claim7 := { stood := { row := nodeDepthRow, standIns := [], harness := (true, "a8b8bfb88d247c30cebd02e186554ed94160245f1975fba7648324731ce3e5b6"), looks := false }, kinds := [], alts := [], laidByText := true, laidKinds := [.data], laidTests := true, laidLooks := .later }
def NodeDepthCardSaid : Prop := Claim7.holds Tryd.pinned (.plain (OpenSpec.ofChange nodeDepthSpec)) nodeDepthCard

/-- THE TIED CARD OF 'capnplaw10.NodeValidity'. -/
def nodeValidityCard : Claim7 := { stood := { row := nodeValidityRow, standIns := [], harness := (true, "a8b8bfb88d247c30cebd02e186554ed94160245f1975fba7648324731ce3e5b6"), looks := false }, kinds := [], alts := [], laidByText := true, laidKinds := [.data], laidTests := true, laidLooks := .later }
def NodeValidityCardSaid : Prop := Claim7.holds Tryd.pinned (.plain (OpenSpec.ofChange nodeValiditySpec)) nodeValidityCard

/-- THE TIED CARD OF 'capnplaw10.NodeCopies'. -/
def nodeCopiesCard : Claim7 := { stood := { row := nodeCopiesRow, standIns := [], harness := (true, "a8b8bfb88d247c30cebd02e186554ed94160245f1975fba7648324731ce3e5b6"), looks := false }, kinds := [], alts := [], laidByText := true, laidKinds := [.data], laidTests := true, laidLooks := .later }
def NodeCopiesCardSaid : Prop := Claim7.holds Tryd.pinned (.plain (OpenSpec.ofChange nodeCopiesSpec)) nodeCopiesCard

/-- THE SECOND FORM's CARD OF 'capnplaw10.NodeMatchesReference'. -/
def nodeMatchesReferenceUptoCard : Claim7 := { stood := { row := nodeMatchesReferenceUptoRow, standIns := [], harness := (true, "a8b8bfb88d247c30cebd02e186554ed94160245f1975fba7648324731ce3e5b6"), looks := false }, kinds := [], alts := [], laidByText := true, laidKinds := [.data], laidTests := true, laidLooks := .later }
def NodeMatchesReferenceUptoCardSaid : Prop := Claim7.holds Tryd.pinned (.plain (OpenSpec.upto nodeMatchesReferenceSpec)) nodeMatchesReferenceUptoCard

/-- THE SECOND FORM's CARD OF 'capnplaw10.NodeEqualityIsStructural'. -/
def nodeEqualityIsStructuralUptoCard : Claim7 := { stood := { row := nodeEqualityIsStructuralUptoRow, standIns := [], harness := (true, "a8b8bfb88d247c30cebd02e186554ed94160245f1975fba7648324731ce3e5b6"), looks := false }, kinds := [], alts := [], laidByText := true, laidKinds := [.data], laidTests := true, laidLooks := .later }
def NodeEqualityIsStructuralUptoCardSaid : Prop := Claim7.holds Tryd.pinned (.plain (OpenSpec.upto nodeEqualityIsStructuralSpec)) nodeEqualityIsStructuralUptoCard

/-- THE SECOND FORM's CARD OF 'capnplaw10.NodeDepth'. -/
def nodeDepthUptoCard : Claim7 := { stood := { row := nodeDepthUptoRow, standIns := [], harness := (true, "a8b8bfb88d247c30cebd02e186554ed94160245f1975fba7648324731ce3e5b6"), looks := false }, kinds := [], alts := [], laidByText := true, laidKinds := [.data], laidTests := true, laidLooks := .later }
def NodeDepthUptoCardSaid : Prop := Claim7.holds Tryd.pinned (.plain (OpenSpec.upto nodeDepthSpec)) nodeDepthUptoCard

/-- THE SECOND FORM's CARD OF 'capnplaw10.NodeValidity'. -/
def nodeValidityUptoCard : Claim7 := { stood := { row := nodeValidityUptoRow, standIns := [], harness := (true, "a8b8bfb88d247c30cebd02e186554ed94160245f1975fba7648324731ce3e5b6"), looks := false }, kinds := [], alts := [], laidByText := true, laidKinds := [.data], laidTests := true, laidLooks := .later }
def NodeValidityUptoCardSaid : Prop := Claim7.holds Tryd.pinned (.plain (OpenSpec.upto nodeValiditySpec)) nodeValidityUptoCard

/-- THE SECOND FORM's CARD OF 'capnplaw10.NodeCopies'. -/
def nodeCopiesUptoCard : Claim7 := { stood := { row := nodeCopiesUptoRow, standIns := [], harness := (true, "a8b8bfb88d247c30cebd02e186554ed94160245f1975fba7648324731ce3e5b6"), looks := false }, kinds := [], alts := [], laidByText := true, laidKinds := [.data], laidTests := true, laidLooks := .later }
def NodeCopiesUptoCardSaid : Prop := Claim7.holds Tryd.pinned (.plain (OpenSpec.upto nodeCopiesSpec)) nodeCopiesUptoCard
end Rows
end Go.Proofs.YtmbockhcmhghlaaDoor
