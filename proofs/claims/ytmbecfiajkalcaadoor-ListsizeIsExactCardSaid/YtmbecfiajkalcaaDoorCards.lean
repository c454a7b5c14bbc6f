/-
  DERIVED. GIVEN WITH THE SEED: THE CARDS: each row of YtmbecfiajkalcaaDoorRows.lean that lists a variable, with what it lists TIED to the program's text (the seventh form; the later family's looks); each row that meets fmt, with fmt's text TOLD by the authors' own Lean function (tested against real Go, not proved from fmt's source: count such statements apart). THE CARD IS WHAT COUNTS. Prove the row's statement (the work); the ties are given (YtmbecfiajkalcaaDoorTie.lean); close each card by the builder's one call (the guide's Derived/Test/ToyasCard.lean, 'card_holds'). Laid BY PROGRAM, IN A SANDBOX (cutbox-door.mjs). By AI agents, Wed Nov 11 2026. No macro, syntax, notation, axiom, sorry.
-/
import Derived.Test.YtmbecfiajkalcaaDoorRows
import GoSem.ClaimSeven
namespace Go.Proofs.YtmbecfiajkalcaaDoor
namespace Rows

/-- THE TIED CARD OF 'capnplaw06.ListsizeMatchesReference'. -/
def listsizeMatchesReferenceCard : Claim7 := { stood := { row := listsizeMatchesReferenceRow, standIns := [], harness := (true, "9243c81079bd46945c811871aeebf34440f7994d5f57b200a24ffe1a4d23dd41"), looks := false }, kinds := [], alts := [], laidByText := true, laidKinds := [.data], laidTests := true, laidLooks := .later }
def ListsizeMatchesReferenceCardSaid : Prop := Claim7.holds Tryd.pinned (.plain (OpenSpec.ofChange listsizeMatchesReferenceSpec)) listsizeMatchesReferenceCard

/-- THE TIED CARD OF 'capnplaw06.ListsizeIsExact'. -/
def listsizeIsExactCard : Claim7 := { stood := { row := listsizeIsExactRow, standIns := [], harness := (true, "9243c81079bd46945c811871aeebf34440f7994d5f57b200a24ffe1a4d23dd41"), looks := false }, kinds := [], alts := [], laidByText := true, laidKinds := [.data], laidTests := true, laidLooks := .later }
def ListsizeIsExactCardSaid : Prop := Claim7.holds Tryd.pinned (.plain (OpenSpec.ofChange listsizeIsExactSpec)) listsizeIsExactCard

/-- THE TIED CARD OF 'capnplaw06.ListsizeGrows'. -/
def listsizeGrowsCard : Claim7 := { stood := { row := listsizeGrowsRow, standIns := [], harness := (true, "9243c81079bd46945c811871aeebf34440f7994d5f57b200a24ffe1a4d23dd41"), looks := false }, kinds := [], alts := [], laidByText := true, laidKinds := [.data], laidTests := true, laidLooks := .later }
def ListsizeGrowsCardSaid : Prop := Claim7.holds Tryd.pinned (.plain (OpenSpec.ofChange listsizeGrowsSpec)) listsizeGrowsCard

/-- THE TIED CARD OF 'capnplaw06.ListsizeTrims'. -/
def listsizeTrimsCard : Claim7 := { stood := { row := listsizeTrimsRow, standIns := [], harness := (true, "9243c81079bd46945c811871aeebf34440f7994d5f57b200a24ffe1a4d23dd41"), looks := false }, kinds := [], alts := [], laidByText := true, laidKinds := [.data], laidTests := true, laidLooks := .later }
def ListsizeTrimsCardSaid : Prop := Claim7.holds Tryd.pinned (.plain (OpenSpec.ofChange listsizeTrimsSpec)) listsizeTrimsCard

/-- THE SECOND FORM's CARD OF 'capnplaw06.ListsizeMatchesReference'. -/
def listsizeMatchesReferenceUptoCard : Claim7 := { stood := { row := listsizeMatchesReferenceUptoRow, standIns := [], harness := (true, "9243c81079bd46945c811871aeebf34440f7994d5f57b200a24ffe1a4d23dd41"), looks := false }, kinds := [], alts := [], laidByText := true, laidKinds := [.data], laidTests := true, laidLooks := .later }
def ListsizeMatchesReferenceUptoCardSaid : Prop := Claim7.holds Tryd.pinned (.plain (OpenSpec.upto listsizeMatchesReferenceSpec)) listsizeMatchesReferenceUptoCard

/-- THE SECOND FORM's CARD OF 'capnplaw06.ListsizeIsExact'. -/
def listsizeIsExactUptoCard : Claim7 := { stood := { row := listsizeIsExactUptoRow, standIns := [], harness := (true, "9243c81079bd46945c811871aeebf34440f7994d5f57b200a24ffe1a4d23dd41"), looks := false }, kinds := [], alts := [], laidByText := true, laidKinds := [.data], laidTests := true, laidLooks := .later }
def ListsizeIsExactUptoCardSaid : Prop := Claim7.holds Tryd.pinned (.plain (OpenSpec.upto listsizeIsExactSpec)) listsizeIsExactUptoCard

/-- THE SECOND FORM's CARD OF 'capnplaw06.ListsizeGrows'. -/
def listsizeGrowsUptoCard : Claim7 := { stood := { row := listsizeGrowsUptoRow, standIns := [], harness := (true, "9243c81079bd46945c811871aeebf34440f7994d5f57b200a24ffe1a4d23dd41"), looks := false }, kinds := [], alts := [], laidByText := true, laidKinds := [.data], laidTests := true, laidLooks := .later }
def ListsizeGrowsUptoCardSaid : Prop := Claim7.holds Tryd.pinned (.plain (OpenSpec.upto listsizeGrowsSpec)) listsizeGrowsUptoCard

/-- THE SECOND FORM's CARD OF 'capnplaw06.ListsizeTrims'. -/
def listsizeTrimsUptoCard : Claim7 := { stood := { row := listsizeTrimsUptoRow, standIns := [], harness := (true, "9243c81079bd46945c811871aeebf34440f7994d5f57b200a24ffe1a4d23dd41"), looks := false }, kinds := [], alts := [], laidByText := true, laidKinds := [.data], laidTests := true, laidLooks := .later }
def ListsizeTrimsUptoCardSaid : Prop := Claim7.holds Tryd.pinned (.plain (OpenSpec.upto listsizeTrimsSpec)) listsizeTrimsUptoCard
end Rows
end Go.Proofs.YtmbecfiajkalcaaDoor
