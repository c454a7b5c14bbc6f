/-
  DERIVED. GIVEN WITH THE SEED: THE CARDS: each row of YtidglmocekghmaaDoorRows.lean that lists a variable, with what it lists TIED to the program's text (the seventh form; the later family's looks); each row that meets fmt, with fmt's text TOLD by the authors' own Lean function (tested against real Go, not proved from fmt's source: count such statements apart). THE CARD IS WHAT COUNTS. Prove the row's statement (the work); the ties are given (YtidglmocekghmaaDoorTie.lean); close each card by the builder's one call (the guide's Derived/Test/ToyasCard.lean, 'card_holds'). Laid BY PROGRAM, IN A SANDBOX (cutbox-door.mjs). By AI agents, Wed Nov 11 2026. No macro, syntax, notation, axiom, sorry.
-/
import Derived.Test.YtidglmocekghmaaDoorRows
import GoSem.ClaimSeven
namespace Go.Proofs.YtidglmocekghmaaDoor
namespace Rows

/-- THE TIED CARD OF 'capnplaw16.CanoncheckMatchesReference'. -/
def canoncheckMatchesReferenceCard : Claim7 := { stood := { row := canoncheckMatchesReferenceRow, standIns := [], harness := (true, "52764c0f2601cbf2628ccb7bf55330544174536884b013e51559f5041c98894d"), looks := true }, kinds := [], alts := [], laidByText := true, laidKinds := [.funcs, .data], laidTests := true, laidLooks := .later }
def CanoncheckMatchesReferenceCardSaid : Prop := Claim7.holds Tryd.pinned (.plain (OpenSpec.ofChange canoncheckMatchesReferenceSpec)) canoncheckMatchesReferenceCard

/-- THE TIED CARD OF 'capnplaw16.CanoncheckAcceptsExactly'. -/
def canoncheckAcceptsExactlyCard : Claim7 := { stood := { row := canoncheckAcceptsExactlyRow, standIns := [], harness := (true, "52764c0f2601cbf2628ccb7bf55330544174536884b013e51559f5041c98894d"), looks := true }, kinds := [], alts := [], laidByText := true, laidKinds := [.funcs, .data], laidTests := true, laidLooks := .later }
def CanoncheckAcceptsExactlyCardSaid : Prop := Claim7.holds Tryd.pinned (.plain (OpenSpec.ofChange canoncheckAcceptsExactlySpec)) canoncheckAcceptsExactlyCard

/-- THE TIED CARD OF 'capnplaw16.CanoncheckAcceptsCanonicalForms'. -/
def canoncheckAcceptsCanonicalFormsCard : Claim7 := { stood := { row := canoncheckAcceptsCanonicalFormsRow, standIns := [], harness := (true, "52764c0f2601cbf2628ccb7bf55330544174536884b013e51559f5041c98894d"), looks := true }, kinds := [], alts := [], laidByText := true, laidKinds := [.funcs, .data], laidTests := true, laidLooks := .later }
def CanoncheckAcceptsCanonicalFormsCardSaid : Prop := Claim7.holds Tryd.pinned (.plain (OpenSpec.ofChange canoncheckAcceptsCanonicalFormsSpec)) canoncheckAcceptsCanonicalFormsCard

/-- THE TIED CARD OF 'capnplaw16.CanoncheckLimits'. -/
def canoncheckLimitsCard : Claim7 := { stood := { row := canoncheckLimitsRow, standIns := [], harness := (true, "52764c0f2601cbf2628ccb7bf55330544174536884b013e51559f5041c98894d"), looks := true }, kinds := [], alts := [], laidByText := true, laidKinds := [.funcs, .data], laidTests := true, laidLooks := .later }
def CanoncheckLimitsCardSaid : Prop := Claim7.holds Tryd.pinned (.plain (OpenSpec.ofChange canoncheckLimitsSpec)) canoncheckLimitsCard

/-- THE TIED CARD OF 'capnplaw16.CanoncheckEnds'. -/
def canoncheckEndsCard : Claim7 := { stood := { row := canoncheckEndsRow, standIns := [], harness := (true, "52764c0f2601cbf2628ccb7bf55330544174536884b013e51559f5041c98894d"), looks := true }, kinds := [], alts := [], laidByText := true, laidKinds := [.funcs, .data], laidTests := true, laidLooks := .later }
def CanoncheckEndsCardSaid : Prop := Claim7.holds Tryd.pinned (.plain (OpenSpec.ofChange canoncheckEndsSpec)) canoncheckEndsCard

/-- THE SECOND FORM's CARD OF 'capnplaw16.CanoncheckMatchesReference'. -/
def canoncheckMatchesReferenceUptoCard : Claim7 := { stood := { row := canoncheckMatchesReferenceUptoRow, standIns := [], harness := (true, "52764c0f2601cbf2628ccb7bf55330544174536884b013e51559f5041c98894d"), looks := true }, kinds := [], alts := [], laidByText := true, laidKinds := [.funcs, .data], laidTests := true, laidLooks := .later }
def CanoncheckMatchesReferenceUptoCardSaid : Prop := Claim7.holds Tryd.pinned (.plain (OpenSpec.upto canoncheckMatchesReferenceSpec)) canoncheckMatchesReferenceUptoCard

/-- THE SECOND FORM's CARD OF 'capnplaw16.CanoncheckAcceptsExactly'. -/
def canoncheckAcceptsExactlyUptoCard : Claim7 := { stood := { row := canoncheckAcceptsExactlyUptoRow, standIns := [], harness := (true, "52764c0f2601cbf2628ccb7bf55330544174536884b013e51559f5041c98894d"), looks := true }, kinds := [], alts := [], laidByText := true, laidKinds := [.funcs, .data], laidTests := true, laidLooks := .later }
def CanoncheckAcceptsExactlyUptoCardSaid : Prop := Claim7.holds Tryd.pinned (.plain (OpenSpec.upto canoncheckAcceptsExactlySpec)) canoncheckAcceptsExactlyUptoCard

/-- THE SECOND FORM's CARD OF 'capnplaw16.CanoncheckAcceptsCanonicalForms'. -/
def canoncheckAcceptsCanonicalFormsUptoCard : Claim7 := { stood := { row := canoncheckAcceptsCanonicalFormsUptoRow, standIns := [], harness := (true, "52764c0f2601cbf2628ccb7bf55330544174536884b013e51559f5041c98894d"), looks := true }, kinds := [], alts := [], laidByText := true, laidKinds := [.funcs, .data], laidTests := true, laidLooks := .later }
def CanoncheckAcceptsCanonicalFormsUptoCardSaid : Prop := Claim7.holds Tryd.pinned (.plain (OpenSpec.upto canoncheckAcceptsCanonicalFormsSpec)) canoncheckAcceptsCanonicalFormsUptoCard

/-- THE SECOND FORM's CARD OF 'capnplaw16.CanoncheckLimits'. -/
def canoncheckLimitsUptoCard : Claim7 := { stood := { row := canoncheckLimitsUptoRow, standIns := [], harness := (true, "52764c0f2601cbf2628ccb7bf55330544174536884b013e51559f5041c98894d"), looks := true }, kinds := [], alts := [], laidByText := true, laidKinds := [.funcs, .data], laidTests := true, laidLooks := .later }
def CanoncheckLimitsUptoCardSaid : Prop := Claim7.holds Tryd.pinned (.plain (OpenSpec.upto canoncheckLimitsSpec)) canoncheckLimitsUptoCard

/-- THE SECOND FORM's CARD OF 'capnplaw16.CanoncheckEnds'. -/
def canoncheckEndsUptoCard : Claim7 := { stood := { row := canoncheckEndsUptoRow, standIns := [], harness := (true, "52764c0f2601cbf2628ccb7bf55330544174536884b013e51559f5041c98894d"), looks := true }, kinds := [], alts := [], laidByText := true, laidKinds := [.funcs, .data], laidTests := true, laidLooks := .later }
def CanoncheckEndsUptoCardSaid : Prop := Claim7.holds Tryd.pinned (.plain (OpenSpec.upto canoncheckEndsSpec)) canoncheckEndsUptoCard
end Rows
end Go.Proofs.YtidglmocekghmaaDoor
