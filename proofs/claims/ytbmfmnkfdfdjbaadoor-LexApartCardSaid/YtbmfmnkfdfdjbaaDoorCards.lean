/-
  DERIVED. GIVEN WITH THE SEED: THE CARDS: each row of YtbmfmnkfdfdjbaaDoorRows.lean that lists a variable, with what it lists TIED to the program's text (the seventh form; the later family's looks); each row that meets fmt, with fmt's text TOLD by the authors' own Lean function (tested against real Go, not proved from fmt's source: count such statements apart). THE CARD IS WHAT COUNTS. Prove the row's statement (the work); the ties are given (YtbmfmnkfdfdjbaaDoorTie.lean); close each card by the builder's one call (the guide's Derived/Test/ToyasCard.lean, 'card_holds'). Laid BY PROGRAM, IN A SANDBOX (cutbox-door.mjs). By AI agents, Wed Nov 11 2026. No macro, syntax, notation, axiom, sorry.
-/
import Derived.Test.YtbmfmnkfdfdjbaaDoorRows
import GoSem.ClaimSeven
namespace Go.Proofs.YtbmfmnkfdfdjbaaDoor
namespace Rows

/-- THE TIED CARD OF 'rhizomelaw05.LexQuotes'. -/
def lexQuotesCard : Claim7 := { stood := { row := lexQuotesRow, standIns := [], harness := (true, "5ea9b41e56193d7a5fa186c44875205ed3277c78ee8d7ca4e1ad3b6a5db2f00d"), looks := true }, kinds := [], alts := [], laidByText := true, laidKinds := [.data, .data, .data, .data, .sentinel, .sentinel, .pinned], laidTests := true, laidLooks := .later }
def LexQuotesCardSaid : Prop := Claim7.holds Tryd.pinned (.plain (OpenSpec.ofChange lexQuotesSpec)) lexQuotesCard

/-- THE TIED CARD OF 'rhizomelaw05.LexApart'. -/
def lexApartCard : Claim7 := { stood := { row := lexApartRow, standIns := [], harness := (true, "5ea9b41e56193d7a5fa186c44875205ed3277c78ee8d7ca4e1ad3b6a5db2f00d"), looks := true }, kinds := [], alts := [], laidByText := true, laidKinds := [.data, .data, .data, .data, .sentinel, .sentinel, .pinned], laidTests := true, laidLooks := .later }
def LexApartCardSaid : Prop := Claim7.holds Tryd.pinned (.plain (OpenSpec.ofChange lexApartSpec)) lexApartCard

/-- THE TIED CARD OF 'rhizomelaw05.LexIgnores'. -/
def lexIgnoresCard : Claim7 := { stood := { row := lexIgnoresRow, standIns := [], harness := (true, "5ea9b41e56193d7a5fa186c44875205ed3277c78ee8d7ca4e1ad3b6a5db2f00d"), looks := true }, kinds := [], alts := [], laidByText := true, laidKinds := [.data, .data, .data, .data, .sentinel, .sentinel, .pinned], laidTests := true, laidLooks := .later }
def LexIgnoresCardSaid : Prop := Claim7.holds Tryd.pinned (.plain (OpenSpec.ofChange lexIgnoresSpec)) lexIgnoresCard

/-- THE TIED CARD OF 'rhizomelaw05.LexEnds'. -/
def lexEndsCard : Claim7 := { stood := { row := lexEndsRow, standIns := [], harness := (true, "5ea9b41e56193d7a5fa186c44875205ed3277c78ee8d7ca4e1ad3b6a5db2f00d"), looks := true }, kinds := [], alts := [], laidByText := true, laidKinds := [.data, .data, .data, .data, .sentinel, .sentinel, .pinned], laidTests := true, laidLooks := .later }
def LexEndsCardSaid : Prop := Claim7.holds Tryd.pinned (.plain (OpenSpec.ofChange lexEndsSpec)) lexEndsCard

/-- THE TIED CARD OF 'rhizomelaw05.LexEscapes'. -/
def lexEscapesCard : Claim7 := { stood := { row := lexEscapesRow, standIns := [], harness := (true, "5ea9b41e56193d7a5fa186c44875205ed3277c78ee8d7ca4e1ad3b6a5db2f00d"), looks := true }, kinds := [], alts := [], laidByText := true, laidKinds := [.data, .data, .data, .data, .sentinel, .sentinel, .pinned], laidTests := true, laidLooks := .later }
def LexEscapesCardSaid : Prop := Claim7.holds Tryd.pinned (.plain (OpenSpec.ofChange lexEscapesSpec)) lexEscapesCard

/-- THE SECOND FORM's CARD OF 'rhizomelaw05.LexQuotes'. -/
def lexQuotesUptoCard : Claim7 := { stood := { row := lexQuotesUptoRow, standIns := [], harness := (true, "5ea9b41e56193d7a5fa186c44875205ed3277c78ee8d7ca4e1ad3b6a5db2f00d"), looks := true }, kinds := [], alts := [], laidByText := true, laidKinds := [.data, .data, .data, .data, .sentinel, .sentinel, .pinned], laidTests := true, laidLooks := .later }
def LexQuotesUptoCardSaid : Prop := Claim7.holds Tryd.pinned (.plain (OpenSpec.upto lexQuotesSpec)) lexQuotesUptoCard

/-- THE SECOND FORM's CARD OF 'rhizomelaw05.LexApart'. -/
def lexApartUptoCard : Claim7 := { stood := { row := lexApartUptoRow, standIns := [], harness := (true, "5ea9b41e56193d7a5fa186c44875205ed3277c78ee8d7ca4e1ad3b6a5db2f00d"), looks := true }, kinds := [], alts := [], laidByText := true, laidKinds := [.data, .data, .data, .data, .sentinel, .sentinel, .pinned], laidTests := true, laidLooks := .later }
def LexApartUptoCardSaid : Prop := Claim7.holds Tryd.pinned (.plain (OpenSpec.upto lexApartSpec)) lexApartUptoCard

/-- THE SECOND FORM's CARD OF 'rhizomelaw05.LexIgnores'. -/
def lexIgnoresUptoCard : Claim7 := { stood := { row := lexIgnoresUptoRow, standIns := [], harness := (true, "5ea9b41e56193d7a5fa186c44875205ed3277c78ee8d7ca4e1ad3b6a5db2f00d"), looks := true }, kinds := [], alts := [], laidByText := true, laidKinds := [.data, .data, .data, .data, .sentinel, .sentinel, .pinned], laidTests := true, laidLooks := .later }
def LexIgnoresUptoCardSaid : Prop := Claim7.holds Tryd.pinned (.plain (OpenSpec.upto lexIgnoresSpec)) lexIgnoresUptoCard

/-- THE SECOND FORM's CARD OF 'rhizomelaw05.LexEnds'. -/
def lexEndsUptoCard : Claim7 := { stood := { row := lexEndsUptoRow, standIns := [], harness := (true, "5ea9b41e56193d7a5fa186c44875205ed3277c78ee8d7ca4e1ad3b6a5db2f00d"), looks := true }, kinds := [], alts := [], laidByText := true, laidKinds := [.data, .data, .data, .data, .sentinel, .sentinel, .pinned], laidTests := true, laidLooks := .later }
def LexEndsUptoCardSaid : Prop := Claim7.holds Tryd.pinned (.plain (OpenSpec.upto lexEndsSpec)) lexEndsUptoCard

/-- THE SECOND FORM's CARD OF 'rhizomelaw05.LexEscapes'. -/
def lexEscapesUptoCard : Claim7 := { stood := { row := lexEscapesUptoRow, standIns := [], harness := (true, "5ea9b41e56193d7a5fa186c44875205ed3277c78ee8d7ca4e1ad3b6a5db2f00d"), looks := true }, kinds := [], alts := [], laidByText := true, laidKinds := [.data, .data, .data, .data, .sentinel, .sentinel, .pinned], laidTests := true, laidLooks := .later }
def LexEscapesUptoCardSaid : Prop := Claim7.holds Tryd.pinned (.plain (OpenSpec.upto lexEscapesSpec)) lexEscapesUptoCard
end Rows
end Go.Proofs.YtbmfmnkfdfdjbaaDoor
