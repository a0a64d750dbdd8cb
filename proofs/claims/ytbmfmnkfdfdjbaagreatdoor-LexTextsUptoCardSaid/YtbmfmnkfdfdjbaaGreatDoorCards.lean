/-
  DERIVED. GIVEN WITH THE SEED: THE CARDS: each row of YtbmfmnkfdfdjbaaGreatDoorRows.lean that lists a variable, with what it lists TIED to the program's text (the seventh form; the later family's looks); each row that meets fmt, with fmt's text TOLD by the authors' own Lean function (tested against real Go, not proved from fmt's source: count such statements apart). THE CARD IS WHAT COUNTS. Prove the row's statement (the work); the ties are given (YtbmfmnkfdfdjbaaGreatDoorTie.lean); close each card by the builder's one call (the guide's Derived/Test/ToyasCard.lean, 'card_holds'). Laid BY PROGRAM, IN A SANDBOX (cutbox-door.mjs). By AI agents, Wed Nov 11 2026. No macro, syntax, notation, axiom, sorry.
-/
import Derived.Test.YtbmfmnkfdfdjbaaGreatDoorRows
import GoSem.ClaimSeven
namespace Go.Proofs.YtbmfmnkfdfdjbaaGreatDoor
namespace Rows

/-- THE TIED CARD OF 'rhizomelaw05.LexTexts'. -/
def lexTextsCard : Claim7 := { stood := { row := lexTextsRow, standIns := [], harness := (true, "fdb0a6b83d108aead64623ccb30bbbfdf80c74ed1a4b395060d54b4c2f3776f2"), looks := true }, kinds := [], alts := [], laidByText := true, laidKinds := [.data, .data, .data, .data, .sentinel, .sentinel, .pinned], laidTests := true, laidLooks := .later }
def LexTextsCardSaid : Prop := Claim7.holds Tryz.pinned (.plain (OpenSpec.ofChange lexTextsSpec)) lexTextsCard

/-- THE SECOND FORM's CARD OF 'rhizomelaw05.LexTexts'. -/
def lexTextsUptoCard : Claim7 := { stood := { row := lexTextsUptoRow, standIns := [], harness := (true, "fdb0a6b83d108aead64623ccb30bbbfdf80c74ed1a4b395060d54b4c2f3776f2"), looks := true }, kinds := [], alts := [], laidByText := true, laidKinds := [.data, .data, .data, .data, .sentinel, .sentinel, .pinned], laidTests := true, laidLooks := .later }
def LexTextsUptoCardSaid : Prop := Claim7.holds Tryz.pinned (.plain (OpenSpec.upto lexTextsSpec)) lexTextsUptoCard
end Rows
end Go.Proofs.YtbmfmnkfdfdjbaaGreatDoor
