/-
  DERIVED. GIVEN WITH THE SEED: THE CARDS: each row of YtpimfioeeipnhaaDoorRows.lean that lists a variable, with what it lists TIED to the program's text (the seventh form; the later family's looks); each row that meets fmt, with fmt's text TOLD by the authors' own Lean function (tested against real Go, not proved from fmt's source: count such statements apart). THE CARD IS WHAT COUNTS. Prove the row's statement (the work); the ties are given (YtpimfioeeipnhaaDoorTie.lean); close each card by the builder's one call (the guide's Derived/Test/ToyasCard.lean, 'card_holds'). Laid BY PROGRAM, IN A SANDBOX (cutbox-door.mjs). By AI agents, Wed Nov 11 2026. No macro, syntax, notation, axiom, sorry.
-/
import Derived.Test.YtpimfioeeipnhaaDoorRows
import GoSem.ClaimSeven
namespace Go.Proofs.YtpimfioeeipnhaaDoor
namespace Rows

/-- THE TIED CARD OF 'rhizomelaw03.KeysLays'. -/
def keysLaysCard : Claim7 := { stood := { row := keysLaysRow, standIns := [], harness := (true, "d53f9040fcfb23607ebd1b6969744afb0b5f207c4365e6500053c53738f8e2a0"), looks := false }, kinds := [], alts := [], laidByText := true, laidKinds := [.data, .pinned], laidTests := true, laidLooks := .later }
def KeysLaysCardSaid : Prop := Claim7.holds Tryd.pinned (.plain (OpenSpec.ofChange keysLaysSpec)) keysLaysCard

/-- THE TIED CARD OF 'rhizomelaw03.KeysReads'. -/
def keysReadsCard : Claim7 := { stood := { row := keysReadsRow, standIns := [], harness := (true, "d53f9040fcfb23607ebd1b6969744afb0b5f207c4365e6500053c53738f8e2a0"), looks := false }, kinds := [], alts := [], laidByText := true, laidKinds := [.data, .pinned], laidTests := true, laidLooks := .later }
def KeysReadsCardSaid : Prop := Claim7.holds Tryd.pinned (.plain (OpenSpec.ofChange keysReadsSpec)) keysReadsCard

/-- THE TIED CARD OF 'rhizomelaw03.KeysCmps'. -/
def keysCmpsCard : Claim7 := { stood := { row := keysCmpsRow, standIns := [], harness := (true, "d53f9040fcfb23607ebd1b6969744afb0b5f207c4365e6500053c53738f8e2a0"), looks := false }, kinds := [], alts := [], laidByText := true, laidKinds := [.data, .pinned], laidTests := true, laidLooks := .later }
def KeysCmpsCardSaid : Prop := Claim7.holds Tryd.pinned (.plain (OpenSpec.ofChange keysCmpsSpec)) keysCmpsCard

/-- THE TIED CARD OF 'rhizomelaw03.KeysOrder'. -/
def keysOrderCard : Claim7 := { stood := { row := keysOrderRow, standIns := [], harness := (true, "d53f9040fcfb23607ebd1b6969744afb0b5f207c4365e6500053c53738f8e2a0"), looks := false }, kinds := [], alts := [], laidByText := true, laidKinds := [.data, .pinned], laidTests := true, laidLooks := .later }
def KeysOrderCardSaid : Prop := Claim7.holds Tryd.pinned (.plain (OpenSpec.ofChange keysOrderSpec)) keysOrderCard

/-- THE TIED CARD OF 'rhizomelaw03.KeysBack'. -/
def keysBackCard : Claim7 := { stood := { row := keysBackRow, standIns := [], harness := (true, "d53f9040fcfb23607ebd1b6969744afb0b5f207c4365e6500053c53738f8e2a0"), looks := false }, kinds := [], alts := [], laidByText := true, laidKinds := [.data, .pinned], laidTests := true, laidLooks := .later }
def KeysBackCardSaid : Prop := Claim7.holds Tryd.pinned (.plain (OpenSpec.ofChange keysBackSpec)) keysBackCard

/-- THE TIED CARD OF 'rhizomelaw03.KeysJoin'. -/
def keysJoinCard : Claim7 := { stood := { row := keysJoinRow, standIns := [], harness := (true, "d53f9040fcfb23607ebd1b6969744afb0b5f207c4365e6500053c53738f8e2a0"), looks := false }, kinds := [], alts := [], laidByText := true, laidKinds := [.data, .pinned], laidTests := true, laidLooks := .later }
def KeysJoinCardSaid : Prop := Claim7.holds Tryd.pinned (.plain (OpenSpec.ofChange keysJoinSpec)) keysJoinCard

/-- THE TIED CARD OF 'rhizomelaw03.KeysAfter'. -/
def keysAfterCard : Claim7 := { stood := { row := keysAfterRow, standIns := [], harness := (true, "d53f9040fcfb23607ebd1b6969744afb0b5f207c4365e6500053c53738f8e2a0"), looks := false }, kinds := [], alts := [], laidByText := true, laidKinds := [.data, .pinned], laidTests := true, laidLooks := .later }
def KeysAfterCardSaid : Prop := Claim7.holds Tryd.pinned (.plain (OpenSpec.ofChange keysAfterSpec)) keysAfterCard

/-- THE TIED CARD OF 'rhizomelaw03.KeysLast'. -/
def keysLastCard : Claim7 := { stood := { row := keysLastRow, standIns := [], harness := (true, "d53f9040fcfb23607ebd1b6969744afb0b5f207c4365e6500053c53738f8e2a0"), looks := false }, kinds := [], alts := [], laidByText := true, laidKinds := [.data, .pinned], laidTests := true, laidLooks := .later }
def KeysLastCardSaid : Prop := Claim7.holds Tryd.pinned (.plain (OpenSpec.ofChange keysLastSpec)) keysLastCard

/-- THE SECOND FORM's CARD OF 'rhizomelaw03.KeysLays'. -/
def keysLaysUptoCard : Claim7 := { stood := { row := keysLaysUptoRow, standIns := [], harness := (true, "d53f9040fcfb23607ebd1b6969744afb0b5f207c4365e6500053c53738f8e2a0"), looks := false }, kinds := [], alts := [], laidByText := true, laidKinds := [.data, .pinned], laidTests := true, laidLooks := .later }
def KeysLaysUptoCardSaid : Prop := Claim7.holds Tryd.pinned (.plain (OpenSpec.upto keysLaysSpec)) keysLaysUptoCard

/-- THE SECOND FORM's CARD OF 'rhizomelaw03.KeysReads'. -/
def keysReadsUptoCard : Claim7 := { stood := { row := keysReadsUptoRow, standIns := [], harness := (true, "d53f9040fcfb23607ebd1b6969744afb0b5f207c4365e6500053c53738f8e2a0"), looks := false }, kinds := [], alts := [], laidByText := true, laidKinds := [.data, .pinned], laidTests := true, laidLooks := .later }
def KeysReadsUptoCardSaid : Prop := Claim7.holds Tryd.pinned (.plain (OpenSpec.upto keysReadsSpec)) keysReadsUptoCard

/-- THE SECOND FORM's CARD OF 'rhizomelaw03.KeysCmps'. -/
def keysCmpsUptoCard : Claim7 := { stood := { row := keysCmpsUptoRow, standIns := [], harness := (true, "d53f9040fcfb23607ebd1b6969744afb0b5f207c4365e6500053c53738f8e2a0"), looks := false }, kinds := [], alts := [], laidByText := true, laidKinds := [.data, .pinned], laidTests := true, laidLooks := .later }
def KeysCmpsUptoCardSaid : Prop := Claim7.holds Tryd.pinned (.plain (OpenSpec.upto keysCmpsSpec)) keysCmpsUptoCard

/-- THE SECOND FORM's CARD OF 'rhizomelaw03.KeysOrder'. -/
def keysOrderUptoCard : Claim7 := { stood := { row := keysOrderUptoRow, standIns := [], harness := (true, "d53f9040fcfb23607ebd1b6969744afb0b5f207c4365e6500053c53738f8e2a0"), looks := false }, kinds := [], alts := [], laidByText := true, laidKinds := [.data, .pinned], laidTests := true, laidLooks := .later }
def KeysOrderUptoCardSaid : Prop := Claim7.holds Tryd.pinned (.plain (OpenSpec.upto keysOrderSpec)) keysOrderUptoCard

/-- THE SECOND FORM's CARD OF 'rhizomelaw03.KeysBack'. -/
def keysBackUptoCard : Claim7 := { stood := { row := keysBackUptoRow, standIns := [], harness := (true, "d53f9040fcfb23607ebd1b6969744afb0b5f207c4365e6500053c53738f8e2a0"), looks := false }, kinds := [], alts := [], laidByText := true, laidKinds := [.data, .pinned], laidTests := true, laidLooks := .later }
def KeysBackUptoCardSaid : Prop := Claim7.holds Tryd.pinned (.plain (OpenSpec.upto keysBackSpec)) keysBackUptoCard

/-- THE SECOND FORM's CARD OF 'rhizomelaw03.KeysJoin'. -/
def keysJoinUptoCard : Claim7 := { stood := { row := keysJoinUptoRow, standIns := [], harness := (true, "d53f9040fcfb23607ebd1b6969744afb0b5f207c4365e6500053c53738f8e2a0"), looks := false }, kinds := [], alts := [], laidByText := true, laidKinds := [.data, .pinned], laidTests := true, laidLooks := .later }
def KeysJoinUptoCardSaid : Prop := Claim7.holds Tryd.pinned (.plain (OpenSpec.upto keysJoinSpec)) keysJoinUptoCard

/-- THE SECOND FORM's CARD OF 'rhizomelaw03.KeysAfter'. -/
def keysAfterUptoCard : Claim7 := { stood := { row := keysAfterUptoRow, standIns := [], harness := (true, "d53f9040fcfb23607ebd1b6969744afb0b5f207c4365e6500053c53738f8e2a0"), looks := false }, kinds := [], alts := [], laidByText := true, laidKinds := [.data, .pinned], laidTests := true, laidLooks := .later }
def KeysAfterUptoCardSaid : Prop := Claim7.holds Tryd.pinned (.plain (OpenSpec.upto keysAfterSpec)) keysAfterUptoCard

/-- THE SECOND FORM's CARD OF 'rhizomelaw03.KeysLast'. -/
def keysLastUptoCard : Claim7 := { stood := { row := keysLastUptoRow, standIns := [], harness := (true, "d53f9040fcfb23607ebd1b6969744afb0b5f207c4365e6500053c53738f8e2a0"), looks := false }, kinds := [], alts := [], laidByText := true, laidKinds := [.data, .pinned], laidTests := true, laidLooks := .later }
def KeysLastUptoCardSaid : Prop := Claim7.holds Tryd.pinned (.plain (OpenSpec.upto keysLastSpec)) keysLastUptoCard
end Rows
end Go.Proofs.YtpimfioeeipnhaaDoor
