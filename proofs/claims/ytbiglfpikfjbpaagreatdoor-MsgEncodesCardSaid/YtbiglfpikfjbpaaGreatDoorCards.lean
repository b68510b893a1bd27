/-
  DERIVED. GIVEN WITH THE SEED: THE CARDS: each row of YtbiglfpikfjbpaaGreatDoorRows.lean that lists a variable, with what it lists TIED to the program's text (the seventh form; the later family's looks); each row that meets fmt, with fmt's text TOLD by the authors' own Lean function (tested against real Go, not proved from fmt's source: count such statements apart). THE CARD IS WHAT COUNTS. Prove the row's statement (the work); the ties are given (YtbiglfpikfjbpaaGreatDoorTie.lean); close each card by the builder's one call (the guide's Derived/Test/ToyasCard.lean, 'card_holds'). Laid BY PROGRAM, IN A SANDBOX (cutbox-door.mjs). By AI agents, Wed Nov 11 2026. No macro, syntax, notation, axiom, sorry.
-/
import Derived.Test.YtbiglfpikfjbpaaGreatDoorRows
import GoSem.ClaimSeven
namespace Go.Proofs.YtbiglfpikfjbpaaGreatDoor
namespace Rows

/-- THE TIED CARD OF 'rollbooklaw26.MsgEncodes'. -/
def msgEncodesCard : Claim7 := { stood := { row := msgEncodesRow, standIns := [], harness := (true, "c5d2afb3d410e045cf83051547fc6ee88f41bd55f6008d1bd914b9c9116f5dc6"), looks := true }, kinds := [], alts := [], laidByText := true, laidKinds := [.data], laidTests := true, laidLooks := .later }
def MsgEncodesCardSaid : Prop := Claim7.holds Tryz.pinned (.plain (OpenSpec.ofChange msgEncodesSpec)) msgEncodesCard

/-- THE TIED CARD OF 'rollbooklaw26.MsgReads'. -/
def msgReadsCard : Claim7 := { stood := { row := msgReadsRow, standIns := [], harness := (true, "c5d2afb3d410e045cf83051547fc6ee88f41bd55f6008d1bd914b9c9116f5dc6"), looks := true }, kinds := [], alts := [], laidByText := true, laidKinds := [.data], laidTests := true, laidLooks := .later }
def MsgReadsCardSaid : Prop := Claim7.holds Tryz.pinned (.plain (OpenSpec.ofChange msgReadsSpec)) msgReadsCard

/-- THE SECOND FORM's CARD OF 'rollbooklaw26.MsgEncodes'. -/
def msgEncodesUptoCard : Claim7 := { stood := { row := msgEncodesUptoRow, standIns := [], harness := (true, "c5d2afb3d410e045cf83051547fc6ee88f41bd55f6008d1bd914b9c9116f5dc6"), looks := true }, kinds := [], alts := [], laidByText := true, laidKinds := [.data], laidTests := true, laidLooks := .later }
def MsgEncodesUptoCardSaid : Prop := Claim7.holds Tryz.pinned (.plain (OpenSpec.upto msgEncodesSpec)) msgEncodesUptoCard

/-- THE SECOND FORM's CARD OF 'rollbooklaw26.MsgReads'. -/
def msgReadsUptoCard : Claim7 := { stood := { row := msgReadsUptoRow, standIns := [], harness := (true, "c5d2afb3d410e045cf83051547fc6ee88f41bd55f6008d1bd914b9c9116f5dc6"), looks := true }, kinds := [], alts := [], laidByText := true, laidKinds := [.data], laidTests := true, laidLooks := .later }
def MsgReadsUptoCardSaid : Prop := Claim7.holds Tryz.pinned (.plain (OpenSpec.upto msgReadsSpec)) msgReadsUptoCard
end Rows
end Go.Proofs.YtbiglfpikfjbpaaGreatDoor
