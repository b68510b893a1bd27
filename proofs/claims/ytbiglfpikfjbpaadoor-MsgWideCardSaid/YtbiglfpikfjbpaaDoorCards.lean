/-
  DERIVED. GIVEN WITH THE SEED: THE CARDS: each row of YtbiglfpikfjbpaaDoorRows.lean that lists a variable, with what it lists TIED to the program's text (the seventh form; the later family's looks); each row that meets fmt, with fmt's text TOLD by the authors' own Lean function (tested against real Go, not proved from fmt's source: count such statements apart). THE CARD IS WHAT COUNTS. Prove the row's statement (the work); the ties are given (YtbiglfpikfjbpaaDoorTie.lean); close each card by the builder's one call (the guide's Derived/Test/ToyasCard.lean, 'card_holds'). Laid BY PROGRAM, IN A SANDBOX (cutbox-door.mjs). By AI agents, Wed Nov 11 2026. No macro, syntax, notation, axiom, sorry.
-/
import Derived.Test.YtbiglfpikfjbpaaDoorRows
import GoSem.ClaimSeven
namespace Go.Proofs.YtbiglfpikfjbpaaDoor
namespace Rows

/-- THE TIED CARD OF 'rollbooklaw26.MsgWide'. -/
def msgWideCard : Claim7 := { stood := { row := msgWideRow, standIns := [], harness := (true, "a20b04ea84bc295c2d4dc398e353e63b7c55068cc2cb4effe1685f891a82d137"), looks := true }, kinds := [], alts := [], laidByText := true, laidKinds := [.data], laidTests := true, laidLooks := .later }
def MsgWideCardSaid : Prop := Claim7.holds Tryd.pinned (.plain (OpenSpec.ofChange msgWideSpec)) msgWideCard

/-- THE TIED CARD OF 'rollbooklaw26.MsgBehind'. -/
def msgBehindCard : Claim7 := { stood := { row := msgBehindRow, standIns := [], harness := (true, "a20b04ea84bc295c2d4dc398e353e63b7c55068cc2cb4effe1685f891a82d137"), looks := true }, kinds := [], alts := [], laidByText := true, laidKinds := [.data], laidTests := true, laidLooks := .later }
def MsgBehindCardSaid : Prop := Claim7.holds Tryd.pinned (.plain (OpenSpec.ofChange msgBehindSpec)) msgBehindCard

/-- THE TIED CARD OF 'rollbooklaw26.MsgAnswers'. -/
def msgAnswersCard : Claim7 := { stood := { row := msgAnswersRow, standIns := [], harness := (true, "a20b04ea84bc295c2d4dc398e353e63b7c55068cc2cb4effe1685f891a82d137"), looks := true }, kinds := [], alts := [], laidByText := true, laidKinds := [.data], laidTests := true, laidLooks := .later }
def MsgAnswersCardSaid : Prop := Claim7.holds Tryd.pinned (.plain (OpenSpec.ofChange msgAnswersSpec)) msgAnswersCard

/-- THE SECOND FORM's CARD OF 'rollbooklaw26.MsgWide'. -/
def msgWideUptoCard : Claim7 := { stood := { row := msgWideUptoRow, standIns := [], harness := (true, "a20b04ea84bc295c2d4dc398e353e63b7c55068cc2cb4effe1685f891a82d137"), looks := true }, kinds := [], alts := [], laidByText := true, laidKinds := [.data], laidTests := true, laidLooks := .later }
def MsgWideUptoCardSaid : Prop := Claim7.holds Tryd.pinned (.plain (OpenSpec.upto msgWideSpec)) msgWideUptoCard

/-- THE SECOND FORM's CARD OF 'rollbooklaw26.MsgBehind'. -/
def msgBehindUptoCard : Claim7 := { stood := { row := msgBehindUptoRow, standIns := [], harness := (true, "a20b04ea84bc295c2d4dc398e353e63b7c55068cc2cb4effe1685f891a82d137"), looks := true }, kinds := [], alts := [], laidByText := true, laidKinds := [.data], laidTests := true, laidLooks := .later }
def MsgBehindUptoCardSaid : Prop := Claim7.holds Tryd.pinned (.plain (OpenSpec.upto msgBehindSpec)) msgBehindUptoCard

/-- THE SECOND FORM's CARD OF 'rollbooklaw26.MsgAnswers'. -/
def msgAnswersUptoCard : Claim7 := { stood := { row := msgAnswersUptoRow, standIns := [], harness := (true, "a20b04ea84bc295c2d4dc398e353e63b7c55068cc2cb4effe1685f891a82d137"), looks := true }, kinds := [], alts := [], laidByText := true, laidKinds := [.data], laidTests := true, laidLooks := .later }
def MsgAnswersUptoCardSaid : Prop := Claim7.holds Tryd.pinned (.plain (OpenSpec.upto msgAnswersSpec)) msgAnswersUptoCard
end Rows
end Go.Proofs.YtbiglfpikfjbpaaDoor
