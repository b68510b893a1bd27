/-
  DERIVED. GIVEN WITH THE SEED: THE CARDS: each row of YtkkgiajjdcpicaaGreatDoorRows.lean that lists a variable, with what it lists TIED to the program's text (the seventh form; the later family's looks); each row that meets fmt, with fmt's text TOLD by the authors' own Lean function (tested against real Go, not proved from fmt's source: count such statements apart). THE CARD IS WHAT COUNTS. Prove the row's statement (the work); the ties are given (YtkkgiajjdcpicaaGreatDoorTie.lean); close each card by the builder's one call (the guide's Derived/Test/ToyasCard.lean, 'card_holds'). Laid BY PROGRAM, IN A SANDBOX (cutbox-door.mjs). By AI agents, Wed Nov 11 2026. No macro, syntax, notation, axiom, sorry.
-/
import Derived.Test.YtkkgiajjdcpicaaGreatDoorRows
import GoSem.ClaimSeven
namespace Go.Proofs.YtkkgiajjdcpicaaGreatDoor
namespace Rows

/-- THE TIED CARD OF 'rollbooklaw12.AuditNil'. -/
def auditNilCard : Claim7 := { stood := { row := auditNilRow, standIns := [], harness := (true, "eb744d05129e82c7a0113bc490e0305904153190cc18fbf9478844337a753f2f"), looks := false }, kinds := [], alts := [], laidByText := true, laidKinds := [.data, .data, .pinned], laidTests := true, laidLooks := .later }
def AuditNilCardSaid : Prop := Claim7.holds Tryz.pinned (.plain (OpenSpec.ofChange auditNilSpec)) auditNilCard

/-- THE TIED CARD OF 'rollbooklaw11.KvRoom'. -/
def kvRoomCard : Claim7 := { stood := { row := kvRoomRow, standIns := [], harness := (true, "eb744d05129e82c7a0113bc490e0305904153190cc18fbf9478844337a753f2f"), looks := false }, kinds := [], alts := [], laidByText := true, laidKinds := [.data], laidTests := true, laidLooks := .later }
def KvRoomCardSaid : Prop := Claim7.holds Tryz.pinned (.plain (OpenSpec.ofChange kvRoomSpec)) kvRoomCard

/-- THE TIED CARD OF 'rollbooklaw11.KvNil'. -/
def kvNilCard : Claim7 := { stood := { row := kvNilRow, standIns := [], harness := (true, "eb744d05129e82c7a0113bc490e0305904153190cc18fbf9478844337a753f2f"), looks := false }, kinds := [], alts := [], laidByText := true, laidKinds := [.data], laidTests := true, laidLooks := .later }
def KvNilCardSaid : Prop := Claim7.holds Tryz.pinned (.plain (OpenSpec.ofChange kvNilSpec)) kvNilCard

/-- THE SECOND FORM's CARD OF 'rollbooklaw12.AuditNil'. -/
def auditNilUptoCard : Claim7 := { stood := { row := auditNilUptoRow, standIns := [], harness := (true, "eb744d05129e82c7a0113bc490e0305904153190cc18fbf9478844337a753f2f"), looks := false }, kinds := [], alts := [], laidByText := true, laidKinds := [.data, .data, .pinned], laidTests := true, laidLooks := .later }
def AuditNilUptoCardSaid : Prop := Claim7.holds Tryz.pinned (.plain (OpenSpec.upto auditNilSpec)) auditNilUptoCard

/-- THE SECOND FORM's CARD OF 'rollbooklaw11.KvRoom'. -/
def kvRoomUptoCard : Claim7 := { stood := { row := kvRoomUptoRow, standIns := [], harness := (true, "eb744d05129e82c7a0113bc490e0305904153190cc18fbf9478844337a753f2f"), looks := false }, kinds := [], alts := [], laidByText := true, laidKinds := [.data], laidTests := true, laidLooks := .later }
def KvRoomUptoCardSaid : Prop := Claim7.holds Tryz.pinned (.plain (OpenSpec.upto kvRoomSpec)) kvRoomUptoCard

/-- THE SECOND FORM's CARD OF 'rollbooklaw11.KvNil'. -/
def kvNilUptoCard : Claim7 := { stood := { row := kvNilUptoRow, standIns := [], harness := (true, "eb744d05129e82c7a0113bc490e0305904153190cc18fbf9478844337a753f2f"), looks := false }, kinds := [], alts := [], laidByText := true, laidKinds := [.data], laidTests := true, laidLooks := .later }
def KvNilUptoCardSaid : Prop := Claim7.holds Tryz.pinned (.plain (OpenSpec.upto kvNilSpec)) kvNilUptoCard
end Rows
end Go.Proofs.YtkkgiajjdcpicaaGreatDoor
