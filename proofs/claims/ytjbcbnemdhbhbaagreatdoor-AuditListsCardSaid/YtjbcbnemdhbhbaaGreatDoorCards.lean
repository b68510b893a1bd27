/-
  DERIVED. GIVEN WITH THE SEED: THE CARDS: each row of YtjbcbnemdhbhbaaGreatDoorRows.lean that lists a variable, with what it lists TIED to the program's text (the seventh form; the later family's looks); each row that meets fmt, with fmt's text TOLD by the authors' own Lean function (tested against real Go, not proved from fmt's source: count such statements apart). THE CARD IS WHAT COUNTS. Prove the row's statement (the work); the ties are given (YtjbcbnemdhbhbaaGreatDoorTie.lean); close each card by the builder's one call (the guide's Derived/Test/ToyasCard.lean, 'card_holds'). Laid BY PROGRAM, IN A SANDBOX (cutbox-door.mjs). By AI agents, Wed Nov 11 2026. No macro, syntax, notation, axiom, sorry.
-/
import Derived.Test.YtjbcbnemdhbhbaaGreatDoorRows
import GoSem.ClaimSeven
namespace Go.Proofs.YtjbcbnemdhbhbaaGreatDoor
namespace Rows

/-- THE TIED CARD OF 'rollbooklaw11.KvRoom'. -/
def kvRoomCard : Claim7 := { stood := { row := kvRoomRow, standIns := [], harness := (true, "35a2858626dc605a9634fdda5d8f85dd0ad0e55e6a52906466f6ff4f004c15fa"), looks := false }, kinds := [], alts := [], laidByText := true, laidKinds := [.data], laidTests := true, laidLooks := .later }
def KvRoomCardSaid : Prop := Claim7.holds Tryz.pinned (.plain (OpenSpec.ofChange kvRoomSpec)) kvRoomCard

/-- THE TIED CARD OF 'rollbooklaw11.KvNil'. -/
def kvNilCard : Claim7 := { stood := { row := kvNilRow, standIns := [], harness := (true, "35a2858626dc605a9634fdda5d8f85dd0ad0e55e6a52906466f6ff4f004c15fa"), looks := false }, kinds := [], alts := [], laidByText := true, laidKinds := [.data], laidTests := true, laidLooks := .later }
def KvNilCardSaid : Prop := Claim7.holds Tryz.pinned (.plain (OpenSpec.ofChange kvNilSpec)) kvNilCard

/-- THE TIED CARD OF 'rollbooklaw11.KvLeaks'. -/
def kvLeaksCard : Claim7 := { stood := { row := kvLeaksRow, standIns := [], harness := (true, "35a2858626dc605a9634fdda5d8f85dd0ad0e55e6a52906466f6ff4f004c15fa"), looks := false }, kinds := [], alts := [], laidByText := true, laidKinds := [.data], laidTests := true, laidLooks := .later }
def KvLeaksCardSaid : Prop := Claim7.holds Tryz.pinned (.plain (OpenSpec.ofChange kvLeaksSpec)) kvLeaksCard

/-- THE TIED CARD OF 'rollbooklaw12.AuditChecks'. -/
def auditChecksCard : Claim7 := { stood := { row := auditChecksRow, standIns := [], harness := (true, "35a2858626dc605a9634fdda5d8f85dd0ad0e55e6a52906466f6ff4f004c15fa"), looks := false }, kinds := [], alts := [], laidByText := true, laidKinds := [.data], laidTests := true, laidLooks := .later }
def AuditChecksCardSaid : Prop := Claim7.holds Tryz.pinned (.plain (OpenSpec.ofChange auditChecksSpec)) auditChecksCard

/-- THE TIED CARD OF 'rollbooklaw11.KvPages'. -/
def kvPagesCard : Claim7 := { stood := { row := kvPagesRow, standIns := [], harness := (true, "35a2858626dc605a9634fdda5d8f85dd0ad0e55e6a52906466f6ff4f004c15fa"), looks := false }, kinds := [], alts := [], laidByText := true, laidKinds := [.data], laidTests := true, laidLooks := .later }
def KvPagesCardSaid : Prop := Claim7.holds Tryz.pinned (.plain (OpenSpec.ofChange kvPagesSpec)) kvPagesCard

/-- THE TIED CARD OF 'rollbooklaw12.AuditLists'. -/
def auditListsCard : Claim7 := { stood := { row := auditListsRow, standIns := [], harness := (true, "35a2858626dc605a9634fdda5d8f85dd0ad0e55e6a52906466f6ff4f004c15fa"), looks := false }, kinds := [], alts := [], laidByText := true, laidKinds := [.data, .data, .pinned], laidTests := true, laidLooks := .later }
def AuditListsCardSaid : Prop := Claim7.holds Tryz.pinned (.plain (OpenSpec.ofChange auditListsSpec)) auditListsCard

/-- THE SECOND FORM's CARD OF 'rollbooklaw11.KvRoom'. -/
def kvRoomUptoCard : Claim7 := { stood := { row := kvRoomUptoRow, standIns := [], harness := (true, "35a2858626dc605a9634fdda5d8f85dd0ad0e55e6a52906466f6ff4f004c15fa"), looks := false }, kinds := [], alts := [], laidByText := true, laidKinds := [.data], laidTests := true, laidLooks := .later }
def KvRoomUptoCardSaid : Prop := Claim7.holds Tryz.pinned (.plain (OpenSpec.upto kvRoomSpec)) kvRoomUptoCard

/-- THE SECOND FORM's CARD OF 'rollbooklaw11.KvNil'. -/
def kvNilUptoCard : Claim7 := { stood := { row := kvNilUptoRow, standIns := [], harness := (true, "35a2858626dc605a9634fdda5d8f85dd0ad0e55e6a52906466f6ff4f004c15fa"), looks := false }, kinds := [], alts := [], laidByText := true, laidKinds := [.data], laidTests := true, laidLooks := .later }
def KvNilUptoCardSaid : Prop := Claim7.holds Tryz.pinned (.plain (OpenSpec.upto kvNilSpec)) kvNilUptoCard

/-- THE SECOND FORM's CARD OF 'rollbooklaw11.KvLeaks'. -/
def kvLeaksUptoCard : Claim7 := { stood := { row := kvLeaksUptoRow, standIns := [], harness := (true, "35a2858626dc605a9634fdda5d8f85dd0ad0e55e6a52906466f6ff4f004c15fa"), looks := false }, kinds := [], alts := [], laidByText := true, laidKinds := [.data], laidTests := true, laidLooks := .later }
def KvLeaksUptoCardSaid : Prop := Claim7.holds Tryz.pinned (.plain (OpenSpec.upto kvLeaksSpec)) kvLeaksUptoCard

/-- THE SECOND FORM's CARD OF 'rollbooklaw12.AuditChecks'. -/
def auditChecksUptoCard : Claim7 := { stood := { row := auditChecksUptoRow, standIns := [], harness := (true, "35a2858626dc605a9634fdda5d8f85dd0ad0e55e6a52906466f6ff4f004c15fa"), looks := false }, kinds := [], alts := [], laidByText := true, laidKinds := [.data], laidTests := true, laidLooks := .later }
def AuditChecksUptoCardSaid : Prop := Claim7.holds Tryz.pinned (.plain (OpenSpec.upto auditChecksSpec)) auditChecksUptoCard

/-- THE SECOND FORM's CARD OF 'rollbooklaw11.KvPages'. -/
def kvPagesUptoCard : Claim7 := { stood := { row := kvPagesUptoRow, standIns := [], harness := (true, "35a2858626dc605a9634fdda5d8f85dd0ad0e55e6a52906466f6ff4f004c15fa"), looks := false }, kinds := [], alts := [], laidByText := true, laidKinds := [.data], laidTests := true, laidLooks := .later }
def KvPagesUptoCardSaid : Prop := Claim7.holds Tryz.pinned (.plain (OpenSpec.upto kvPagesSpec)) kvPagesUptoCard

/-- THE SECOND FORM's CARD OF 'rollbooklaw12.AuditLists'. -/
def auditListsUptoCard : Claim7 := { stood := { row := auditListsUptoRow, standIns := [], harness := (true, "35a2858626dc605a9634fdda5d8f85dd0ad0e55e6a52906466f6ff4f004c15fa"), looks := false }, kinds := [], alts := [], laidByText := true, laidKinds := [.data, .data, .pinned], laidTests := true, laidLooks := .later }
def AuditListsUptoCardSaid : Prop := Claim7.holds Tryz.pinned (.plain (OpenSpec.upto auditListsSpec)) auditListsUptoCard
end Rows
end Go.Proofs.YtjbcbnemdhbhbaaGreatDoor
