/-
  DERIVED. GIVEN WITH THE SEED: THE CARDS: each row of YtnlkhnmbfkpghaaDoorRows.lean that lists a variable, with what it lists TIED to the program's text (the seventh form; the later family's looks); each row that meets fmt, with fmt's text TOLD by the authors' own Lean function (tested against real Go, not proved from fmt's source: count such statements apart). THE CARD IS WHAT COUNTS. Prove the row's statement (the work); the ties are given (YtnlkhnmbfkpghaaDoorTie.lean); close each card by the builder's one call (the guide's Derived/Test/ToyasCard.lean, 'card_holds'). Laid BY PROGRAM, IN A SANDBOX (cutbox-door.mjs). By AI agents, Wed Nov 11 2026. No macro, syntax, notation, axiom, sorry.
-/
import Derived.Test.YtnlkhnmbfkpghaaDoorRows
import GoSem.ClaimSeven
namespace Go.Proofs.YtnlkhnmbfkpghaaDoor
namespace Rows

/-- THE TIED CARD OF 'rollbooklaw04.PagePacks'. -/
def pagePacksCard : Claim7 := { stood := { row := pagePacksRow, standIns := [], harness := (true, "ed10f93e3e5a70a47ba066c3c976fbcd609c2e92590199bbe21a559e9b3e90ca"), looks := false }, kinds := [], alts := [], laidByText := true, laidKinds := [.data], laidTests := true, laidLooks := .later }
def PagePacksCardSaid : Prop := Claim7.holds Tryd.pinned (.plain (OpenSpec.ofChange pagePacksSpec)) pagePacksCard

/-- THE TIED CARD OF 'rollbooklaw04.PageReads'. -/
def pageReadsCard : Claim7 := { stood := { row := pageReadsRow, standIns := [], harness := (true, "ed10f93e3e5a70a47ba066c3c976fbcd609c2e92590199bbe21a559e9b3e90ca"), looks := false }, kinds := [], alts := [], laidByText := true, laidKinds := [.data], laidTests := true, laidLooks := .later }
def PageReadsCardSaid : Prop := Claim7.holds Tryd.pinned (.plain (OpenSpec.ofChange pageReadsSpec)) pageReadsCard

/-- THE TIED CARD OF 'rollbooklaw04.PageMetas'. -/
def pageMetasCard : Claim7 := { stood := { row := pageMetasRow, standIns := [], harness := (true, "ed10f93e3e5a70a47ba066c3c976fbcd609c2e92590199bbe21a559e9b3e90ca"), looks := false }, kinds := [], alts := [], laidByText := true, laidKinds := [.data], laidTests := true, laidLooks := .later }
def PageMetasCardSaid : Prop := Claim7.holds Tryd.pinned (.plain (OpenSpec.ofChange pageMetasSpec)) pageMetasCard

/-- THE TIED CARD OF 'rollbooklaw04.PageNewest'. -/
def pageNewestCard : Claim7 := { stood := { row := pageNewestRow, standIns := [], harness := (true, "ed10f93e3e5a70a47ba066c3c976fbcd609c2e92590199bbe21a559e9b3e90ca"), looks := false }, kinds := [], alts := [], laidByText := true, laidKinds := [.data], laidTests := true, laidLooks := .later }
def PageNewestCardSaid : Prop := Claim7.holds Tryd.pinned (.plain (OpenSpec.ofChange pageNewestSpec)) pageNewestCard

/-- THE TIED CARD OF 'rollbooklaw04.PageTells'. -/
def pageTellsCard : Claim7 := { stood := { row := pageTellsRow, standIns := [], harness := (true, "ed10f93e3e5a70a47ba066c3c976fbcd609c2e92590199bbe21a559e9b3e90ca"), looks := false }, kinds := [], alts := [], laidByText := true, laidKinds := [.data], laidTests := true, laidLooks := .later }
def PageTellsCardSaid : Prop := Claim7.holds Tryd.pinned (.plain (OpenSpec.ofChange pageTellsSpec)) pageTellsCard

/-- THE TIED CARD OF 'rollbooklaw05.PagerFormats'. -/
def pagerFormatsCard : Claim7 := { stood := { row := pagerFormatsRow, standIns := [], harness := (true, "ed10f93e3e5a70a47ba066c3c976fbcd609c2e92590199bbe21a559e9b3e90ca"), looks := false }, kinds := [], alts := [], laidByText := true, laidKinds := [.data], laidTests := true, laidLooks := .later }
def PagerFormatsCardSaid : Prop := Claim7.holds Tryd.pinned (.plain (OpenSpec.ofChange pagerFormatsSpec)) pagerFormatsCard

/-- THE TIED CARD OF 'rollbooklaw05.PagerOpens'. -/
def pagerOpensCard : Claim7 := { stood := { row := pagerOpensRow, standIns := [], harness := (true, "ed10f93e3e5a70a47ba066c3c976fbcd609c2e92590199bbe21a559e9b3e90ca"), looks := false }, kinds := [], alts := [], laidByText := true, laidKinds := [.data], laidTests := true, laidLooks := .later }
def PagerOpensCardSaid : Prop := Claim7.holds Tryd.pinned (.plain (OpenSpec.ofChange pagerOpensSpec)) pagerOpensCard

/-- THE SECOND FORM's CARD OF 'rollbooklaw04.PagePacks'. -/
def pagePacksUptoCard : Claim7 := { stood := { row := pagePacksUptoRow, standIns := [], harness := (true, "ed10f93e3e5a70a47ba066c3c976fbcd609c2e92590199bbe21a559e9b3e90ca"), looks := false }, kinds := [], alts := [], laidByText := true, laidKinds := [.data], laidTests := true, laidLooks := .later }
def PagePacksUptoCardSaid : Prop := Claim7.holds Tryd.pinned (.plain (OpenSpec.upto pagePacksSpec)) pagePacksUptoCard

/-- THE SECOND FORM's CARD OF 'rollbooklaw04.PageReads'. -/
def pageReadsUptoCard : Claim7 := { stood := { row := pageReadsUptoRow, standIns := [], harness := (true, "ed10f93e3e5a70a47ba066c3c976fbcd609c2e92590199bbe21a559e9b3e90ca"), looks := false }, kinds := [], alts := [], laidByText := true, laidKinds := [.data], laidTests := true, laidLooks := .later }
def PageReadsUptoCardSaid : Prop := Claim7.holds Tryd.pinned (.plain (OpenSpec.upto pageReadsSpec)) pageReadsUptoCard

/-- THE SECOND FORM's CARD OF 'rollbooklaw04.PageMetas'. -/
def pageMetasUptoCard : Claim7 := { stood := { row := pageMetasUptoRow, standIns := [], harness := (true, "ed10f93e3e5a70a47ba066c3c976fbcd609c2e92590199bbe21a559e9b3e90ca"), looks := false }, kinds := [], alts := [], laidByText := true, laidKinds := [.data], laidTests := true, laidLooks := .later }
def PageMetasUptoCardSaid : Prop := Claim7.holds Tryd.pinned (.plain (OpenSpec.upto pageMetasSpec)) pageMetasUptoCard

/-- THE SECOND FORM's CARD OF 'rollbooklaw04.PageNewest'. -/
def pageNewestUptoCard : Claim7 := { stood := { row := pageNewestUptoRow, standIns := [], harness := (true, "ed10f93e3e5a70a47ba066c3c976fbcd609c2e92590199bbe21a559e9b3e90ca"), looks := false }, kinds := [], alts := [], laidByText := true, laidKinds := [.data], laidTests := true, laidLooks := .later }
def PageNewestUptoCardSaid : Prop := Claim7.holds Tryd.pinned (.plain (OpenSpec.upto pageNewestSpec)) pageNewestUptoCard

/-- THE SECOND FORM's CARD OF 'rollbooklaw04.PageTells'. -/
def pageTellsUptoCard : Claim7 := { stood := { row := pageTellsUptoRow, standIns := [], harness := (true, "ed10f93e3e5a70a47ba066c3c976fbcd609c2e92590199bbe21a559e9b3e90ca"), looks := false }, kinds := [], alts := [], laidByText := true, laidKinds := [.data], laidTests := true, laidLooks := .later }
def PageTellsUptoCardSaid : Prop := Claim7.holds Tryd.pinned (.plain (OpenSpec.upto pageTellsSpec)) pageTellsUptoCard

/-- THE SECOND FORM's CARD OF 'rollbooklaw05.PagerFormats'. -/
def pagerFormatsUptoCard : Claim7 := { stood := { row := pagerFormatsUptoRow, standIns := [], harness := (true, "ed10f93e3e5a70a47ba066c3c976fbcd609c2e92590199bbe21a559e9b3e90ca"), looks := false }, kinds := [], alts := [], laidByText := true, laidKinds := [.data], laidTests := true, laidLooks := .later }
def PagerFormatsUptoCardSaid : Prop := Claim7.holds Tryd.pinned (.plain (OpenSpec.upto pagerFormatsSpec)) pagerFormatsUptoCard

/-- THE SECOND FORM's CARD OF 'rollbooklaw05.PagerOpens'. -/
def pagerOpensUptoCard : Claim7 := { stood := { row := pagerOpensUptoRow, standIns := [], harness := (true, "ed10f93e3e5a70a47ba066c3c976fbcd609c2e92590199bbe21a559e9b3e90ca"), looks := false }, kinds := [], alts := [], laidByText := true, laidKinds := [.data], laidTests := true, laidLooks := .later }
def PagerOpensUptoCardSaid : Prop := Claim7.holds Tryd.pinned (.plain (OpenSpec.upto pagerOpensSpec)) pagerOpensUptoCard
end Rows
end Go.Proofs.YtnlkhnmbfkpghaaDoor
