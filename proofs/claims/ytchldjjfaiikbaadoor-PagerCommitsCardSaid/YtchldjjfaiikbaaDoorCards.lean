/-
  DERIVED. GIVEN WITH THE SEED: THE CARDS: each row of YtchldjjfaiikbaaDoorRows.lean that lists a variable, with what it lists TIED to the program's text (the seventh form; the later family's looks); each row that meets fmt, with fmt's text TOLD by the authors' own Lean function (tested against real Go, not proved from fmt's source: count such statements apart). THE CARD IS WHAT COUNTS. Prove the row's statement (the work); the ties are given (YtchldjjfaiikbaaDoorTie.lean); close each card by the builder's one call (the guide's Derived/Test/ToyasCard.lean, 'card_holds'). Laid BY PROGRAM, IN A SANDBOX (cutbox-door.mjs). By AI agents, Wed Nov 11 2026. No macro, syntax, notation, axiom, sorry.
-/
import Derived.Test.YtchldjjfaiikbaaDoorRows
import GoSem.ClaimSeven
namespace Go.Proofs.YtchldjjfaiikbaaDoor
namespace Rows

/-- THE TIED CARD OF 'rollbooklaw05.PagerFormats'. -/
def pagerFormatsCard : Claim7 := { stood := { row := pagerFormatsRow, standIns := [], harness := (true, "63f06224e25dfbb7d4c69c87d984f3b3b53cff8ea893b33ff393ca6f42971428"), looks := false }, kinds := [], alts := [], laidByText := true, laidKinds := [.data], laidTests := true, laidLooks := .later }
def PagerFormatsCardSaid : Prop := Claim7.holds Tryd.pinned (.plain (OpenSpec.ofChange pagerFormatsSpec)) pagerFormatsCard

/-- THE TIED CARD OF 'rollbooklaw05.PagerOpens'. -/
def pagerOpensCard : Claim7 := { stood := { row := pagerOpensRow, standIns := [], harness := (true, "63f06224e25dfbb7d4c69c87d984f3b3b53cff8ea893b33ff393ca6f42971428"), looks := false }, kinds := [], alts := [], laidByText := true, laidKinds := [.data], laidTests := true, laidLooks := .later }
def PagerOpensCardSaid : Prop := Claim7.holds Tryd.pinned (.plain (OpenSpec.ofChange pagerOpensSpec)) pagerOpensCard

/-- THE TIED CARD OF 'rollbooklaw05.PagerNil'. -/
def pagerNilCard : Claim7 := { stood := { row := pagerNilRow, standIns := [], harness := (true, "63f06224e25dfbb7d4c69c87d984f3b3b53cff8ea893b33ff393ca6f42971428"), looks := false }, kinds := [], alts := [], laidByText := true, laidKinds := [.data], laidTests := true, laidLooks := .later }
def PagerNilCardSaid : Prop := Claim7.holds Tryd.pinned (.plain (OpenSpec.ofChange pagerNilSpec)) pagerNilCard

/-- THE TIED CARD OF 'rollbooklaw05.PagerCommits'. -/
def pagerCommitsCard : Claim7 := { stood := { row := pagerCommitsRow, standIns := [], harness := (true, "63f06224e25dfbb7d4c69c87d984f3b3b53cff8ea893b33ff393ca6f42971428"), looks := false }, kinds := [], alts := [], laidByText := true, laidKinds := [.data], laidTests := true, laidLooks := .later }
def PagerCommitsCardSaid : Prop := Claim7.holds Tryd.pinned (.plain (OpenSpec.ofChange pagerCommitsSpec)) pagerCommitsCard

/-- THE SECOND FORM's CARD OF 'rollbooklaw05.PagerFormats'. -/
def pagerFormatsUptoCard : Claim7 := { stood := { row := pagerFormatsUptoRow, standIns := [], harness := (true, "63f06224e25dfbb7d4c69c87d984f3b3b53cff8ea893b33ff393ca6f42971428"), looks := false }, kinds := [], alts := [], laidByText := true, laidKinds := [.data], laidTests := true, laidLooks := .later }
def PagerFormatsUptoCardSaid : Prop := Claim7.holds Tryd.pinned (.plain (OpenSpec.upto pagerFormatsSpec)) pagerFormatsUptoCard

/-- THE SECOND FORM's CARD OF 'rollbooklaw05.PagerOpens'. -/
def pagerOpensUptoCard : Claim7 := { stood := { row := pagerOpensUptoRow, standIns := [], harness := (true, "63f06224e25dfbb7d4c69c87d984f3b3b53cff8ea893b33ff393ca6f42971428"), looks := false }, kinds := [], alts := [], laidByText := true, laidKinds := [.data], laidTests := true, laidLooks := .later }
def PagerOpensUptoCardSaid : Prop := Claim7.holds Tryd.pinned (.plain (OpenSpec.upto pagerOpensSpec)) pagerOpensUptoCard

/-- THE SECOND FORM's CARD OF 'rollbooklaw05.PagerNil'. -/
def pagerNilUptoCard : Claim7 := { stood := { row := pagerNilUptoRow, standIns := [], harness := (true, "63f06224e25dfbb7d4c69c87d984f3b3b53cff8ea893b33ff393ca6f42971428"), looks := false }, kinds := [], alts := [], laidByText := true, laidKinds := [.data], laidTests := true, laidLooks := .later }
def PagerNilUptoCardSaid : Prop := Claim7.holds Tryd.pinned (.plain (OpenSpec.upto pagerNilSpec)) pagerNilUptoCard

/-- THE SECOND FORM's CARD OF 'rollbooklaw05.PagerCommits'. -/
def pagerCommitsUptoCard : Claim7 := { stood := { row := pagerCommitsUptoRow, standIns := [], harness := (true, "63f06224e25dfbb7d4c69c87d984f3b3b53cff8ea893b33ff393ca6f42971428"), looks := false }, kinds := [], alts := [], laidByText := true, laidKinds := [.data], laidTests := true, laidLooks := .later }
def PagerCommitsUptoCardSaid : Prop := Claim7.holds Tryd.pinned (.plain (OpenSpec.upto pagerCommitsSpec)) pagerCommitsUptoCard
end Rows
end Go.Proofs.YtchldjjfaiikbaaDoor
