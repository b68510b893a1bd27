/-
  NARROWER THAN 'FOR EVERY INPUT', by the rows' own cells (each row's printed sentence says how): PagePacks: laid · PageReads: laid · PageMetas: laid · PageNewest: laid · PageTells: laid · PagerFormats: laid · PagerOpens: laid.
  DERIVED. THE GIVEN ROWS OF THIS SEAT. 7 by the template 'for every input the law returns true; each argument reads behind the call as it read before'; 0 by the template 'total and deterministic' (their statements: YtnlkhnmbfkpghaaDoorTotals.lean).
  GIVEN WITH THE SEED: the statements are not yours to turn. If you find one false, say at which input.
  Laid BY PROGRAM, IN A SANDBOX (cutbox-rows.mjs): the forced cells as the released guide's own fill.sh prints them over the translation 20091b2d666b46d4… (all of the seat's roots in one cut). By AI agents, Wed Nov 11 2026. No macro, syntax, notation, axiom, sorry.
-/
import Derived.Test.YtnlkhnmbfkpghaaDoorChecked
import GoSem.Claim
import GoSem.ClaimJoined
import GoSem.ClaimMapViews
import Derived.JoinedTies
import Derived.KernelRfl
namespace Go.Proofs.YtnlkhnmbfkpghaaDoor
/- THE CELL 'sum', in the pinned program and in every row, IS THE sha256 OF THE DUMP (.gsa) THAT YtnlkhnmbfkpghaaDoorProg.lean LOADS. Nothing in Lean hashes anything: it is a label: what it is worth is what the hold of that sum in a sandbox is worth. -/
noncomputable def Tryd.pinned : Pinned := { name := "ytnlkhnmbfkpghaadoor", sum := "20091b2d666b46d4f876730d6033f45b8b7d96634103bbff68cee93678cbb195", checked := Tryd.checked }
namespace Rows
def none {H : Type} : Left H := { results := [], args := [] }

/- WHAT THE LISTED PACKAGE-LEVEL VARIABLES READ AS WHEN THE CALL BEGINS. Each datum BY PROGRAM (the guide's laid-datum.mjs) off the statement by which the dump's own 'gosem.cut.vars' lays the variable. In a bare row this is a premise. The card (YtnlkhnmbfkpghaaDoorCards.lean) ties it to the program's text. -/
def laid_rollbook_crc_row {H : Type} : DataW H := .agg [.lit (.int .u32 0), .lit (.int .u32 498536548), .lit (.int .u32 997073096), .lit (.int .u32 651767980), .lit (.int .u32 1994146192), .lit (.int .u32 1802195444), .lit (.int .u32 1303535960), .lit (.int .u32 1342533948), .lit (.int .u32 3988292384), .lit (.int .u32 4027552580), .lit (.int .u32 3604390888), .lit (.int .u32 3412177804), .lit (.int .u32 2607071920), .lit (.int .u32 2262029012), .lit (.int .u32 2685067896), .lit (.int .u32 3183342108)]

/-- 'rollbooklaw04.PagePacks': WHATEVER THE INPUT: true; the input reads as it did. -/
def pagePacksSpec : ChangeSpec := { name := "pagePacks", fn := fun _ => fun
  | [d] => { results := [.lit (.bool true)], args := [d] }
  | _ => none }
def pagePacksRow : OpenClaim := { program := "ytnlkhnmbfkpghaadoor", sum := "20091b2d666b46d4f876730d6033f45b8b7d96634103bbff68cee93678cbb195", func := "rollbook/rollbooklaw04.PagePacks", spec := "pagePacks", inPlace := ["internal/abi.NoEscape", "internal/bytealg.MakeNoZero"], named := ["rollbook/crc.row"], apart := false, laid := [("rollbook/crc.row", laid_rollbook_crc_row)] }
def PagePacksSaid : Prop := pagePacksRow.holds Tryd.pinned (OpenSpec.ofChange pagePacksSpec)

/-- ITS FALSE NEIGHBOUR: 'it returns false'. Refute it at one input. -/
def pagePacksWrong : ChangeSpec := { name := "pagePacks", fn := fun _ => fun
  | [d] => { results := [.lit (.bool false)], args := [d] }
  | _ => none }
def PagePacksWrongFalsely : Prop := pagePacksRow.holds Tryd.pinned (OpenSpec.ofChange pagePacksWrong)

/-- 'rollbooklaw04.PageReads': WHATEVER THE INPUT: true; the input reads as it did. -/
def pageReadsSpec : ChangeSpec := { name := "pageReads", fn := fun _ => fun
  | [d] => { results := [.lit (.bool true)], args := [d] }
  | _ => none }
def pageReadsRow : OpenClaim := { program := "ytnlkhnmbfkpghaadoor", sum := "20091b2d666b46d4f876730d6033f45b8b7d96634103bbff68cee93678cbb195", func := "rollbook/rollbooklaw04.PageReads", spec := "pageReads", inPlace := ["internal/abi.NoEscape", "internal/bytealg.MakeNoZero"], named := ["rollbook/crc.row"], apart := false, laid := [("rollbook/crc.row", laid_rollbook_crc_row)] }
def PageReadsSaid : Prop := pageReadsRow.holds Tryd.pinned (OpenSpec.ofChange pageReadsSpec)

/-- ITS FALSE NEIGHBOUR: 'it returns false'. Refute it at one input. -/
def pageReadsWrong : ChangeSpec := { name := "pageReads", fn := fun _ => fun
  | [d] => { results := [.lit (.bool false)], args := [d] }
  | _ => none }
def PageReadsWrongFalsely : Prop := pageReadsRow.holds Tryd.pinned (OpenSpec.ofChange pageReadsWrong)

/-- 'rollbooklaw04.PageMetas': WHATEVER THE INPUT: true; the input reads as it did. -/
def pageMetasSpec : ChangeSpec := { name := "pageMetas", fn := fun _ => fun
  | [d1, d2] => { results := [.lit (.bool true)], args := [d1, d2] }
  | _ => none }
def pageMetasRow : OpenClaim := { program := "ytnlkhnmbfkpghaadoor", sum := "20091b2d666b46d4f876730d6033f45b8b7d96634103bbff68cee93678cbb195", func := "rollbook/rollbooklaw04.PageMetas", spec := "pageMetas", inPlace := ["internal/abi.NoEscape", "internal/bytealg.MakeNoZero"], unfollowed := true, recurses := true, named := ["rollbook/crc.row"], apart := false, laid := [("rollbook/crc.row", laid_rollbook_crc_row)] }
def PageMetasSaid : Prop := pageMetasRow.holds Tryd.pinned (OpenSpec.ofChange pageMetasSpec)

/-- ITS FALSE NEIGHBOUR: 'it returns false'. Refute it at one input. -/
def pageMetasWrong : ChangeSpec := { name := "pageMetas", fn := fun _ => fun
  | [d1, d2] => { results := [.lit (.bool false)], args := [d1, d2] }
  | _ => none }
def PageMetasWrongFalsely : Prop := pageMetasRow.holds Tryd.pinned (OpenSpec.ofChange pageMetasWrong)

/-- 'rollbooklaw04.PageNewest': WHATEVER THE INPUT: true; the input reads as it did. -/
def pageNewestSpec : ChangeSpec := { name := "pageNewest", fn := fun _ => fun
  | [d1, d2] => { results := [.lit (.bool true)], args := [d1, d2] }
  | _ => none }
def pageNewestRow : OpenClaim := { program := "ytnlkhnmbfkpghaadoor", sum := "20091b2d666b46d4f876730d6033f45b8b7d96634103bbff68cee93678cbb195", func := "rollbook/rollbooklaw04.PageNewest", spec := "pageNewest", inPlace := ["internal/abi.NoEscape", "internal/bytealg.MakeNoZero"], unfollowed := true, recurses := true, named := ["rollbook/crc.row"], apart := false, laid := [("rollbook/crc.row", laid_rollbook_crc_row)] }
def PageNewestSaid : Prop := pageNewestRow.holds Tryd.pinned (OpenSpec.ofChange pageNewestSpec)

/-- ITS FALSE NEIGHBOUR: 'it returns false'. Refute it at one input. -/
def pageNewestWrong : ChangeSpec := { name := "pageNewest", fn := fun _ => fun
  | [d1, d2] => { results := [.lit (.bool false)], args := [d1, d2] }
  | _ => none }
def PageNewestWrongFalsely : Prop := pageNewestRow.holds Tryd.pinned (OpenSpec.ofChange pageNewestWrong)

/-- 'rollbooklaw04.PageTells': WHATEVER THE INPUT: true; the input reads as it did. -/
def pageTellsSpec : ChangeSpec := { name := "pageTells", fn := fun _ => fun
  | [d1, d2, d3, d4] => { results := [.lit (.bool true)], args := [d1, d2, d3, d4] }
  | _ => none }
def pageTellsRow : OpenClaim := { program := "ytnlkhnmbfkpghaadoor", sum := "20091b2d666b46d4f876730d6033f45b8b7d96634103bbff68cee93678cbb195", func := "rollbook/rollbooklaw04.PageTells", spec := "pageTells", inPlace := ["internal/abi.NoEscape", "internal/bytealg.MakeNoZero"], unfollowed := true, recurses := true, named := ["rollbook/crc.row"], apart := false, laid := [("rollbook/crc.row", laid_rollbook_crc_row)] }
def PageTellsSaid : Prop := pageTellsRow.holds Tryd.pinned (OpenSpec.ofChange pageTellsSpec)

/-- ITS FALSE NEIGHBOUR: 'it returns false'. Refute it at one input. -/
def pageTellsWrong : ChangeSpec := { name := "pageTells", fn := fun _ => fun
  | [d1, d2, d3, d4] => { results := [.lit (.bool false)], args := [d1, d2, d3, d4] }
  | _ => none }
def PageTellsWrongFalsely : Prop := pageTellsRow.holds Tryd.pinned (OpenSpec.ofChange pageTellsWrong)

/-- 'rollbooklaw05.PagerFormats': WHATEVER THE INPUT: true; the input reads as it did. -/
def pagerFormatsSpec : ChangeSpec := { name := "pagerFormats", fn := fun _ => fun
  | [d1, d2] => { results := [.lit (.bool true)], args := [d1, d2] }
  | _ => none }
def pagerFormatsRow : OpenClaim := { program := "ytnlkhnmbfkpghaadoor", sum := "20091b2d666b46d4f876730d6033f45b8b7d96634103bbff68cee93678cbb195", func := "rollbook/rollbooklaw05.PagerFormats", spec := "pagerFormats", inPlace := ["internal/abi.NoEscape", "internal/bytealg.MakeNoZero"], unfollowed := true, recurses := true, named := ["rollbook/crc.row"], apart := false, laid := [("rollbook/crc.row", laid_rollbook_crc_row)] }
def PagerFormatsSaid : Prop := pagerFormatsRow.holds Tryd.pinned (OpenSpec.ofChange pagerFormatsSpec)

/-- ITS FALSE NEIGHBOUR: 'it returns false'. Refute it at one input. -/
def pagerFormatsWrong : ChangeSpec := { name := "pagerFormats", fn := fun _ => fun
  | [d1, d2] => { results := [.lit (.bool false)], args := [d1, d2] }
  | _ => none }
def PagerFormatsWrongFalsely : Prop := pagerFormatsRow.holds Tryd.pinned (OpenSpec.ofChange pagerFormatsWrong)

/-- 'rollbooklaw05.PagerOpens': WHATEVER THE INPUT: true; the input reads as it did. -/
def pagerOpensSpec : ChangeSpec := { name := "pagerOpens", fn := fun _ => fun
  | [d1, d2] => { results := [.lit (.bool true)], args := [d1, d2] }
  | _ => none }
def pagerOpensRow : OpenClaim := { program := "ytnlkhnmbfkpghaadoor", sum := "20091b2d666b46d4f876730d6033f45b8b7d96634103bbff68cee93678cbb195", func := "rollbook/rollbooklaw05.PagerOpens", spec := "pagerOpens", inPlace := ["internal/abi.NoEscape", "internal/bytealg.MakeNoZero"], unfollowed := true, recurses := true, named := ["rollbook/crc.row"], apart := false, laid := [("rollbook/crc.row", laid_rollbook_crc_row)] }
def PagerOpensSaid : Prop := pagerOpensRow.holds Tryd.pinned (OpenSpec.ofChange pagerOpensSpec)

/-- ITS FALSE NEIGHBOUR: 'it returns false'. Refute it at one input. -/
def pagerOpensWrong : ChangeSpec := { name := "pagerOpens", fn := fun _ => fun
  | [d1, d2] => { results := [.lit (.bool false)], args := [d1, d2] }
  | _ => none }
def PagerOpensWrongFalsely : Prop := pagerOpensRow.holds Tryd.pinned (OpenSpec.ofChange pagerOpensWrong)

/- THE SECOND FORM. 'bulk': how many values and letters a reading holds, each counted each time it is reached (what is shared counts as often as it is met; a slice's spare places count too). A statement '..UptoSaid' is the law's where the arguments, and the package variables that the reading takes, are together of bulk at most 1048576: NARROWER than '..Said'. Prove '..Said' where nothing that the law and all that it calls make is longer than what came in: it says more and counts as full. Else prove '..UptoSaid'. A law counts once. -/
mutual
def uptoBulk {H : Type} : DataW H → Nat
  | .lit (.string bytes) => bytes.length + 1
  | .lit _ => 1
  | .nil => 1
  | .ptr d => uptoBulk d + 1
  | .slice elems spare => uptoBulkAll elems + uptoBulkAll spare + 1
  | .agg parts => uptoBulkAll parts + 1
  | .iface _ d => uptoBulk d + 1
  | .map entries => uptoBulkEntries entries + 1
  | .held _ => 1
def uptoBulkAll {H : Type} : List (DataW H) → Nat
  | [] => 0
  | d :: r => uptoBulk d + uptoBulkAll r
def uptoBulkEntries {H : Type} : List (Lit × DataW H) → Nat
  | [] => 0
  | x :: r => uptoBulkEntry x + uptoBulkEntries r
def uptoBulkEntry {H : Type} : Lit × DataW H → Nat
  | (.string bytes, d) => bytes.length + uptoBulk d + 1
  | (_, d) => uptoBulk d + 1
 end
def uptoSmall : (H : Type) → List (DataW H) → Bool := fun _ ds => decide (uptoBulkAll ds ≤ 1048576)
def OpenSpec.upto (s : _root_.Go.ChangeSpec) : _root_.Go.OpenSpec := { _root_.Go.OpenSpec.ofChange s with cond := some uptoSmall }

/-- 'rollbooklaw04.PagePacks', WHERE WHAT IT READS IS OF BULK AT MOST 1048576: true; the input reads as it did. -/
def pagePacksUptoRow : OpenClaim := { program := "ytnlkhnmbfkpghaadoor", sum := "20091b2d666b46d4f876730d6033f45b8b7d96634103bbff68cee93678cbb195", func := "rollbook/rollbooklaw04.PagePacks", spec := "pagePacks", inPlace := ["internal/abi.NoEscape", "internal/bytealg.MakeNoZero"], named := ["rollbook/crc.row"], apart := false, laid := [("rollbook/crc.row", laid_rollbook_crc_row)], narrowed := true }
def PagePacksUptoSaid : Prop := pagePacksUptoRow.holds Tryd.pinned (OpenSpec.upto pagePacksSpec)

/-- 'rollbooklaw04.PageReads', WHERE WHAT IT READS IS OF BULK AT MOST 1048576: true; the input reads as it did. -/
def pageReadsUptoRow : OpenClaim := { program := "ytnlkhnmbfkpghaadoor", sum := "20091b2d666b46d4f876730d6033f45b8b7d96634103bbff68cee93678cbb195", func := "rollbook/rollbooklaw04.PageReads", spec := "pageReads", inPlace := ["internal/abi.NoEscape", "internal/bytealg.MakeNoZero"], named := ["rollbook/crc.row"], apart := false, laid := [("rollbook/crc.row", laid_rollbook_crc_row)], narrowed := true }
def PageReadsUptoSaid : Prop := pageReadsUptoRow.holds Tryd.pinned (OpenSpec.upto pageReadsSpec)

/-- 'rollbooklaw04.PageMetas', WHERE WHAT IT READS IS OF BULK AT MOST 1048576: true; the input reads as it did. -/
def pageMetasUptoRow : OpenClaim := { program := "ytnlkhnmbfkpghaadoor", sum := "20091b2d666b46d4f876730d6033f45b8b7d96634103bbff68cee93678cbb195", func := "rollbook/rollbooklaw04.PageMetas", spec := "pageMetas", inPlace := ["internal/abi.NoEscape", "internal/bytealg.MakeNoZero"], unfollowed := true, recurses := true, named := ["rollbook/crc.row"], apart := false, laid := [("rollbook/crc.row", laid_rollbook_crc_row)], narrowed := true }
def PageMetasUptoSaid : Prop := pageMetasUptoRow.holds Tryd.pinned (OpenSpec.upto pageMetasSpec)

/-- 'rollbooklaw04.PageNewest', WHERE WHAT IT READS IS OF BULK AT MOST 1048576: true; the input reads as it did. -/
def pageNewestUptoRow : OpenClaim := { program := "ytnlkhnmbfkpghaadoor", sum := "20091b2d666b46d4f876730d6033f45b8b7d96634103bbff68cee93678cbb195", func := "rollbook/rollbooklaw04.PageNewest", spec := "pageNewest", inPlace := ["internal/abi.NoEscape", "internal/bytealg.MakeNoZero"], unfollowed := true, recurses := true, named := ["rollbook/crc.row"], apart := false, laid := [("rollbook/crc.row", laid_rollbook_crc_row)], narrowed := true }
def PageNewestUptoSaid : Prop := pageNewestUptoRow.holds Tryd.pinned (OpenSpec.upto pageNewestSpec)

/-- 'rollbooklaw04.PageTells', WHERE WHAT IT READS IS OF BULK AT MOST 1048576: true; the input reads as it did. -/
def pageTellsUptoRow : OpenClaim := { program := "ytnlkhnmbfkpghaadoor", sum := "20091b2d666b46d4f876730d6033f45b8b7d96634103bbff68cee93678cbb195", func := "rollbook/rollbooklaw04.PageTells", spec := "pageTells", inPlace := ["internal/abi.NoEscape", "internal/bytealg.MakeNoZero"], unfollowed := true, recurses := true, named := ["rollbook/crc.row"], apart := false, laid := [("rollbook/crc.row", laid_rollbook_crc_row)], narrowed := true }
def PageTellsUptoSaid : Prop := pageTellsUptoRow.holds Tryd.pinned (OpenSpec.upto pageTellsSpec)

/-- 'rollbooklaw05.PagerFormats', WHERE WHAT IT READS IS OF BULK AT MOST 1048576: true; the input reads as it did. -/
def pagerFormatsUptoRow : OpenClaim := { program := "ytnlkhnmbfkpghaadoor", sum := "20091b2d666b46d4f876730d6033f45b8b7d96634103bbff68cee93678cbb195", func := "rollbook/rollbooklaw05.PagerFormats", spec := "pagerFormats", inPlace := ["internal/abi.NoEscape", "internal/bytealg.MakeNoZero"], unfollowed := true, recurses := true, named := ["rollbook/crc.row"], apart := false, laid := [("rollbook/crc.row", laid_rollbook_crc_row)], narrowed := true }
def PagerFormatsUptoSaid : Prop := pagerFormatsUptoRow.holds Tryd.pinned (OpenSpec.upto pagerFormatsSpec)

/-- 'rollbooklaw05.PagerOpens', WHERE WHAT IT READS IS OF BULK AT MOST 1048576: true; the input reads as it did. -/
def pagerOpensUptoRow : OpenClaim := { program := "ytnlkhnmbfkpghaadoor", sum := "20091b2d666b46d4f876730d6033f45b8b7d96634103bbff68cee93678cbb195", func := "rollbook/rollbooklaw05.PagerOpens", spec := "pagerOpens", inPlace := ["internal/abi.NoEscape", "internal/bytealg.MakeNoZero"], unfollowed := true, recurses := true, named := ["rollbook/crc.row"], apart := false, laid := [("rollbook/crc.row", laid_rollbook_crc_row)], narrowed := true }
def PagerOpensUptoSaid : Prop := pagerOpensUptoRow.holds Tryd.pinned (OpenSpec.upto pagerOpensSpec)

end Rows
end Go.Proofs.YtnlkhnmbfkpghaaDoor
