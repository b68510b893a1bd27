/-
  NARROWER THAN 'FOR EVERY INPUT', by the rows' own cells (each row's printed sentence says how): PagerFormats: laid · PagerOpens: laid · PagerNil: laid · PagerCommits: laid.
  DERIVED. THE GIVEN ROWS OF THIS SEAT. 4 by the template 'for every input the law returns true; each argument reads behind the call as it read before'; 0 by the template 'total and deterministic' (their statements: YtchldjjfaiikbaaDoorTotals.lean).
  GIVEN WITH THE SEED: the statements are not yours to turn. If you find one false, say at which input.
  Laid BY PROGRAM, IN A SANDBOX (cutbox-rows.mjs): the forced cells as the released guide's own fill.sh prints them over the translation d3d68b34cefd93b9… (all of the seat's roots in one cut). By AI agents, Wed Nov 11 2026. No macro, syntax, notation, axiom, sorry.
-/
import Derived.Test.YtchldjjfaiikbaaDoorChecked
import GoSem.Claim
import GoSem.ClaimJoined
import GoSem.ClaimMapViews
import Derived.JoinedTies
import Derived.KernelRfl
namespace Go.Proofs.YtchldjjfaiikbaaDoor
/- THE CELL 'sum', in the pinned program and in every row, IS THE sha256 OF THE DUMP (.gsa) THAT YtchldjjfaiikbaaDoorProg.lean LOADS. Nothing in Lean hashes anything: it is a label: what it is worth is what the hold of that sum in a sandbox is worth. -/
noncomputable def Tryd.pinned : Pinned := { name := "ytchldjjfaiikbaadoor", sum := "d3d68b34cefd93b9c2975ae96ecb58ca6e68b3f5af228af6e1dfab593e7b8f14", checked := Tryd.checked }
namespace Rows
def none {H : Type} : Left H := { results := [], args := [] }

/- WHAT THE LISTED PACKAGE-LEVEL VARIABLES READ AS WHEN THE CALL BEGINS. Each datum BY PROGRAM (the guide's laid-datum.mjs) off the statement by which the dump's own 'gosem.cut.vars' lays the variable. In a bare row this is a premise. The card (YtchldjjfaiikbaaDoorCards.lean) ties it to the program's text. -/
def laid_rollbook_crc_row {H : Type} : DataW H := .agg [.lit (.int .u32 0), .lit (.int .u32 498536548), .lit (.int .u32 997073096), .lit (.int .u32 651767980), .lit (.int .u32 1994146192), .lit (.int .u32 1802195444), .lit (.int .u32 1303535960), .lit (.int .u32 1342533948), .lit (.int .u32 3988292384), .lit (.int .u32 4027552580), .lit (.int .u32 3604390888), .lit (.int .u32 3412177804), .lit (.int .u32 2607071920), .lit (.int .u32 2262029012), .lit (.int .u32 2685067896), .lit (.int .u32 3183342108)]

/-- 'rollbooklaw05.PagerFormats': WHATEVER THE INPUT: true; the input reads as it did. -/
def pagerFormatsSpec : ChangeSpec := { name := "pagerFormats", fn := fun _ => fun
  | [d1, d2] => { results := [.lit (.bool true)], args := [d1, d2] }
  | _ => none }
def pagerFormatsRow : OpenClaim := { program := "ytchldjjfaiikbaadoor", sum := "d3d68b34cefd93b9c2975ae96ecb58ca6e68b3f5af228af6e1dfab593e7b8f14", func := "rollbook/rollbooklaw05.PagerFormats", spec := "pagerFormats", inPlace := ["internal/abi.NoEscape", "internal/bytealg.MakeNoZero"], unfollowed := true, recurses := true, named := ["rollbook/crc.row"], apart := false, laid := [("rollbook/crc.row", laid_rollbook_crc_row)] }
def PagerFormatsSaid : Prop := pagerFormatsRow.holds Tryd.pinned (OpenSpec.ofChange pagerFormatsSpec)

/-- ITS FALSE NEIGHBOUR: 'it returns false'. Refute it at one input. -/
def pagerFormatsWrong : ChangeSpec := { name := "pagerFormats", fn := fun _ => fun
  | [d1, d2] => { results := [.lit (.bool false)], args := [d1, d2] }
  | _ => none }
def PagerFormatsWrongFalsely : Prop := pagerFormatsRow.holds Tryd.pinned (OpenSpec.ofChange pagerFormatsWrong)

/-- 'rollbooklaw05.PagerOpens': WHATEVER THE INPUT: true; the input reads as it did. -/
def pagerOpensSpec : ChangeSpec := { name := "pagerOpens", fn := fun _ => fun
  | [d1, d2] => { results := [.lit (.bool true)], args := [d1, d2] }
  | _ => none }
def pagerOpensRow : OpenClaim := { program := "ytchldjjfaiikbaadoor", sum := "d3d68b34cefd93b9c2975ae96ecb58ca6e68b3f5af228af6e1dfab593e7b8f14", func := "rollbook/rollbooklaw05.PagerOpens", spec := "pagerOpens", inPlace := ["internal/abi.NoEscape", "internal/bytealg.MakeNoZero"], unfollowed := true, recurses := true, named := ["rollbook/crc.row"], apart := false, laid := [("rollbook/crc.row", laid_rollbook_crc_row)] }
def PagerOpensSaid : Prop := pagerOpensRow.holds Tryd.pinned (OpenSpec.ofChange pagerOpensSpec)

/-- ITS FALSE NEIGHBOUR: 'it returns false'. Refute it at one input. -/
def pagerOpensWrong : ChangeSpec := { name := "pagerOpens", fn := fun _ => fun
  | [d1, d2] => { results := [.lit (.bool false)], args := [d1, d2] }
  | _ => none }
def PagerOpensWrongFalsely : Prop := pagerOpensRow.holds Tryd.pinned (OpenSpec.ofChange pagerOpensWrong)

/-- 'rollbooklaw05.PagerNil': WHATEVER THE INPUT: true; the input reads as it did. -/
def pagerNilSpec : ChangeSpec := { name := "pagerNil", fn := fun _ => fun
  | [d] => { results := [.lit (.bool true)], args := [d] }
  | _ => none }
def pagerNilRow : OpenClaim := { program := "ytchldjjfaiikbaadoor", sum := "d3d68b34cefd93b9c2975ae96ecb58ca6e68b3f5af228af6e1dfab593e7b8f14", func := "rollbook/rollbooklaw05.PagerNil", spec := "pagerNil", inPlace := ["internal/abi.NoEscape", "internal/bytealg.MakeNoZero"], unfollowed := true, recurses := true, named := ["rollbook/crc.row"], apart := false, laid := [("rollbook/crc.row", laid_rollbook_crc_row)] }
def PagerNilSaid : Prop := pagerNilRow.holds Tryd.pinned (OpenSpec.ofChange pagerNilSpec)

/-- ITS FALSE NEIGHBOUR: 'it returns false'. Refute it at one input. -/
def pagerNilWrong : ChangeSpec := { name := "pagerNil", fn := fun _ => fun
  | [d] => { results := [.lit (.bool false)], args := [d] }
  | _ => none }
def PagerNilWrongFalsely : Prop := pagerNilRow.holds Tryd.pinned (OpenSpec.ofChange pagerNilWrong)

/-- 'rollbooklaw05.PagerCommits': WHATEVER THE INPUT: true; the input reads as it did. -/
def pagerCommitsSpec : ChangeSpec := { name := "pagerCommits", fn := fun _ => fun
  | [d1, d2, d3, d4] => { results := [.lit (.bool true)], args := [d1, d2, d3, d4] }
  | _ => none }
def pagerCommitsRow : OpenClaim := { program := "ytchldjjfaiikbaadoor", sum := "d3d68b34cefd93b9c2975ae96ecb58ca6e68b3f5af228af6e1dfab593e7b8f14", func := "rollbook/rollbooklaw05.PagerCommits", spec := "pagerCommits", inPlace := ["internal/abi.NoEscape", "internal/bytealg.MakeNoZero"], unfollowed := true, recurses := true, named := ["rollbook/crc.row"], apart := false, laid := [("rollbook/crc.row", laid_rollbook_crc_row)] }
def PagerCommitsSaid : Prop := pagerCommitsRow.holds Tryd.pinned (OpenSpec.ofChange pagerCommitsSpec)

/-- ITS FALSE NEIGHBOUR: 'it returns false'. Refute it at one input. -/
def pagerCommitsWrong : ChangeSpec := { name := "pagerCommits", fn := fun _ => fun
  | [d1, d2, d3, d4] => { results := [.lit (.bool false)], args := [d1, d2, d3, d4] }
  | _ => none }
def PagerCommitsWrongFalsely : Prop := pagerCommitsRow.holds Tryd.pinned (OpenSpec.ofChange pagerCommitsWrong)

/- THE SECOND FORM. 'bulk': how many values and letters a reading holds, each counted each time it is reached (what is shared counts as often as it is met; a slice's spare places count too). A statement '..UptoSaid' is the law's where the arguments, and the package variables that the reading takes, are together of bulk at most 1048576: NARROWER than '..Said'. Prove '..Said' where nothing that the law and all that it calls make is longer than what came in: it says more and counts as full. Else prove '..UptoSaid'. A law counts once. -/
mutual
def uptoBulk {H : Type} : DataW H → Nat
  | .lit (.string bytes) => bytes.length + 1
  | .lit _ => 1
  | .nil => 1
  | .ptr d => uptoBulk d + 1
  | .slice elems spare => uptoBulkAll elems + uptoBulkAll spare + 1
  | .agg parts => uptoBulkAll parts + 1
  | .iface _ d => uptoBulk d + 1
  | .map entries => uptoBulkEntries entries + 1
  | .held _ => 1
def uptoBulkAll {H : Type} : List (DataW H) → Nat
  | [] => 0
  | d :: r => uptoBulk d + uptoBulkAll r
def uptoBulkEntries {H : Type} : List (Lit × DataW H) → Nat
  | [] => 0
  | x :: r => uptoBulkEntry x + uptoBulkEntries r
def uptoBulkEntry {H : Type} : Lit × DataW H → Nat
  | (.string bytes, d) => bytes.length + uptoBulk d + 1
  | (_, d) => uptoBulk d + 1
 end
def uptoSmall : (H : Type) → List (DataW H) → Bool := fun _ ds => decide (uptoBulkAll ds ≤ 1048576)
def OpenSpec.upto (s : _root_.Go.ChangeSpec) : _root_.Go.OpenSpec := { _root_.Go.OpenSpec.ofChange s with cond := some uptoSmall }

/-- 'rollbooklaw05.PagerFormats', WHERE WHAT IT READS IS OF BULK AT MOST 1048576: true; the input reads as it did. -/
def pagerFormatsUptoRow : OpenClaim := { program := "ytchldjjfaiikbaadoor", sum := "d3d68b34cefd93b9c2975ae96ecb58ca6e68b3f5af228af6e1dfab593e7b8f14", func := "rollbook/rollbooklaw05.PagerFormats", spec := "pagerFormats", inPlace := ["internal/abi.NoEscape", "internal/bytealg.MakeNoZero"], unfollowed := true, recurses := true, named := ["rollbook/crc.row"], apart := false, laid := [("rollbook/crc.row", laid_rollbook_crc_row)], narrowed := true }
def PagerFormatsUptoSaid : Prop := pagerFormatsUptoRow.holds Tryd.pinned (OpenSpec.upto pagerFormatsSpec)

/-- 'rollbooklaw05.PagerOpens', WHERE WHAT IT READS IS OF BULK AT MOST 1048576: true; the input reads as it did. -/
def pagerOpensUptoRow : OpenClaim := { program := "ytchldjjfaiikbaadoor", sum := "d3d68b34cefd93b9c2975ae96ecb58ca6e68b3f5af228af6e1dfab593e7b8f14", func := "rollbook/rollbooklaw05.PagerOpens", spec := "pagerOpens", inPlace := ["internal/abi.NoEscape", "internal/bytealg.MakeNoZero"], unfollowed := true, recurses := true, named := ["rollbook/crc.row"], apart := false, laid := [("rollbook/crc.row", laid_rollbook_crc_row)], narrowed := true }
def PagerOpensUptoSaid : Prop := pagerOpensUptoRow.holds Tryd.pinned (OpenSpec.upto pagerOpensSpec)

/-- 'rollbooklaw05.PagerNil', WHERE WHAT IT READS IS OF BULK AT MOST 1048576: true; the input reads as it did. -/
def pagerNilUptoRow : OpenClaim := { program := "ytchldjjfaiikbaadoor", sum := "d3d68b34cefd93b9c2975ae96ecb58ca6e68b3f5af228af6e1dfab593e7b8f14", func := "rollbook/rollbooklaw05.PagerNil", spec := "pagerNil", inPlace := ["internal/abi.NoEscape", "internal/bytealg.MakeNoZero"], unfollowed := true, recurses := true, named := ["rollbook/crc.row"], apart := false, laid := [("rollbook/crc.row", laid_rollbook_crc_row)], narrowed := true }
def PagerNilUptoSaid : Prop := pagerNilUptoRow.holds Tryd.pinned (OpenSpec.upto pagerNilSpec)

/-- 'rollbooklaw05.PagerCommits', WHERE WHAT IT READS IS OF BULK AT MOST 1048576: true; the input reads as it did. -/
def pagerCommitsUptoRow : OpenClaim := { program := "ytchldjjfaiikbaadoor", sum := "d3d68b34cefd93b9c2975ae96ecb58ca6e68b3f5af228af6e1dfab593e7b8f14", func := "rollbook/rollbooklaw05.PagerCommits", spec := "pagerCommits", inPlace := ["internal/abi.NoEscape", "internal/bytealg.MakeNoZero"], unfollowed := true, recurses := true, named := ["rollbook/crc.row"], apart := false, laid := [("rollbook/crc.row", laid_rollbook_crc_row)], narrowed := true }
def PagerCommitsUptoSaid : Prop := pagerCommitsUptoRow.holds Tryd.pinned (OpenSpec.upto pagerCommitsSpec)

end Rows
end Go.Proofs.YtchldjjfaiikbaaDoor
