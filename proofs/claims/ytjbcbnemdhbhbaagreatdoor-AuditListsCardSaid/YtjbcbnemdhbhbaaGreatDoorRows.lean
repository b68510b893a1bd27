/-
  NARROWER THAN 'FOR EVERY INPUT', by the rows' own cells (each row's printed sentence says how): KvRoom: laid · KvNil: laid · KvLeaks: laid · AuditChecks: laid · KvPages: laid · AuditLists: laid.
  DERIVED. THE GIVEN ROWS OF THIS SEAT. 6 by the template 'for every input the law returns true; each argument reads behind the call as it read before'; 0 by the template 'total and deterministic' (their statements: YtjbcbnemdhbhbaaGreatDoorTotals.lean).
  GIVEN WITH THE SEED: the statements are not yours to turn. If you find one false, say at which input.
  Laid BY PROGRAM, IN A SANDBOX (cutbox-rows.mjs): the forced cells as the released guide's own fill.sh prints them over the translation d6aa7f1fe58d2bf4… (all of the seat's roots in one cut). By AI agents, Wed Nov 11 2026. No macro, syntax, notation, axiom, sorry.
-/
import Derived.Test.YtjbcbnemdhbhbaaGreatDoorChecked
import GoSem.PinnedTables
import GoSem.Claim
import GoSem.ClaimJoined
import GoSem.ClaimMapViews
import Derived.JoinedTies
import Derived.KernelRfl
namespace Go.Proofs.YtjbcbnemdhbhbaaGreatDoor
/- THE CELL 'sum', in the pinned program and in every row, IS THE sha256 OF THE DUMP (.gsa) THAT YtjbcbnemdhbhbaaGreatDoorProg.lean LOADS. Nothing in Lean hashes anything: it is a label: what it is worth is what the hold of that sum in a sandbox is worth. -/
noncomputable def Tryz.pinned : Pinned := { name := "ytjbcbnemdhbhbaagreatdoor", sum := "d6aa7f1fe58d2bf4cc7d848491c059183ffeac2bae198673c01151b24a6190d3", checked := Tryz.checked }
namespace Rows
def none {H : Type} : Left H := { results := [], args := [] }

/- WHAT THE LISTED PACKAGE-LEVEL VARIABLES READ AS WHEN THE CALL BEGINS. Each datum BY PROGRAM (the guide's laid-datum.mjs) off the statement by which the dump's own 'gosem.cut.vars' lays the variable. In a bare row this is a premise. The card (YtjbcbnemdhbhbaaGreatDoorCards.lean) ties it to the program's text. -/
def laid_rollbook_crc_row {H : Type} : DataW H := .agg [.lit (.int .u32 0), .lit (.int .u32 498536548), .lit (.int .u32 997073096), .lit (.int .u32 651767980), .lit (.int .u32 1994146192), .lit (.int .u32 1802195444), .lit (.int .u32 1303535960), .lit (.int .u32 1342533948), .lit (.int .u32 3988292384), .lit (.int .u32 4027552580), .lit (.int .u32 3604390888), .lit (.int .u32 3412177804), .lit (.int .u32 2607071920), .lit (.int .u32 2262029012), .lit (.int .u32 2685067896), .lit (.int .u32 3183342108)]
def laid_unicode_utf8_acceptRanges {H : Type} : DataW H := .agg [.agg [.lit (.int .u8 128), .lit (.int .u8 191)], .agg [.lit (.int .u8 160), .lit (.int .u8 191)], .agg [.lit (.int .u8 128), .lit (.int .u8 159)], .agg [.lit (.int .u8 144), .lit (.int .u8 191)], .agg [.lit (.int .u8 128), .lit (.int .u8 143)], .agg [.lit (.int .u8 0), .lit (.int .u8 0)], .agg [.lit (.int .u8 0), .lit (.int .u8 0)], .agg [.lit (.int .u8 0), .lit (.int .u8 0)], .agg [.lit (.int .u8 0), .lit (.int .u8 0)], .agg [.lit (.int .u8 0), .lit (.int .u8 0)], .agg [.lit (.int .u8 0), .lit (.int .u8 0)], .agg [.lit (.int .u8 0), .lit (.int .u8 0)], .agg [.lit (.int .u8 0), .lit (.int .u8 0)], .agg [.lit (.int .u8 0), .lit (.int .u8 0)], .agg [.lit (.int .u8 0), .lit (.int .u8 0)], .agg [.lit (.int .u8 0), .lit (.int .u8 0)]]
/-- One of Go's own tables, pinned by name: the form's constant. -/
def laid_unicode_utf8_first : DataW Unit := Go.Pinned.utf8First

/-- 'rollbooklaw11.KvRoom': WHATEVER THE INPUT: true; the input reads as it did. -/
def kvRoomSpec : ChangeSpec := { name := "kvRoom", fn := fun _ => fun
  | [d1, d2] => { results := [.lit (.bool true)], args := [d1, d2] }
  | _ => none }
def kvRoomRow : OpenClaim := { program := "ytjbcbnemdhbhbaagreatdoor", sum := "d6aa7f1fe58d2bf4cc7d848491c059183ffeac2bae198673c01151b24a6190d3", func := "rollbook/rollbooklaw11.KvRoom", spec := "kvRoom", inPlace := ["internal/abi.NoEscape", "internal/bytealg.MakeNoZero", "slices.overlaps[rollbook/api.Free]", "slices.overlaps[rollbook/api.Cell]"], unfollowed := true, recurses := true, named := ["rollbook/crc.row"], apart := false, laid := [("rollbook/crc.row", laid_rollbook_crc_row)] }
def KvRoomSaid : Prop := kvRoomRow.holds Tryz.pinned (OpenSpec.ofChange kvRoomSpec)

/-- ITS FALSE NEIGHBOUR: 'it returns false'. Refute it at one input. -/
def kvRoomWrong : ChangeSpec := { name := "kvRoom", fn := fun _ => fun
  | [d1, d2] => { results := [.lit (.bool false)], args := [d1, d2] }
  | _ => none }
def KvRoomWrongFalsely : Prop := kvRoomRow.holds Tryz.pinned (OpenSpec.ofChange kvRoomWrong)

/-- 'rollbooklaw11.KvNil': WHATEVER THE INPUT: true; the input reads as it did. -/
def kvNilSpec : ChangeSpec := { name := "kvNil", fn := fun _ => fun
  | [d] => { results := [.lit (.bool true)], args := [d] }
  | _ => none }
def kvNilRow : OpenClaim := { program := "ytjbcbnemdhbhbaagreatdoor", sum := "d6aa7f1fe58d2bf4cc7d848491c059183ffeac2bae198673c01151b24a6190d3", func := "rollbook/rollbooklaw11.KvNil", spec := "kvNil", inPlace := ["internal/abi.NoEscape", "internal/bytealg.MakeNoZero", "slices.overlaps[rollbook/api.Free]", "slices.overlaps[rollbook/api.Cell]"], unfollowed := true, recurses := true, named := ["rollbook/crc.row"], apart := false, laid := [("rollbook/crc.row", laid_rollbook_crc_row)] }
def KvNilSaid : Prop := kvNilRow.holds Tryz.pinned (OpenSpec.ofChange kvNilSpec)

/-- ITS FALSE NEIGHBOUR: 'it returns false'. Refute it at one input. -/
def kvNilWrong : ChangeSpec := { name := "kvNil", fn := fun _ => fun
  | [d] => { results := [.lit (.bool false)], args := [d] }
  | _ => none }
def KvNilWrongFalsely : Prop := kvNilRow.holds Tryz.pinned (OpenSpec.ofChange kvNilWrong)

/-- 'rollbooklaw11.KvLeaks': WHATEVER THE INPUT: true; the input reads as it did. -/
def kvLeaksSpec : ChangeSpec := { name := "kvLeaks", fn := fun _ => fun
  | [d1, d2] => { results := [.lit (.bool true)], args := [d1, d2] }
  | _ => none }
def kvLeaksRow : OpenClaim := { program := "ytjbcbnemdhbhbaagreatdoor", sum := "d6aa7f1fe58d2bf4cc7d848491c059183ffeac2bae198673c01151b24a6190d3", func := "rollbook/rollbooklaw11.KvLeaks", spec := "kvLeaks", inPlace := ["internal/abi.NoEscape", "internal/bytealg.MakeNoZero", "slices.overlaps[rollbook/api.Free]", "slices.overlaps[rollbook/api.Cell]"], unfollowed := true, recurses := true, named := ["rollbook/crc.row"], apart := false, laid := [("rollbook/crc.row", laid_rollbook_crc_row)] }
def KvLeaksSaid : Prop := kvLeaksRow.holds Tryz.pinned (OpenSpec.ofChange kvLeaksSpec)

/-- ITS FALSE NEIGHBOUR: 'it returns false'. Refute it at one input. -/
def kvLeaksWrong : ChangeSpec := { name := "kvLeaks", fn := fun _ => fun
  | [d1, d2] => { results := [.lit (.bool false)], args := [d1, d2] }
  | _ => none }
def KvLeaksWrongFalsely : Prop := kvLeaksRow.holds Tryz.pinned (OpenSpec.ofChange kvLeaksWrong)

/-- 'rollbooklaw12.AuditChecks': WHATEVER THE INPUT: true; the input reads as it did. -/
def auditChecksSpec : ChangeSpec := { name := "auditChecks", fn := fun _ => fun
  | [d] => { results := [.lit (.bool true)], args := [d] }
  | _ => none }
def auditChecksRow : OpenClaim := { program := "ytjbcbnemdhbhbaagreatdoor", sum := "d6aa7f1fe58d2bf4cc7d848491c059183ffeac2bae198673c01151b24a6190d3", func := "rollbook/rollbooklaw12.AuditChecks", spec := "auditChecks", inPlace := ["internal/abi.NoEscape", "internal/bytealg.MakeNoZero", "slices.overlaps[rollbook/api.Free]", "slices.overlaps[rollbook/api.Cell]"], unfollowed := true, recurses := true, named := ["rollbook/crc.row"], apart := false, laid := [("rollbook/crc.row", laid_rollbook_crc_row)] }
def AuditChecksSaid : Prop := auditChecksRow.holds Tryz.pinned (OpenSpec.ofChange auditChecksSpec)

/-- ITS FALSE NEIGHBOUR: 'it returns false'. Refute it at one input. -/
def auditChecksWrong : ChangeSpec := { name := "auditChecks", fn := fun _ => fun
  | [d] => { results := [.lit (.bool false)], args := [d] }
  | _ => none }
def AuditChecksWrongFalsely : Prop := auditChecksRow.holds Tryz.pinned (OpenSpec.ofChange auditChecksWrong)

/-- 'rollbooklaw11.KvPages': WHATEVER THE INPUT: true; the input reads as it did. -/
def kvPagesSpec : ChangeSpec := { name := "kvPages", fn := fun _ => fun
  | [d1, d2] => { results := [.lit (.bool true)], args := [d1, d2] }
  | _ => none }
def kvPagesRow : OpenClaim := { program := "ytjbcbnemdhbhbaagreatdoor", sum := "d6aa7f1fe58d2bf4cc7d848491c059183ffeac2bae198673c01151b24a6190d3", func := "rollbook/rollbooklaw11.KvPages", spec := "kvPages", inPlace := ["internal/abi.NoEscape", "internal/bytealg.MakeNoZero", "slices.overlaps[rollbook/api.Free]", "slices.overlaps[rollbook/api.Cell]"], unfollowed := true, recurses := true, named := ["rollbook/crc.row"], apart := false, laid := [("rollbook/crc.row", laid_rollbook_crc_row)] }
def KvPagesSaid : Prop := kvPagesRow.holds Tryz.pinned (OpenSpec.ofChange kvPagesSpec)

/-- ITS FALSE NEIGHBOUR: 'it returns false'. Refute it at one input. -/
def kvPagesWrong : ChangeSpec := { name := "kvPages", fn := fun _ => fun
  | [d1, d2] => { results := [.lit (.bool false)], args := [d1, d2] }
  | _ => none }
def KvPagesWrongFalsely : Prop := kvPagesRow.holds Tryz.pinned (OpenSpec.ofChange kvPagesWrong)

/-- 'rollbooklaw12.AuditLists': WHATEVER THE INPUT: true; the input reads as it did. -/
def auditListsSpec : ChangeSpec := { name := "auditLists", fn := fun _ => fun
  | [d1, d2] => { results := [.lit (.bool true)], args := [d1, d2] }
  | _ => none }
def auditListsRow : OpenClaim := { program := "ytjbcbnemdhbhbaagreatdoor", sum := "d6aa7f1fe58d2bf4cc7d848491c059183ffeac2bae198673c01151b24a6190d3", func := "rollbook/rollbooklaw12.AuditLists", spec := "auditLists", inPlace := ["internal/abi.NoEscape", "internal/bytealg.MakeNoZero", "slices.overlaps[rollbook/api.Free]", "slices.overlaps[rollbook/api.Cell]", "internal/bytealg.CountString", "internal/bytealg.IndexByteString", "internal/bytealg.IndexString"], unfollowed := true, recurses := true, named := ["rollbook/crc.row", "internal/bytealg.MaxLen", "unicode/utf8.first", "unicode/utf8.acceptRanges"], apart := false, laid := [("rollbook/crc.row", laid_rollbook_crc_row), ("unicode/utf8.acceptRanges", laid_unicode_utf8_acceptRanges), ("unicode/utf8.first", laid_unicode_utf8_first)] }
def AuditListsSaid : Prop := auditListsRow.holds Tryz.pinned (OpenSpec.ofChange auditListsSpec)

/-- ITS FALSE NEIGHBOUR: 'it returns false'. Refute it at one input. -/
def auditListsWrong : ChangeSpec := { name := "auditLists", fn := fun _ => fun
  | [d1, d2] => { results := [.lit (.bool false)], args := [d1, d2] }
  | _ => none }
def AuditListsWrongFalsely : Prop := auditListsRow.holds Tryz.pinned (OpenSpec.ofChange auditListsWrong)

/- THE SECOND FORM. 'bulk': how many values and letters a reading holds, each counted each time it is reached (what is shared counts as often as it is met; a slice's spare places count too). A statement '..UptoSaid' is the law's where the arguments, and the package variables that the reading takes, are together of bulk at most 1048576: NARROWER than '..Said'. Prove '..Said' where nothing that the law and all that it calls make is longer than what came in: it says more and counts as full. Else prove '..UptoSaid'. A law counts once. -/
mutual
def uptoBulk {H : Type} : DataW H → Nat
  | .lit (.string bytes) => bytes.length + 1
  | .lit _ => 1
  | .nil => 1
  | .ptr d => uptoBulk d + 1
  | .slice elems spare => uptoBulkAll elems + uptoBulkAll spare + 1
  | .agg parts => uptoBulkAll parts + 1
  | .iface _ d => uptoBulk d + 1
  | .map entries => uptoBulkEntries entries + 1
  | .held _ => 1
def uptoBulkAll {H : Type} : List (DataW H) → Nat
  | [] => 0
  | d :: r => uptoBulk d + uptoBulkAll r
def uptoBulkEntries {H : Type} : List (Lit × DataW H) → Nat
  | [] => 0
  | x :: r => uptoBulkEntry x + uptoBulkEntries r
def uptoBulkEntry {H : Type} : Lit × DataW H → Nat
  | (.string bytes, d) => bytes.length + uptoBulk d + 1
  | (_, d) => uptoBulk d + 1
 end
def uptoSmall : (H : Type) → List (DataW H) → Bool := fun _ ds => decide (uptoBulkAll ds ≤ 1048576)
def OpenSpec.upto (s : _root_.Go.ChangeSpec) : _root_.Go.OpenSpec := { _root_.Go.OpenSpec.ofChange s with cond := some uptoSmall }

/-- 'rollbooklaw11.KvRoom', WHERE WHAT IT READS IS OF BULK AT MOST 1048576: true; the input reads as it did. -/
def kvRoomUptoRow : OpenClaim := { program := "ytjbcbnemdhbhbaagreatdoor", sum := "d6aa7f1fe58d2bf4cc7d848491c059183ffeac2bae198673c01151b24a6190d3", func := "rollbook/rollbooklaw11.KvRoom", spec := "kvRoom", inPlace := ["internal/abi.NoEscape", "internal/bytealg.MakeNoZero", "slices.overlaps[rollbook/api.Free]", "slices.overlaps[rollbook/api.Cell]"], unfollowed := true, recurses := true, named := ["rollbook/crc.row"], apart := false, laid := [("rollbook/crc.row", laid_rollbook_crc_row)], narrowed := true }
def KvRoomUptoSaid : Prop := kvRoomUptoRow.holds Tryz.pinned (OpenSpec.upto kvRoomSpec)

/-- 'rollbooklaw11.KvNil', WHERE WHAT IT READS IS OF BULK AT MOST 1048576: true; the input reads as it did. -/
def kvNilUptoRow : OpenClaim := { program := "ytjbcbnemdhbhbaagreatdoor", sum := "d6aa7f1fe58d2bf4cc7d848491c059183ffeac2bae198673c01151b24a6190d3", func := "rollbook/rollbooklaw11.KvNil", spec := "kvNil", inPlace := ["internal/abi.NoEscape", "internal/bytealg.MakeNoZero", "slices.overlaps[rollbook/api.Free]", "slices.overlaps[rollbook/api.Cell]"], unfollowed := true, recurses := true, named := ["rollbook/crc.row"], apart := false, laid := [("rollbook/crc.row", laid_rollbook_crc_row)], narrowed := true }
def KvNilUptoSaid : Prop := kvNilUptoRow.holds Tryz.pinned (OpenSpec.upto kvNilSpec)

/-- 'rollbooklaw11.KvLeaks', WHERE WHAT IT READS IS OF BULK AT MOST 1048576: true; the input reads as it did. -/
def kvLeaksUptoRow : OpenClaim := { program := "ytjbcbnemdhbhbaagreatdoor", sum := "d6aa7f1fe58d2bf4cc7d848491c059183ffeac2bae198673c01151b24a6190d3", func := "rollbook/rollbooklaw11.KvLeaks", spec := "kvLeaks", inPlace := ["internal/abi.NoEscape", "internal/bytealg.MakeNoZero", "slices.overlaps[rollbook/api.Free]", "slices.overlaps[rollbook/api.Cell]"], unfollowed := true, recurses := true, named := ["rollbook/crc.row"], apart := false, laid := [("rollbook/crc.row", laid_rollbook_crc_row)], narrowed := true }
def KvLeaksUptoSaid : Prop := kvLeaksUptoRow.holds Tryz.pinned (OpenSpec.upto kvLeaksSpec)

/-- 'rollbooklaw12.AuditChecks', WHERE WHAT IT READS IS OF BULK AT MOST 1048576: true; the input reads as it did. -/
def auditChecksUptoRow : OpenClaim := { program := "ytjbcbnemdhbhbaagreatdoor", sum := "d6aa7f1fe58d2bf4cc7d848491c059183ffeac2bae198673c01151b24a6190d3", func := "rollbook/rollbooklaw12.AuditChecks", spec := "auditChecks", inPlace := ["internal/abi.NoEscape", "internal/bytealg.MakeNoZero", "slices.overlaps[rollbook/api.Free]", "slices.overlaps[rollbook/api.Cell]"], unfollowed := true, recurses := true, named := ["rollbook/crc.row"], apart := false, laid := [("rollbook/crc.row", laid_rollbook_crc_row)], narrowed := true }
def AuditChecksUptoSaid : Prop := auditChecksUptoRow.holds Tryz.pinned (OpenSpec.upto auditChecksSpec)

/-- 'rollbooklaw11.KvPages', WHERE WHAT IT READS IS OF BULK AT MOST 1048576: true; the input reads as it did. -/
def kvPagesUptoRow : OpenClaim := { program := "ytjbcbnemdhbhbaagreatdoor", sum := "d6aa7f1fe58d2bf4cc7d848491c059183ffeac2bae198673c01151b24a6190d3", func := "rollbook/rollbooklaw11.KvPages", spec := "kvPages", inPlace := ["internal/abi.NoEscape", "internal/bytealg.MakeNoZero", "slices.overlaps[rollbook/api.Free]", "slices.overlaps[rollbook/api.Cell]"], unfollowed := true, recurses := true, named := ["rollbook/crc.row"], apart := false, laid := [("rollbook/crc.row", laid_rollbook_crc_row)], narrowed := true }
def KvPagesUptoSaid : Prop := kvPagesUptoRow.holds Tryz.pinned (OpenSpec.upto kvPagesSpec)

/-- 'rollbooklaw12.AuditLists', WHERE WHAT IT READS IS OF BULK AT MOST 1048576: true; the input reads as it did. -/
def auditListsUptoRow : OpenClaim := { program := "ytjbcbnemdhbhbaagreatdoor", sum := "d6aa7f1fe58d2bf4cc7d848491c059183ffeac2bae198673c01151b24a6190d3", func := "rollbook/rollbooklaw12.AuditLists", spec := "auditLists", inPlace := ["internal/abi.NoEscape", "internal/bytealg.MakeNoZero", "slices.overlaps[rollbook/api.Free]", "slices.overlaps[rollbook/api.Cell]", "internal/bytealg.CountString", "internal/bytealg.IndexByteString", "internal/bytealg.IndexString"], unfollowed := true, recurses := true, named := ["rollbook/crc.row", "internal/bytealg.MaxLen", "unicode/utf8.first", "unicode/utf8.acceptRanges"], apart := false, laid := [("rollbook/crc.row", laid_rollbook_crc_row), ("unicode/utf8.acceptRanges", laid_unicode_utf8_acceptRanges), ("unicode/utf8.first", laid_unicode_utf8_first)], narrowed := true }
def AuditListsUptoSaid : Prop := auditListsUptoRow.holds Tryz.pinned (OpenSpec.upto auditListsSpec)

end Rows
end Go.Proofs.YtjbcbnemdhbhbaaGreatDoor
