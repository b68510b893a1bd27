/-
  NARROWER THAN 'FOR EVERY INPUT', by the rows' own cells (each row's printed sentence says how): MsgEncodes: loops, laid · MsgReads: laid.
  DERIVED. THE GIVEN ROWS OF THIS SEAT. 2 by the template 'for every input the law returns true; each argument reads behind the call as it read before'; 0 by the template 'total and deterministic' (their statements: YtbiglfpikfjbpaaGreatDoorTotals.lean).
  GIVEN WITH THE SEED: the statements are not yours to turn. If you find one false, say at which input.
  Laid BY PROGRAM, IN A SANDBOX (cutbox-rows.mjs): the forced cells as the released guide's own fill.sh prints them over the translation ba2b8c3af275f0d9… (all of the seat's roots in one cut). By AI agents, Wed Nov 11 2026. No macro, syntax, notation, axiom, sorry.
-/
import Derived.Test.YtbiglfpikfjbpaaGreatDoorChecked
import GoSem.Claim
import GoSem.ClaimJoined
import GoSem.ClaimMapViews
import Derived.JoinedTies
import Derived.KernelRfl
namespace Go.Proofs.YtbiglfpikfjbpaaGreatDoor
/- THE CELL 'sum', in the pinned program and in every row, IS THE sha256 OF THE DUMP (.gsa) THAT YtbiglfpikfjbpaaGreatDoorProg.lean LOADS. Nothing in Lean hashes anything: it is a label: what it is worth is what the hold of that sum in a sandbox is worth. -/
noncomputable def Tryz.pinned : Pinned := { name := "ytbiglfpikfjbpaagreatdoor", sum := "ba2b8c3af275f0d95f3e34e059a4f15fef2f9b3d4d536e4c4852412bdf1994b4", checked := Tryz.checked }
namespace Rows
def none {H : Type} : Left H := { results := [], args := [] }

/- WHAT THE LISTED PACKAGE-LEVEL VARIABLES READ AS WHEN THE CALL BEGINS. Each datum BY PROGRAM (the guide's laid-datum.mjs) off the statement by which the dump's own 'gosem.cut.vars' lays the variable. In a bare row this is a premise. The card (YtbiglfpikfjbpaaGreatDoorCards.lean) ties it to the program's text. -/
def laid_rollbook_msg_answers {H : Type} : DataW H := .agg [.agg [.lit (.int .i64 0), .lit (.int .i64 1)], .agg [.lit (.int .i64 3), .lit (.int .i64 5)], .agg [.lit (.int .i64 6), .lit (.int .i64 7)], .agg [.lit (.int .i64 8), .lit (.int .i64 9)], .agg [.lit (.int .i64 10), .lit (.int .i64 11)], .agg [.lit (.int .i64 12), .lit (.int .i64 13)], .agg [.lit (.int .i64 14), .lit (.int .i64 15)], .agg [.lit (.int .i64 23), .lit (.int .i64 24)]]

/-- 'rollbooklaw26.MsgEncodes': WHATEVER THE INPUT: true; the input reads as it did. -/
def msgEncodesSpec : ChangeSpec := { name := "msgEncodes", fn := fun _ => fun
  | [d] => { results := [.lit (.bool true)], args := [d] }
  | _ => none }
def msgEncodesRow : OpenClaim := { program := "ytbiglfpikfjbpaagreatdoor", sum := "ba2b8c3af275f0d95f3e34e059a4f15fef2f9b3d4d536e4c4852412bdf1994b4", func := "rollbook/rollbooklaw26.MsgEncodes", spec := "msgEncodes", inPlace := ["internal/abi.NoEscape"], unfollowed := true, recurses := true, named := ["rollbook/msg.answers"], loops := true, apart := false, laid := [("rollbook/msg.answers", laid_rollbook_msg_answers)] }
def MsgEncodesSaid : Prop := msgEncodesRow.holds Tryz.pinned (OpenSpec.ofChange msgEncodesSpec)

/-- ITS FALSE NEIGHBOUR: 'it returns false'. Refute it at one input. -/
def msgEncodesWrong : ChangeSpec := { name := "msgEncodes", fn := fun _ => fun
  | [d] => { results := [.lit (.bool false)], args := [d] }
  | _ => none }
def MsgEncodesWrongFalsely : Prop := msgEncodesRow.holds Tryz.pinned (OpenSpec.ofChange msgEncodesWrong)

/-- 'rollbooklaw26.MsgReads': WHATEVER THE INPUT: true; the input reads as it did. -/
def msgReadsSpec : ChangeSpec := { name := "msgReads", fn := fun _ => fun
  | [d] => { results := [.lit (.bool true)], args := [d] }
  | _ => none }
def msgReadsRow : OpenClaim := { program := "ytbiglfpikfjbpaagreatdoor", sum := "ba2b8c3af275f0d95f3e34e059a4f15fef2f9b3d4d536e4c4852412bdf1994b4", func := "rollbook/rollbooklaw26.MsgReads", spec := "msgReads", inPlace := ["internal/abi.NoEscape"], unfollowed := true, recurses := true, named := ["rollbook/msg.answers"], apart := false, laid := [("rollbook/msg.answers", laid_rollbook_msg_answers)] }
def MsgReadsSaid : Prop := msgReadsRow.holds Tryz.pinned (OpenSpec.ofChange msgReadsSpec)

/-- ITS FALSE NEIGHBOUR: 'it returns false'. Refute it at one input. -/
def msgReadsWrong : ChangeSpec := { name := "msgReads", fn := fun _ => fun
  | [d] => { results := [.lit (.bool false)], args := [d] }
  | _ => none }
def MsgReadsWrongFalsely : Prop := msgReadsRow.holds Tryz.pinned (OpenSpec.ofChange msgReadsWrong)

/- THE SECOND FORM. 'bulk': how many values and letters a reading holds, each counted each time it is reached (what is shared counts as often as it is met; a slice's spare places count too). A statement '..UptoSaid' is the law's where the arguments, and the package variables that the reading takes, are together of bulk at most 1048576: NARROWER than '..Said'. Prove '..Said' where nothing that the law and all that it calls make is longer than what came in: it says more and counts as full. Else prove '..UptoSaid'. A law counts once. -/
mutual
def uptoBulk {H : Type} : DataW H → Nat
  | .lit (.string bytes) => bytes.length + 1
  | .lit _ => 1
  | .nil => 1
  | .ptr d => uptoBulk d + 1
  | .slice elems spare => uptoBulkAll elems + uptoBulkAll spare + 1
  | .agg parts => uptoBulkAll parts + 1
  | .iface _ d => uptoBulk d + 1
  | .map entries => uptoBulkEntries entries + 1
  | .held _ => 1
def uptoBulkAll {H : Type} : List (DataW H) → Nat
  | [] => 0
  | d :: r => uptoBulk d + uptoBulkAll r
def uptoBulkEntries {H : Type} : List (Lit × DataW H) → Nat
  | [] => 0
  | x :: r => uptoBulkEntry x + uptoBulkEntries r
def uptoBulkEntry {H : Type} : Lit × DataW H → Nat
  | (.string bytes, d) => bytes.length + uptoBulk d + 1
  | (_, d) => uptoBulk d + 1
 end
def uptoSmall : (H : Type) → List (DataW H) → Bool := fun _ ds => decide (uptoBulkAll ds ≤ 1048576)
def OpenSpec.upto (s : _root_.Go.ChangeSpec) : _root_.Go.OpenSpec := { _root_.Go.OpenSpec.ofChange s with cond := some uptoSmall }

/-- 'rollbooklaw26.MsgEncodes', WHERE WHAT IT READS IS OF BULK AT MOST 1048576: true; the input reads as it did. -/
def msgEncodesUptoRow : OpenClaim := { program := "ytbiglfpikfjbpaagreatdoor", sum := "ba2b8c3af275f0d95f3e34e059a4f15fef2f9b3d4d536e4c4852412bdf1994b4", func := "rollbook/rollbooklaw26.MsgEncodes", spec := "msgEncodes", inPlace := ["internal/abi.NoEscape"], unfollowed := true, recurses := true, named := ["rollbook/msg.answers"], loops := true, apart := false, laid := [("rollbook/msg.answers", laid_rollbook_msg_answers)], narrowed := true }
def MsgEncodesUptoSaid : Prop := msgEncodesUptoRow.holds Tryz.pinned (OpenSpec.upto msgEncodesSpec)

/-- 'rollbooklaw26.MsgReads', WHERE WHAT IT READS IS OF BULK AT MOST 1048576: true; the input reads as it did. -/
def msgReadsUptoRow : OpenClaim := { program := "ytbiglfpikfjbpaagreatdoor", sum := "ba2b8c3af275f0d95f3e34e059a4f15fef2f9b3d4d536e4c4852412bdf1994b4", func := "rollbook/rollbooklaw26.MsgReads", spec := "msgReads", inPlace := ["internal/abi.NoEscape"], unfollowed := true, recurses := true, named := ["rollbook/msg.answers"], apart := false, laid := [("rollbook/msg.answers", laid_rollbook_msg_answers)], narrowed := true }
def MsgReadsUptoSaid : Prop := msgReadsUptoRow.holds Tryz.pinned (OpenSpec.upto msgReadsSpec)

end Rows
end Go.Proofs.YtbiglfpikfjbpaaGreatDoor
