/-
  NARROWER THAN 'FOR EVERY INPUT', by the rows' own cells (each row's printed sentence says how): MsgWide: loops, laid · MsgBehind: loops, laid · MsgAnswers: laid.
  DERIVED. THE GIVEN ROWS OF THIS SEAT. 3 by the template 'for every input the law returns true; each argument reads behind the call as it read before'; 0 by the template 'total and deterministic' (their statements: YtbiglfpikfjbpaaDoorTotals.lean).
  GIVEN WITH THE SEED: the statements are not yours to turn. If you find one false, say at which input.
  Laid BY PROGRAM, IN A SANDBOX (cutbox-rows.mjs): the forced cells as the released guide's own fill.sh prints them over the translation ba6fc5c6b0ffe4a0… (all of the seat's roots in one cut). By AI agents, Wed Nov 11 2026. No macro, syntax, notation, axiom, sorry.
-/
import Derived.Test.YtbiglfpikfjbpaaDoorChecked
import GoSem.Claim
import GoSem.ClaimJoined
import GoSem.ClaimMapViews
import Derived.JoinedTies
import Derived.KernelRfl
namespace Go.Proofs.YtbiglfpikfjbpaaDoor
/- THE CELL 'sum', in the pinned program and in every row, IS THE sha256 OF THE DUMP (.gsa) THAT YtbiglfpikfjbpaaDoorProg.lean LOADS. Nothing in Lean hashes anything: it is a label: what it is worth is what the hold of that sum in a sandbox is worth. -/
noncomputable def Tryd.pinned : Pinned := { name := "ytbiglfpikfjbpaadoor", sum := "ba6fc5c6b0ffe4a0f70d1836ada7c423c4a5a50bd1027387427b3183c42b3129", checked := Tryd.checked }
namespace Rows
def none {H : Type} : Left H := { results := [], args := [] }

/- WHAT THE LISTED PACKAGE-LEVEL VARIABLES READ AS WHEN THE CALL BEGINS. Each datum BY PROGRAM (the guide's laid-datum.mjs) off the statement by which the dump's own 'gosem.cut.vars' lays the variable. In a bare row this is a premise. The card (YtbiglfpikfjbpaaDoorCards.lean) ties it to the program's text. -/
def laid_rollbook_msg_answers {H : Type} : DataW H := .agg [.agg [.lit (.int .i64 0), .lit (.int .i64 1)], .agg [.lit (.int .i64 3), .lit (.int .i64 5)], .agg [.lit (.int .i64 6), .lit (.int .i64 7)], .agg [.lit (.int .i64 8), .lit (.int .i64 9)], .agg [.lit (.int .i64 10), .lit (.int .i64 11)], .agg [.lit (.int .i64 12), .lit (.int .i64 13)], .agg [.lit (.int .i64 14), .lit (.int .i64 15)], .agg [.lit (.int .i64 23), .lit (.int .i64 24)]]

/-- 'rollbooklaw26.MsgWide': WHATEVER THE INPUT: true; the input reads as it did. -/
def msgWideSpec : ChangeSpec := { name := "msgWide", fn := fun _ => fun
  | [d1, d2] => { results := [.lit (.bool true)], args := [d1, d2] }
  | _ => none }
def msgWideRow : OpenClaim := { program := "ytbiglfpikfjbpaadoor", sum := "ba6fc5c6b0ffe4a0f70d1836ada7c423c4a5a50bd1027387427b3183c42b3129", func := "rollbook/rollbooklaw26.MsgWide", spec := "msgWide", inPlace := ["internal/abi.NoEscape"], unfollowed := true, recurses := true, named := ["rollbook/msg.answers"], loops := true, apart := false, laid := [("rollbook/msg.answers", laid_rollbook_msg_answers)] }
def MsgWideSaid : Prop := msgWideRow.holds Tryd.pinned (OpenSpec.ofChange msgWideSpec)

/-- ITS FALSE NEIGHBOUR: 'it returns false'. Refute it at one input. -/
def msgWideWrong : ChangeSpec := { name := "msgWide", fn := fun _ => fun
  | [d1, d2] => { results := [.lit (.bool false)], args := [d1, d2] }
  | _ => none }
def MsgWideWrongFalsely : Prop := msgWideRow.holds Tryd.pinned (OpenSpec.ofChange msgWideWrong)

/-- 'rollbooklaw26.MsgBehind': WHATEVER THE INPUT: true; the input reads as it did. -/
def msgBehindSpec : ChangeSpec := { name := "msgBehind", fn := fun _ => fun
  | [d1, d2, d3] => { results := [.lit (.bool true)], args := [d1, d2, d3] }
  | _ => none }
def msgBehindRow : OpenClaim := { program := "ytbiglfpikfjbpaadoor", sum := "ba6fc5c6b0ffe4a0f70d1836ada7c423c4a5a50bd1027387427b3183c42b3129", func := "rollbook/rollbooklaw26.MsgBehind", spec := "msgBehind", inPlace := ["internal/abi.NoEscape"], unfollowed := true, recurses := true, named := ["rollbook/msg.answers"], loops := true, apart := false, laid := [("rollbook/msg.answers", laid_rollbook_msg_answers)] }
def MsgBehindSaid : Prop := msgBehindRow.holds Tryd.pinned (OpenSpec.ofChange msgBehindSpec)

/-- ITS FALSE NEIGHBOUR: 'it returns false'. Refute it at one input. -/
def msgBehindWrong : ChangeSpec := { name := "msgBehind", fn := fun _ => fun
  | [d1, d2, d3] => { results := [.lit (.bool false)], args := [d1, d2, d3] }
  | _ => none }
def MsgBehindWrongFalsely : Prop := msgBehindRow.holds Tryd.pinned (OpenSpec.ofChange msgBehindWrong)

/-- 'rollbooklaw26.MsgAnswers': WHATEVER THE INPUT: true; the input reads as it did. -/
def msgAnswersSpec : ChangeSpec := { name := "msgAnswers", fn := fun _ => fun
  | [d] => { results := [.lit (.bool true)], args := [d] }
  | _ => none }
def msgAnswersRow : OpenClaim := { program := "ytbiglfpikfjbpaadoor", sum := "ba6fc5c6b0ffe4a0f70d1836ada7c423c4a5a50bd1027387427b3183c42b3129", func := "rollbook/rollbooklaw26.MsgAnswers", spec := "msgAnswers", inPlace := ["internal/abi.NoEscape"], unfollowed := true, recurses := true, named := ["rollbook/msg.answers"], apart := false, laid := [("rollbook/msg.answers", laid_rollbook_msg_answers)] }
def MsgAnswersSaid : Prop := msgAnswersRow.holds Tryd.pinned (OpenSpec.ofChange msgAnswersSpec)

/-- ITS FALSE NEIGHBOUR: 'it returns false'. Refute it at one input. -/
def msgAnswersWrong : ChangeSpec := { name := "msgAnswers", fn := fun _ => fun
  | [d] => { results := [.lit (.bool false)], args := [d] }
  | _ => none }
def MsgAnswersWrongFalsely : Prop := msgAnswersRow.holds Tryd.pinned (OpenSpec.ofChange msgAnswersWrong)

/- THE SECOND FORM. 'bulk': how many values and letters a reading holds, each counted each time it is reached (what is shared counts as often as it is met; a slice's spare places count too). A statement '..UptoSaid' is the law's where the arguments, and the package variables that the reading takes, are together of bulk at most 1048576: NARROWER than '..Said'. Prove '..Said' where nothing that the law and all that it calls make is longer than what came in: it says more and counts as full. Else prove '..UptoSaid'. A law counts once. -/
mutual
def uptoBulk {H : Type} : DataW H → Nat
  | .lit (.string bytes) => bytes.length + 1
  | .lit _ => 1
  | .nil => 1
  | .ptr d => uptoBulk d + 1
  | .slice elems spare => uptoBulkAll elems + uptoBulkAll spare + 1
  | .agg parts => uptoBulkAll parts + 1
  | .iface _ d => uptoBulk d + 1
  | .map entries => uptoBulkEntries entries + 1
  | .held _ => 1
def uptoBulkAll {H : Type} : List (DataW H) → Nat
  | [] => 0
  | d :: r => uptoBulk d + uptoBulkAll r
def uptoBulkEntries {H : Type} : List (Lit × DataW H) → Nat
  | [] => 0
  | x :: r => uptoBulkEntry x + uptoBulkEntries r
def uptoBulkEntry {H : Type} : Lit × DataW H → Nat
  | (.string bytes, d) => bytes.length + uptoBulk d + 1
  | (_, d) => uptoBulk d + 1
 end
def uptoSmall : (H : Type) → List (DataW H) → Bool := fun _ ds => decide (uptoBulkAll ds ≤ 1048576)
def OpenSpec.upto (s : _root_.Go.ChangeSpec) : _root_.Go.OpenSpec := { _root_.Go.OpenSpec.ofChange s with cond := some uptoSmall }

/-- 'rollbooklaw26.MsgWide', WHERE WHAT IT READS IS OF BULK AT MOST 1048576: true; the input reads as it did. -/
def msgWideUptoRow : OpenClaim := { program := "ytbiglfpikfjbpaadoor", sum := "ba6fc5c6b0ffe4a0f70d1836ada7c423c4a5a50bd1027387427b3183c42b3129", func := "rollbook/rollbooklaw26.MsgWide", spec := "msgWide", inPlace := ["internal/abi.NoEscape"], unfollowed := true, recurses := true, named := ["rollbook/msg.answers"], loops := true, apart := false, laid := [("rollbook/msg.answers", laid_rollbook_msg_answers)], narrowed := true }
def MsgWideUptoSaid : Prop := msgWideUptoRow.holds Tryd.pinned (OpenSpec.upto msgWideSpec)

/-- 'rollbooklaw26.MsgBehind', WHERE WHAT IT READS IS OF BULK AT MOST 1048576: true; the input reads as it did. -/
def msgBehindUptoRow : OpenClaim := { program := "ytbiglfpikfjbpaadoor", sum := "ba6fc5c6b0ffe4a0f70d1836ada7c423c4a5a50bd1027387427b3183c42b3129", func := "rollbook/rollbooklaw26.MsgBehind", spec := "msgBehind", inPlace := ["internal/abi.NoEscape"], unfollowed := true, recurses := true, named := ["rollbook/msg.answers"], loops := true, apart := false, laid := [("rollbook/msg.answers", laid_rollbook_msg_answers)], narrowed := true }
def MsgBehindUptoSaid : Prop := msgBehindUptoRow.holds Tryd.pinned (OpenSpec.upto msgBehindSpec)

/-- 'rollbooklaw26.MsgAnswers', WHERE WHAT IT READS IS OF BULK AT MOST 1048576: true; the input reads as it did. -/
def msgAnswersUptoRow : OpenClaim := { program := "ytbiglfpikfjbpaadoor", sum := "ba6fc5c6b0ffe4a0f70d1836ada7c423c4a5a50bd1027387427b3183c42b3129", func := "rollbook/rollbooklaw26.MsgAnswers", spec := "msgAnswers", inPlace := ["internal/abi.NoEscape"], unfollowed := true, recurses := true, named := ["rollbook/msg.answers"], apart := false, laid := [("rollbook/msg.answers", laid_rollbook_msg_answers)], narrowed := true }
def MsgAnswersUptoSaid : Prop := msgAnswersUptoRow.holds Tryd.pinned (OpenSpec.upto msgAnswersSpec)

end Rows
end Go.Proofs.YtbiglfpikfjbpaaDoor
