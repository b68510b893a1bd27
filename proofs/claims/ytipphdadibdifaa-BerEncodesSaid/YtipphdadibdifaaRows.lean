/-
  NARROWER THAN 'FOR EVERY INPUT', by the rows' own cells (each row's printed sentence says how): BerNumbers: loops · BerEncodes: loops · BerShort: loops.
  DERIVED. THE GIVEN ROWS OF THIS SEAT. 7 by the template 'for every input the law returns true; each argument reads behind the call as it read before'; 0 by the template 'total and deterministic' (their statements: YtipphdadibdifaaTotals.lean).
  GIVEN WITH THE SEED: the statements are not yours to turn. If you find one false, say at which input.
  Laid BY PROGRAM, IN A SANDBOX (cutbox-rows.mjs): the forced cells as the released guide's own fill.sh prints them over the translation c8afb67c12284d0a… (all of the seat's roots in one cut). By AI agents, Wed Nov 11 2026. No macro, syntax, notation, axiom, sorry.
-/
import Derived.Test.YtipphdadibdifaaChecked
import GoSem.Claim
import GoSem.ClaimJoined
import GoSem.ClaimMapViews
import Derived.JoinedTies
import Derived.KernelRfl
namespace Go.Proofs.Ytipphdadibdifaa
/- THE CELL 'sum', in the pinned program and in every row, IS THE sha256 OF THE DUMP (.gsa) THAT YtipphdadibdifaaProg.lean LOADS. Nothing in Lean hashes anything: it is a label: what it is worth is what the hold of that sum in a sandbox is worth. -/
noncomputable def Try.pinned : Pinned := { name := "ytipphdadibdifaa", sum := "c8afb67c12284d0a6b0af127b0ec6b991ff77d2b5777908b003f1338b04c7fd4", checked := Try.checked }
namespace Rows
def none {H : Type} : Left H := { results := [], args := [] }

/-- 'rollbooklaw27.FrameFeeds': WHATEVER THE INPUT: true; the input reads as it did. -/
def frameFeedsSpec : ChangeSpec := { name := "frameFeeds", fn := fun _ => fun
  | [d] => { results := [.lit (.bool true)], args := [d] }
  | _ => none }
def frameFeedsRow : OpenClaim := { program := "ytipphdadibdifaa", sum := "c8afb67c12284d0a6b0af127b0ec6b991ff77d2b5777908b003f1338b04c7fd4", func := "rollbook/rollbooklaw27.FrameFeeds", spec := "frameFeeds", apart := false }
def FrameFeedsSaid : Prop := frameFeedsRow.holds Try.pinned (OpenSpec.ofChange frameFeedsSpec)

/-- ITS FALSE NEIGHBOUR: 'it returns false'. Refute it at one input. -/
def frameFeedsWrong : ChangeSpec := { name := "frameFeeds", fn := fun _ => fun
  | [d] => { results := [.lit (.bool false)], args := [d] }
  | _ => none }
def FrameFeedsWrongFalsely : Prop := frameFeedsRow.holds Try.pinned (OpenSpec.ofChange frameFeedsWrong)

/-- 'rollbooklaw27.FrameNil': WHATEVER THE INPUT: true; the input reads as it did. -/
def frameNilSpec : ChangeSpec := { name := "frameNil", fn := fun _ => fun
  | [d] => { results := [.lit (.bool true)], args := [d] }
  | _ => none }
def frameNilRow : OpenClaim := { program := "ytipphdadibdifaa", sum := "c8afb67c12284d0a6b0af127b0ec6b991ff77d2b5777908b003f1338b04c7fd4", func := "rollbook/rollbooklaw27.FrameNil", spec := "frameNil", apart := false }
def FrameNilSaid : Prop := frameNilRow.holds Try.pinned (OpenSpec.ofChange frameNilSpec)

/-- ITS FALSE NEIGHBOUR: 'it returns false'. Refute it at one input. -/
def frameNilWrong : ChangeSpec := { name := "frameNil", fn := fun _ => fun
  | [d] => { results := [.lit (.bool false)], args := [d] }
  | _ => none }
def FrameNilWrongFalsely : Prop := frameNilRow.holds Try.pinned (OpenSpec.ofChange frameNilWrong)

/-- 'rollbooklaw27.FrameCuts': WHATEVER THE INPUT: true; the input reads as it did. -/
def frameCutsSpec : ChangeSpec := { name := "frameCuts", fn := fun _ => fun
  | [d1, d2] => { results := [.lit (.bool true)], args := [d1, d2] }
  | _ => none }
def frameCutsRow : OpenClaim := { program := "ytipphdadibdifaa", sum := "c8afb67c12284d0a6b0af127b0ec6b991ff77d2b5777908b003f1338b04c7fd4", func := "rollbook/rollbooklaw27.FrameCuts", spec := "frameCuts", apart := false }
def FrameCutsSaid : Prop := frameCutsRow.holds Try.pinned (OpenSpec.ofChange frameCutsSpec)

/-- ITS FALSE NEIGHBOUR: 'it returns false'. Refute it at one input. -/
def frameCutsWrong : ChangeSpec := { name := "frameCuts", fn := fun _ => fun
  | [d1, d2] => { results := [.lit (.bool false)], args := [d1, d2] }
  | _ => none }
def FrameCutsWrongFalsely : Prop := frameCutsRow.holds Try.pinned (OpenSpec.ofChange frameCutsWrong)

/-- 'rollbooklaw25.BerNumbers': WHATEVER THE INPUT: true; the input reads as it did. -/
def berNumbersSpec : ChangeSpec := { name := "berNumbers", fn := fun _ => fun
  | [d1, d2, d3, d4, d5] => { results := [.lit (.bool true)], args := [d1, d2, d3, d4, d5] }
  | _ => none }
def berNumbersRow : OpenClaim := { program := "ytipphdadibdifaa", sum := "c8afb67c12284d0a6b0af127b0ec6b991ff77d2b5777908b003f1338b04c7fd4", func := "rollbook/rollbooklaw25.BerNumbers", spec := "berNumbers", inPlace := ["internal/abi.NoEscape"], recurses := true, loops := true, apart := false }
def BerNumbersSaid : Prop := berNumbersRow.holds Try.pinned (OpenSpec.ofChange berNumbersSpec)

/-- ITS FALSE NEIGHBOUR: 'it returns false'. Refute it at one input. -/
def berNumbersWrong : ChangeSpec := { name := "berNumbers", fn := fun _ => fun
  | [d1, d2, d3, d4, d5] => { results := [.lit (.bool false)], args := [d1, d2, d3, d4, d5] }
  | _ => none }
def BerNumbersWrongFalsely : Prop := berNumbersRow.holds Try.pinned (OpenSpec.ofChange berNumbersWrong)

/-- 'rollbooklaw25.BerEncodes': WHATEVER THE INPUT: true; the input reads as it did. -/
def berEncodesSpec : ChangeSpec := { name := "berEncodes", fn := fun _ => fun
  | [d1, d2] => { results := [.lit (.bool true)], args := [d1, d2] }
  | _ => none }
def berEncodesRow : OpenClaim := { program := "ytipphdadibdifaa", sum := "c8afb67c12284d0a6b0af127b0ec6b991ff77d2b5777908b003f1338b04c7fd4", func := "rollbook/rollbooklaw25.BerEncodes", spec := "berEncodes", inPlace := ["internal/abi.NoEscape"], unfollowed := true, recurses := true, loops := true, apart := false }
def BerEncodesSaid : Prop := berEncodesRow.holds Try.pinned (OpenSpec.ofChange berEncodesSpec)

/-- ITS FALSE NEIGHBOUR: 'it returns false'. Refute it at one input. -/
def berEncodesWrong : ChangeSpec := { name := "berEncodes", fn := fun _ => fun
  | [d1, d2] => { results := [.lit (.bool false)], args := [d1, d2] }
  | _ => none }
def BerEncodesWrongFalsely : Prop := berEncodesRow.holds Try.pinned (OpenSpec.ofChange berEncodesWrong)

/-- 'rollbooklaw25.BerDecodes': WHATEVER THE INPUT: true; the input reads as it did. -/
def berDecodesSpec : ChangeSpec := { name := "berDecodes", fn := fun _ => fun
  | [d] => { results := [.lit (.bool true)], args := [d] }
  | _ => none }
def berDecodesRow : OpenClaim := { program := "ytipphdadibdifaa", sum := "c8afb67c12284d0a6b0af127b0ec6b991ff77d2b5777908b003f1338b04c7fd4", func := "rollbook/rollbooklaw25.BerDecodes", spec := "berDecodes", inPlace := ["internal/abi.NoEscape"], unfollowed := true, recurses := true, apart := false }
def BerDecodesSaid : Prop := berDecodesRow.holds Try.pinned (OpenSpec.ofChange berDecodesSpec)

/-- ITS FALSE NEIGHBOUR: 'it returns false'. Refute it at one input. -/
def berDecodesWrong : ChangeSpec := { name := "berDecodes", fn := fun _ => fun
  | [d] => { results := [.lit (.bool false)], args := [d] }
  | _ => none }
def BerDecodesWrongFalsely : Prop := berDecodesRow.holds Try.pinned (OpenSpec.ofChange berDecodesWrong)

/-- 'rollbooklaw25.BerShort': WHATEVER THE INPUT: true; the input reads as it did. -/
def berShortSpec : ChangeSpec := { name := "berShort", fn := fun _ => fun
  | [d1, d2] => { results := [.lit (.bool true)], args := [d1, d2] }
  | _ => none }
def berShortRow : OpenClaim := { program := "ytipphdadibdifaa", sum := "c8afb67c12284d0a6b0af127b0ec6b991ff77d2b5777908b003f1338b04c7fd4", func := "rollbook/rollbooklaw25.BerShort", spec := "berShort", inPlace := ["internal/abi.NoEscape"], unfollowed := true, recurses := true, loops := true, apart := false }
def BerShortSaid : Prop := berShortRow.holds Try.pinned (OpenSpec.ofChange berShortSpec)

/-- ITS FALSE NEIGHBOUR: 'it returns false'. Refute it at one input. -/
def berShortWrong : ChangeSpec := { name := "berShort", fn := fun _ => fun
  | [d1, d2] => { results := [.lit (.bool false)], args := [d1, d2] }
  | _ => none }
def BerShortWrongFalsely : Prop := berShortRow.holds Try.pinned (OpenSpec.ofChange berShortWrong)

/- THE SECOND FORM. 'bulk': how many values and letters a reading holds, each counted each time it is reached (what is shared counts as often as it is met; a slice's spare places count too). A statement '..UptoSaid' is the law's where the arguments, and the package variables that the reading takes, are together of bulk at most 1048576: NARROWER than '..Said'. Prove '..Said' where nothing that the law and all that it calls make is longer than what came in: it says more and counts as full. Else prove '..UptoSaid'. A law counts once. -/
mutual
def uptoBulk {H : Type} : DataW H → Nat
  | .lit (.string bytes) => bytes.length + 1
  | .lit _ => 1
  | .nil => 1
  | .ptr d => uptoBulk d + 1
  | .slice elems spare => uptoBulkAll elems + uptoBulkAll spare + 1
  | .agg parts => uptoBulkAll parts + 1
  | .iface _ d => uptoBulk d + 1
  | .map entries => uptoBulkEntries entries + 1
  | .held _ => 1
def uptoBulkAll {H : Type} : List (DataW H) → Nat
  | [] => 0
  | d :: r => uptoBulk d + uptoBulkAll r
def uptoBulkEntries {H : Type} : List (Lit × DataW H) → Nat
  | [] => 0
  | x :: r => uptoBulkEntry x + uptoBulkEntries r
def uptoBulkEntry {H : Type} : Lit × DataW H → Nat
  | (.string bytes, d) => bytes.length + uptoBulk d + 1
  | (_, d) => uptoBulk d + 1
 end
def uptoSmall : (H : Type) → List (DataW H) → Bool := fun _ ds => decide (uptoBulkAll ds ≤ 1048576)
def OpenSpec.upto (s : _root_.Go.ChangeSpec) : _root_.Go.OpenSpec := { _root_.Go.OpenSpec.ofChange s with cond := some uptoSmall }

/-- 'rollbooklaw27.FrameFeeds', WHERE WHAT IT READS IS OF BULK AT MOST 1048576: true; the input reads as it did. -/
def frameFeedsUptoRow : OpenClaim := { program := "ytipphdadibdifaa", sum := "c8afb67c12284d0a6b0af127b0ec6b991ff77d2b5777908b003f1338b04c7fd4", func := "rollbook/rollbooklaw27.FrameFeeds", spec := "frameFeeds", apart := false, narrowed := true }
def FrameFeedsUptoSaid : Prop := frameFeedsUptoRow.holds Try.pinned (OpenSpec.upto frameFeedsSpec)

/-- 'rollbooklaw27.FrameNil', WHERE WHAT IT READS IS OF BULK AT MOST 1048576: true; the input reads as it did. -/
def frameNilUptoRow : OpenClaim := { program := "ytipphdadibdifaa", sum := "c8afb67c12284d0a6b0af127b0ec6b991ff77d2b5777908b003f1338b04c7fd4", func := "rollbook/rollbooklaw27.FrameNil", spec := "frameNil", apart := false, narrowed := true }
def FrameNilUptoSaid : Prop := frameNilUptoRow.holds Try.pinned (OpenSpec.upto frameNilSpec)

/-- 'rollbooklaw27.FrameCuts', WHERE WHAT IT READS IS OF BULK AT MOST 1048576: true; the input reads as it did. -/
def frameCutsUptoRow : OpenClaim := { program := "ytipphdadibdifaa", sum := "c8afb67c12284d0a6b0af127b0ec6b991ff77d2b5777908b003f1338b04c7fd4", func := "rollbook/rollbooklaw27.FrameCuts", spec := "frameCuts", apart := false, narrowed := true }
def FrameCutsUptoSaid : Prop := frameCutsUptoRow.holds Try.pinned (OpenSpec.upto frameCutsSpec)

/-- 'rollbooklaw25.BerNumbers', WHERE WHAT IT READS IS OF BULK AT MOST 1048576: true; the input reads as it did. -/
def berNumbersUptoRow : OpenClaim := { program := "ytipphdadibdifaa", sum := "c8afb67c12284d0a6b0af127b0ec6b991ff77d2b5777908b003f1338b04c7fd4", func := "rollbook/rollbooklaw25.BerNumbers", spec := "berNumbers", inPlace := ["internal/abi.NoEscape"], recurses := true, loops := true, apart := false, narrowed := true }
def BerNumbersUptoSaid : Prop := berNumbersUptoRow.holds Try.pinned (OpenSpec.upto berNumbersSpec)

/-- 'rollbooklaw25.BerEncodes', WHERE WHAT IT READS IS OF BULK AT MOST 1048576: true; the input reads as it did. -/
def berEncodesUptoRow : OpenClaim := { program := "ytipphdadibdifaa", sum := "c8afb67c12284d0a6b0af127b0ec6b991ff77d2b5777908b003f1338b04c7fd4", func := "rollbook/rollbooklaw25.BerEncodes", spec := "berEncodes", inPlace := ["internal/abi.NoEscape"], unfollowed := true, recurses := true, loops := true, apart := false, narrowed := true }
def BerEncodesUptoSaid : Prop := berEncodesUptoRow.holds Try.pinned (OpenSpec.upto berEncodesSpec)

/-- 'rollbooklaw25.BerDecodes', WHERE WHAT IT READS IS OF BULK AT MOST 1048576: true; the input reads as it did. -/
def berDecodesUptoRow : OpenClaim := { program := "ytipphdadibdifaa", sum := "c8afb67c12284d0a6b0af127b0ec6b991ff77d2b5777908b003f1338b04c7fd4", func := "rollbook/rollbooklaw25.BerDecodes", spec := "berDecodes", inPlace := ["internal/abi.NoEscape"], unfollowed := true, recurses := true, apart := false, narrowed := true }
def BerDecodesUptoSaid : Prop := berDecodesUptoRow.holds Try.pinned (OpenSpec.upto berDecodesSpec)

/-- 'rollbooklaw25.BerShort', WHERE WHAT IT READS IS OF BULK AT MOST 1048576: true; the input reads as it did. -/
def berShortUptoRow : OpenClaim := { program := "ytipphdadibdifaa", sum := "c8afb67c12284d0a6b0af127b0ec6b991ff77d2b5777908b003f1338b04c7fd4", func := "rollbook/rollbooklaw25.BerShort", spec := "berShort", inPlace := ["internal/abi.NoEscape"], unfollowed := true, recurses := true, loops := true, apart := false, narrowed := true }
def BerShortUptoSaid : Prop := berShortUptoRow.holds Try.pinned (OpenSpec.upto berShortSpec)

end Rows
end Go.Proofs.Ytipphdadibdifaa
