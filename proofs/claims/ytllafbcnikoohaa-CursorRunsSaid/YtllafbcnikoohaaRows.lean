/-
  No cell of these rows narrows 'for every input' (looked for: loops, veiled, ifaces, maps, wideKeys, modest, calm, conditions, laid).
  DERIVED. THE GIVEN ROWS OF THIS SEAT. 5 by the template 'for every input the law returns true; each argument reads behind the call as it read before'; 0 by the template 'total and deterministic' (their statements: YtllafbcnikoohaaTotals.lean).
  GIVEN WITH THE SEED: the statements are not yours to turn. If you find one false, say at which input.
  Laid BY PROGRAM, IN A SANDBOX (cutbox-rows.mjs): the forced cells as the released guide's own fill.sh prints them over the translation 307b0b0248d375d4… (all of the seat's roots in one cut). By AI agents, Wed Nov 11 2026. No macro, syntax, notation, axiom, sorry.
-/
import Derived.Test.YtllafbcnikoohaaChecked
import GoSem.Claim
import GoSem.ClaimJoined
import GoSem.ClaimMapViews
import Derived.JoinedTies
import Derived.KernelRfl
namespace Go.Proofs.Ytllafbcnikoohaa
/- THE CELL 'sum', in the pinned program and in every row, IS THE sha256 OF THE DUMP (.gsa) THAT YtllafbcnikoohaaProg.lean LOADS. Nothing in Lean hashes anything: it is a label: what it is worth is what the hold of that sum in a sandbox is worth. -/
noncomputable def Try.pinned : Pinned := { name := "ytllafbcnikoohaa", sum := "307b0b0248d375d42afb7f333bfc76a56b117b21a79934d3675fcc0a051d4196", checked := Try.checked }
namespace Rows
def none {H : Type} : Left H := { results := [], args := [] }

/-- 'rollbooklaw10.CursorTurns': WHATEVER THE INPUT: true; the input reads as it did. -/
def cursorTurnsSpec : ChangeSpec := { name := "cursorTurns", fn := fun _ => fun
  | [d1, d2] => { results := [.lit (.bool true)], args := [d1, d2] }
  | _ => none }
def cursorTurnsRow : OpenClaim := { program := "ytllafbcnikoohaa", sum := "307b0b0248d375d42afb7f333bfc76a56b117b21a79934d3675fcc0a051d4196", func := "rollbook/rollbooklaw10.CursorTurns", spec := "cursorTurns", inPlace := ["slices.overlaps[rollbook/api.Cell]"], unfollowed := true, recurses := true, apart := false }
def CursorTurnsSaid : Prop := cursorTurnsRow.holds Try.pinned (OpenSpec.ofChange cursorTurnsSpec)

/-- ITS FALSE NEIGHBOUR: 'it returns false'. Refute it at one input. -/
def cursorTurnsWrong : ChangeSpec := { name := "cursorTurns", fn := fun _ => fun
  | [d1, d2] => { results := [.lit (.bool false)], args := [d1, d2] }
  | _ => none }
def CursorTurnsWrongFalsely : Prop := cursorTurnsRow.holds Try.pinned (OpenSpec.ofChange cursorTurnsWrong)

/-- 'rollbooklaw10.CursorCounts': WHATEVER THE INPUT: true; the input reads as it did. -/
def cursorCountsSpec : ChangeSpec := { name := "cursorCounts", fn := fun _ => fun
  | [d1, d2, d3] => { results := [.lit (.bool true)], args := [d1, d2, d3] }
  | _ => none }
def cursorCountsRow : OpenClaim := { program := "ytllafbcnikoohaa", sum := "307b0b0248d375d42afb7f333bfc76a56b117b21a79934d3675fcc0a051d4196", func := "rollbook/rollbooklaw10.CursorCounts", spec := "cursorCounts", inPlace := ["slices.overlaps[rollbook/api.Cell]"], unfollowed := true, recurses := true, apart := false }
def CursorCountsSaid : Prop := cursorCountsRow.holds Try.pinned (OpenSpec.ofChange cursorCountsSpec)

/-- ITS FALSE NEIGHBOUR: 'it returns false'. Refute it at one input. -/
def cursorCountsWrong : ChangeSpec := { name := "cursorCounts", fn := fun _ => fun
  | [d1, d2, d3] => { results := [.lit (.bool false)], args := [d1, d2, d3] }
  | _ => none }
def CursorCountsWrongFalsely : Prop := cursorCountsRow.holds Try.pinned (OpenSpec.ofChange cursorCountsWrong)

/-- 'rollbooklaw10.CursorNil': WHATEVER THE INPUT: true; the input reads as it did. -/
def cursorNilSpec : ChangeSpec := { name := "cursorNil", fn := fun _ => fun
  | [d] => { results := [.lit (.bool true)], args := [d] }
  | _ => none }
def cursorNilRow : OpenClaim := { program := "ytllafbcnikoohaa", sum := "307b0b0248d375d42afb7f333bfc76a56b117b21a79934d3675fcc0a051d4196", func := "rollbook/rollbooklaw10.CursorNil", spec := "cursorNil", inPlace := ["slices.overlaps[rollbook/api.Cell]"], unfollowed := true, recurses := true, apart := false }
def CursorNilSaid : Prop := cursorNilRow.holds Try.pinned (OpenSpec.ofChange cursorNilSpec)

/-- ITS FALSE NEIGHBOUR: 'it returns false'. Refute it at one input. -/
def cursorNilWrong : ChangeSpec := { name := "cursorNil", fn := fun _ => fun
  | [d] => { results := [.lit (.bool false)], args := [d] }
  | _ => none }
def CursorNilWrongFalsely : Prop := cursorNilRow.holds Try.pinned (OpenSpec.ofChange cursorNilWrong)

/-- 'rollbooklaw10.CursorPlays': WHATEVER THE INPUT: true; the input reads as it did. -/
def cursorPlaysSpec : ChangeSpec := { name := "cursorPlays", fn := fun _ => fun
  | [d1, d2] => { results := [.lit (.bool true)], args := [d1, d2] }
  | _ => none }
def cursorPlaysRow : OpenClaim := { program := "ytllafbcnikoohaa", sum := "307b0b0248d375d42afb7f333bfc76a56b117b21a79934d3675fcc0a051d4196", func := "rollbook/rollbooklaw10.CursorPlays", spec := "cursorPlays", inPlace := ["slices.overlaps[rollbook/api.Cell]"], unfollowed := true, recurses := true, apart := false }
def CursorPlaysSaid : Prop := cursorPlaysRow.holds Try.pinned (OpenSpec.ofChange cursorPlaysSpec)

/-- ITS FALSE NEIGHBOUR: 'it returns false'. Refute it at one input. -/
def cursorPlaysWrong : ChangeSpec := { name := "cursorPlays", fn := fun _ => fun
  | [d1, d2] => { results := [.lit (.bool false)], args := [d1, d2] }
  | _ => none }
def CursorPlaysWrongFalsely : Prop := cursorPlaysRow.holds Try.pinned (OpenSpec.ofChange cursorPlaysWrong)

/-- 'rollbooklaw10.CursorRuns': WHATEVER THE INPUT: true; the input reads as it did. -/
def cursorRunsSpec : ChangeSpec := { name := "cursorRuns", fn := fun _ => fun
  | [d] => { results := [.lit (.bool true)], args := [d] }
  | _ => none }
def cursorRunsRow : OpenClaim := { program := "ytllafbcnikoohaa", sum := "307b0b0248d375d42afb7f333bfc76a56b117b21a79934d3675fcc0a051d4196", func := "rollbook/rollbooklaw10.CursorRuns", spec := "cursorRuns", inPlace := ["slices.overlaps[rollbook/api.Cell]"], unfollowed := true, recurses := true, apart := false }
def CursorRunsSaid : Prop := cursorRunsRow.holds Try.pinned (OpenSpec.ofChange cursorRunsSpec)

/-- ITS FALSE NEIGHBOUR: 'it returns false'. Refute it at one input. -/
def cursorRunsWrong : ChangeSpec := { name := "cursorRuns", fn := fun _ => fun
  | [d] => { results := [.lit (.bool false)], args := [d] }
  | _ => none }
def CursorRunsWrongFalsely : Prop := cursorRunsRow.holds Try.pinned (OpenSpec.ofChange cursorRunsWrong)

/- THE SECOND FORM. 'bulk': how many values and letters a reading holds, each counted each time it is reached (what is shared counts as often as it is met; a slice's spare places count too). A statement '..UptoSaid' is the law's where the arguments, and the package variables that the reading takes, are together of bulk at most 1048576: NARROWER than '..Said'. Prove '..Said' where nothing that the law and all that it calls make is longer than what came in: it says more and counts as full. Else prove '..UptoSaid'. A law counts once. -/
mutual
def uptoBulk {H : Type} : DataW H → Nat
  | .lit (.string bytes) => bytes.length + 1
  | .lit _ => 1
  | .nil => 1
  | .ptr d => uptoBulk d + 1
  | .slice elems spare => uptoBulkAll elems + uptoBulkAll spare + 1
  | .agg parts => uptoBulkAll parts + 1
  | .iface _ d => uptoBulk d + 1
  | .map entries => uptoBulkEntries entries + 1
  | .held _ => 1
def uptoBulkAll {H : Type} : List (DataW H) → Nat
  | [] => 0
  | d :: r => uptoBulk d + uptoBulkAll r
def uptoBulkEntries {H : Type} : List (Lit × DataW H) → Nat
  | [] => 0
  | x :: r => uptoBulkEntry x + uptoBulkEntries r
def uptoBulkEntry {H : Type} : Lit × DataW H → Nat
  | (.string bytes, d) => bytes.length + uptoBulk d + 1
  | (_, d) => uptoBulk d + 1
 end
def uptoSmall : (H : Type) → List (DataW H) → Bool := fun _ ds => decide (uptoBulkAll ds ≤ 1048576)
def OpenSpec.upto (s : _root_.Go.ChangeSpec) : _root_.Go.OpenSpec := { _root_.Go.OpenSpec.ofChange s with cond := some uptoSmall }

/-- 'rollbooklaw10.CursorTurns', WHERE WHAT IT READS IS OF BULK AT MOST 1048576: true; the input reads as it did. -/
def cursorTurnsUptoRow : OpenClaim := { program := "ytllafbcnikoohaa", sum := "307b0b0248d375d42afb7f333bfc76a56b117b21a79934d3675fcc0a051d4196", func := "rollbook/rollbooklaw10.CursorTurns", spec := "cursorTurns", inPlace := ["slices.overlaps[rollbook/api.Cell]"], unfollowed := true, recurses := true, apart := false, narrowed := true }
def CursorTurnsUptoSaid : Prop := cursorTurnsUptoRow.holds Try.pinned (OpenSpec.upto cursorTurnsSpec)

/-- 'rollbooklaw10.CursorCounts', WHERE WHAT IT READS IS OF BULK AT MOST 1048576: true; the input reads as it did. -/
def cursorCountsUptoRow : OpenClaim := { program := "ytllafbcnikoohaa", sum := "307b0b0248d375d42afb7f333bfc76a56b117b21a79934d3675fcc0a051d4196", func := "rollbook/rollbooklaw10.CursorCounts", spec := "cursorCounts", inPlace := ["slices.overlaps[rollbook/api.Cell]"], unfollowed := true, recurses := true, apart := false, narrowed := true }
def CursorCountsUptoSaid : Prop := cursorCountsUptoRow.holds Try.pinned (OpenSpec.upto cursorCountsSpec)

/-- 'rollbooklaw10.CursorNil', WHERE WHAT IT READS IS OF BULK AT MOST 1048576: true; the input reads as it did. -/
def cursorNilUptoRow : OpenClaim := { program := "ytllafbcnikoohaa", sum := "307b0b0248d375d42afb7f333bfc76a56b117b21a79934d3675fcc0a051d4196", func := "rollbook/rollbooklaw10.CursorNil", spec := "cursorNil", inPlace := ["slices.overlaps[rollbook/api.Cell]"], unfollowed := true, recurses := true, apart := false, narrowed := true }
def CursorNilUptoSaid : Prop := cursorNilUptoRow.holds Try.pinned (OpenSpec.upto cursorNilSpec)

/-- 'rollbooklaw10.CursorPlays', WHERE WHAT IT READS IS OF BULK AT MOST 1048576: true; the input reads as it did. -/
def cursorPlaysUptoRow : OpenClaim := { program := "ytllafbcnikoohaa", sum := "307b0b0248d375d42afb7f333bfc76a56b117b21a79934d3675fcc0a051d4196", func := "rollbook/rollbooklaw10.CursorPlays", spec := "cursorPlays", inPlace := ["slices.overlaps[rollbook/api.Cell]"], unfollowed := true, recurses := true, apart := false, narrowed := true }
def CursorPlaysUptoSaid : Prop := cursorPlaysUptoRow.holds Try.pinned (OpenSpec.upto cursorPlaysSpec)

/-- 'rollbooklaw10.CursorRuns', WHERE WHAT IT READS IS OF BULK AT MOST 1048576: true; the input reads as it did. -/
def cursorRunsUptoRow : OpenClaim := { program := "ytllafbcnikoohaa", sum := "307b0b0248d375d42afb7f333bfc76a56b117b21a79934d3675fcc0a051d4196", func := "rollbook/rollbooklaw10.CursorRuns", spec := "cursorRuns", inPlace := ["slices.overlaps[rollbook/api.Cell]"], unfollowed := true, recurses := true, apart := false, narrowed := true }
def CursorRunsUptoSaid : Prop := cursorRunsUptoRow.holds Try.pinned (OpenSpec.upto cursorRunsSpec)

end Rows
end Go.Proofs.Ytllafbcnikoohaa
