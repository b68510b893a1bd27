/-
  No cell of these rows narrows 'for every input' (looked for: loops, veiled, ifaces, maps, wideKeys, modest, calm, conditions, laid).
  DERIVED. THE GIVEN ROWS OF THIS SEAT. 4 by the template 'for every input the law returns true; each argument reads behind the call as it read before'; 0 by the template 'total and deterministic' (their statements: YtchldjjfaiikbaaTotals.lean).
  GIVEN WITH THE SEED: the statements are not yours to turn. If you find one false, say at which input.
  Laid BY PROGRAM, IN A SANDBOX (cutbox-rows.mjs): the forced cells as the released guide's own fill.sh prints them over the translation bada239bb95f14c1… (all of the seat's roots in one cut). By AI agents, Wed Nov 11 2026. No macro, syntax, notation, axiom, sorry.
-/
import Derived.Test.YtchldjjfaiikbaaChecked
import GoSem.Claim
import GoSem.ClaimJoined
import GoSem.ClaimMapViews
import Derived.JoinedTies
import Derived.KernelRfl
namespace Go.Proofs.Ytchldjjfaiikbaa
/- THE CELL 'sum', in the pinned program and in every row, IS THE sha256 OF THE DUMP (.gsa) THAT YtchldjjfaiikbaaProg.lean LOADS. Nothing in Lean hashes anything: it is a label: what it is worth is what the hold of that sum in a sandbox is worth. -/
noncomputable def Try.pinned : Pinned := { name := "ytchldjjfaiikbaa", sum := "bada239bb95f14c13c4658d8b790a16a8fa4c277c54d0bac7975fea431d1a8fa", checked := Try.checked }
namespace Rows
def none {H : Type} : Left H := { results := [], args := [] }

/-- 'rollbooklaw03.DevLasts': WHATEVER THE INPUT: true; the input reads as it did. -/
def devLastsSpec : ChangeSpec := { name := "devLasts", fn := fun _ => fun
  | [d1, d2, d3] => { results := [.lit (.bool true)], args := [d1, d2, d3] }
  | _ => none }
def devLastsRow : OpenClaim := { program := "ytchldjjfaiikbaa", sum := "bada239bb95f14c13c4658d8b790a16a8fa4c277c54d0bac7975fea431d1a8fa", func := "rollbook/rollbooklaw03.DevLasts", spec := "devLasts", unfollowed := true, recurses := true, apart := false }
def DevLastsSaid : Prop := devLastsRow.holds Try.pinned (OpenSpec.ofChange devLastsSpec)

/-- ITS FALSE NEIGHBOUR: 'it returns false'. Refute it at one input. -/
def devLastsWrong : ChangeSpec := { name := "devLasts", fn := fun _ => fun
  | [d1, d2, d3] => { results := [.lit (.bool false)], args := [d1, d2, d3] }
  | _ => none }
def DevLastsWrongFalsely : Prop := devLastsRow.holds Try.pinned (OpenSpec.ofChange devLastsWrong)

/-- 'rollbooklaw03.DevFuses': WHATEVER THE INPUT: true; the input reads as it did. -/
def devFusesSpec : ChangeSpec := { name := "devFuses", fn := fun _ => fun
  | [d1, d2] => { results := [.lit (.bool true)], args := [d1, d2] }
  | _ => none }
def devFusesRow : OpenClaim := { program := "ytchldjjfaiikbaa", sum := "bada239bb95f14c13c4658d8b790a16a8fa4c277c54d0bac7975fea431d1a8fa", func := "rollbook/rollbooklaw03.DevFuses", spec := "devFuses", unfollowed := true, recurses := true, apart := false }
def DevFusesSaid : Prop := devFusesRow.holds Try.pinned (OpenSpec.ofChange devFusesSpec)

/-- ITS FALSE NEIGHBOUR: 'it returns false'. Refute it at one input. -/
def devFusesWrong : ChangeSpec := { name := "devFuses", fn := fun _ => fun
  | [d1, d2] => { results := [.lit (.bool false)], args := [d1, d2] }
  | _ => none }
def DevFusesWrongFalsely : Prop := devFusesRow.holds Try.pinned (OpenSpec.ofChange devFusesWrong)

/-- 'rollbooklaw03.DevPlays': WHATEVER THE INPUT: true; the input reads as it did. -/
def devPlaysSpec : ChangeSpec := { name := "devPlays", fn := fun _ => fun
  | [d1, d2] => { results := [.lit (.bool true)], args := [d1, d2] }
  | _ => none }
def devPlaysRow : OpenClaim := { program := "ytchldjjfaiikbaa", sum := "bada239bb95f14c13c4658d8b790a16a8fa4c277c54d0bac7975fea431d1a8fa", func := "rollbook/rollbooklaw03.DevPlays", spec := "devPlays", unfollowed := true, recurses := true, apart := false }
def DevPlaysSaid : Prop := devPlaysRow.holds Try.pinned (OpenSpec.ofChange devPlaysSpec)

/-- ITS FALSE NEIGHBOUR: 'it returns false'. Refute it at one input. -/
def devPlaysWrong : ChangeSpec := { name := "devPlays", fn := fun _ => fun
  | [d1, d2] => { results := [.lit (.bool false)], args := [d1, d2] }
  | _ => none }
def DevPlaysWrongFalsely : Prop := devPlaysRow.holds Try.pinned (OpenSpec.ofChange devPlaysWrong)

/-- 'rollbooklaw03.DevNil': WHATEVER THE INPUT: true; the input reads as it did. -/
def devNilSpec : ChangeSpec := { name := "devNil", fn := fun _ => fun
  | [d] => { results := [.lit (.bool true)], args := [d] }
  | _ => none }
def devNilRow : OpenClaim := { program := "ytchldjjfaiikbaa", sum := "bada239bb95f14c13c4658d8b790a16a8fa4c277c54d0bac7975fea431d1a8fa", func := "rollbook/rollbooklaw03.DevNil", spec := "devNil", unfollowed := true, recurses := true, apart := false }
def DevNilSaid : Prop := devNilRow.holds Try.pinned (OpenSpec.ofChange devNilSpec)

/-- ITS FALSE NEIGHBOUR: 'it returns false'. Refute it at one input. -/
def devNilWrong : ChangeSpec := { name := "devNil", fn := fun _ => fun
  | [d] => { results := [.lit (.bool false)], args := [d] }
  | _ => none }
def DevNilWrongFalsely : Prop := devNilRow.holds Try.pinned (OpenSpec.ofChange devNilWrong)

/- THE SECOND FORM. 'bulk': how many values and letters a reading holds, each counted each time it is reached (what is shared counts as often as it is met; a slice's spare places count too). A statement '..UptoSaid' is the law's where the arguments, and the package variables that the reading takes, are together of bulk at most 1048576: NARROWER than '..Said'. Prove '..Said' where nothing that the law and all that it calls make is longer than what came in: it says more and counts as full. Else prove '..UptoSaid'. A law counts once. -/
mutual
def uptoBulk {H : Type} : DataW H → Nat
  | .lit (.string bytes) => bytes.length + 1
  | .lit _ => 1
  | .nil => 1
  | .ptr d => uptoBulk d + 1
  | .slice elems spare => uptoBulkAll elems + uptoBulkAll spare + 1
  | .agg parts => uptoBulkAll parts + 1
  | .iface _ d => uptoBulk d + 1
  | .map entries => uptoBulkEntries entries + 1
  | .held _ => 1
def uptoBulkAll {H : Type} : List (DataW H) → Nat
  | [] => 0
  | d :: r => uptoBulk d + uptoBulkAll r
def uptoBulkEntries {H : Type} : List (Lit × DataW H) → Nat
  | [] => 0
  | x :: r => uptoBulkEntry x + uptoBulkEntries r
def uptoBulkEntry {H : Type} : Lit × DataW H → Nat
  | (.string bytes, d) => bytes.length + uptoBulk d + 1
  | (_, d) => uptoBulk d + 1
 end
def uptoSmall : (H : Type) → List (DataW H) → Bool := fun _ ds => decide (uptoBulkAll ds ≤ 1048576)
def OpenSpec.upto (s : _root_.Go.ChangeSpec) : _root_.Go.OpenSpec := { _root_.Go.OpenSpec.ofChange s with cond := some uptoSmall }

/-- 'rollbooklaw03.DevLasts', WHERE WHAT IT READS IS OF BULK AT MOST 1048576: true; the input reads as it did. -/
def devLastsUptoRow : OpenClaim := { program := "ytchldjjfaiikbaa", sum := "bada239bb95f14c13c4658d8b790a16a8fa4c277c54d0bac7975fea431d1a8fa", func := "rollbook/rollbooklaw03.DevLasts", spec := "devLasts", unfollowed := true, recurses := true, apart := false, narrowed := true }
def DevLastsUptoSaid : Prop := devLastsUptoRow.holds Try.pinned (OpenSpec.upto devLastsSpec)

/-- 'rollbooklaw03.DevFuses', WHERE WHAT IT READS IS OF BULK AT MOST 1048576: true; the input reads as it did. -/
def devFusesUptoRow : OpenClaim := { program := "ytchldjjfaiikbaa", sum := "bada239bb95f14c13c4658d8b790a16a8fa4c277c54d0bac7975fea431d1a8fa", func := "rollbook/rollbooklaw03.DevFuses", spec := "devFuses", unfollowed := true, recurses := true, apart := false, narrowed := true }
def DevFusesUptoSaid : Prop := devFusesUptoRow.holds Try.pinned (OpenSpec.upto devFusesSpec)

/-- 'rollbooklaw03.DevPlays', WHERE WHAT IT READS IS OF BULK AT MOST 1048576: true; the input reads as it did. -/
def devPlaysUptoRow : OpenClaim := { program := "ytchldjjfaiikbaa", sum := "bada239bb95f14c13c4658d8b790a16a8fa4c277c54d0bac7975fea431d1a8fa", func := "rollbook/rollbooklaw03.DevPlays", spec := "devPlays", unfollowed := true, recurses := true, apart := false, narrowed := true }
def DevPlaysUptoSaid : Prop := devPlaysUptoRow.holds Try.pinned (OpenSpec.upto devPlaysSpec)

/-- 'rollbooklaw03.DevNil', WHERE WHAT IT READS IS OF BULK AT MOST 1048576: true; the input reads as it did. -/
def devNilUptoRow : OpenClaim := { program := "ytchldjjfaiikbaa", sum := "bada239bb95f14c13c4658d8b790a16a8fa4c277c54d0bac7975fea431d1a8fa", func := "rollbook/rollbooklaw03.DevNil", spec := "devNil", unfollowed := true, recurses := true, apart := false, narrowed := true }
def DevNilUptoSaid : Prop := devNilUptoRow.holds Try.pinned (OpenSpec.upto devNilSpec)

end Rows
end Go.Proofs.Ytchldjjfaiikbaa
