/- The statement KvRoomCardSaid: rollbooklaw11.KvRoom returns true for every input, and its arguments read as before, where crc.row holds what the text lays in it (tied). -/
import Derived.Test.YtjbcbnemdhbhbaaGreatDoorCards
import Derived.Test.YtjbcbnemdhbhbaaGreatDoorG4
import Derived.Test.YtjbcbnemdhbhbaaGreatDoorG51
import Derived.Test.YtjbcbnemdhbhbaaGreatDoorG1
namespace Go.Proofs.YtjbcbnemdhbhbaaGreatDoor.kvRoom
open Go.ChangeShapes Go.WideShapes Go.ChangeAt Go.RowKit
open Go.ChangeMaps (open_string shut_string)
set_option linter.unusedVariables false
set_option maxHeartbeats 16000000 in
theorem over : Rows.KvRoomSaid := by
 refine OpenClaim.holds_of_wide 3 Tryz.f3 ?a1 ?a2 ?a3 ?a4 ?a5 ?a6 ?a7 ⟨?b1, ?b2, ?b3, ?b4, ?b5⟩ ?c1 ?c2 ?c3 ?c4 ?c5 ?d1 Tryz.func3 ?d2 (of_decide_eq_true ?d3) ?d4 (fun os started H enc _ => lifted os started H enc)
 case d4 => as_aux_lemma => (unfold Func.isWrapper; rw [if_neg (by decide +kernel)]; exact ⟨rfl, rfl⟩)
 all_goals as_aux_lemma => kernel_rfl
theorem proved : Rows.KvRoomCardSaid :=
 Claim7.holds_tied_plain_at .later [] [.data] true Rows.kvRoomCard.stood.harness false
   over (fun _ h => by cases h) (by kernel_rfl) (fun _ h => by cases h) kvRoom_row_tie rfl ⟨rfl, rfl⟩ (by kernel_rfl) rfl
   (fun f fn hf hfn => by
     obtain rfl : f = 3 := Option.some.inj ((show Tryz.prog.funcNamed "rollbook/rollbooklaw11.KvRoom" = some 3 by kernel_rfl).symm.trans hf) |>.symm
     obtain rfl : fn = Tryz.f3 := (Option.some.inj (Tryz.func3.symm.trans hfn)).symm
     exact ⟨by kernel_rfl, fun j t ht => by
       rw [Tryz.params3] at ht
       have hm : t ∈ [3, 9] := by simpa using Array.mem_of_getElem? ht
       have hall : ([3, 9].all fun u => !Tryz.prog.wantsStandIn u) = true := by kernel_rfl
       exact (show Tryz.prog.wantsStandIn t = false by simpa using List.all_eq_true.1 hall t hm)⟩)
   (by kernel_rfl)
#print axioms proved
end Go.Proofs.YtjbcbnemdhbhbaaGreatDoor.kvRoom
