/- AuditChecksCardSaid: AuditChecks returns true for every input, its arguments read as before, where crc.row holds its table. -/
import Derived.Test.YtjbcbnemdhbhbaaGreatDoorA49
set_option maxRecDepth 100000
set_option linter.unusedVariables false
set_option linter.unusedSimpArgs false
set_option maxHeartbeats 40000000
open Option.some renaming inj→aek
namespace Go.Proofs.YtjbcbnemdhbhbaaGreatDoor.auditChecks
open Go.Proofs.Tryz
open Go.ChangeShapes Go.WideShapes Go.ChangeAt Go.RowKit
open Go.ChangeMaps (open_string shut_string)
theorem over:Rows.AuditChecksSaid:=by
 refine OpenClaim.holds_of_wide 6 f6 ?a1 ?a2 ?a3 ?a4 ?a5 ?a6 ?a7 ⟨?b1,?b2,?b3,?b4,?b5⟩ ?c1 ?c2 ?c3 ?c4 ?c5 ?d1 func6 ?d2 (of_decide_eq_true ?d3) ?d4 (fun os started H enc _=>lifted os started H enc)
 case d4=>as_aux_lemma=>(unfold Func.isWrapper;rw[if_neg (by decide +kernel)];exact⟨rfl,rfl⟩)
 all_goals as_aux_lemma=>kernel_rfl
theorem proved:Rows.AuditChecksCardSaid:=
 Claim7.holds_tied_plain_at .later [] [.data] true Rows.auditChecksCard.stood.harness false
  over (fun _ h=>by cases h) (by kernel_rfl) (fun _ h=>by cases h) auditChecks_row_tie rfl ⟨rfl,rfl⟩ (by kernel_rfl) rfl
  (fun f fn hf hfn=>by
   obtain rfl:f=6:=aek ((show prog.funcNamed "rollbook/rollbooklaw12.AuditChecks" = some 6 by kernel_rfl).symm.trans hf) |>.symm;obtain rfl:fn=f6:=(aek (func6.symm.trans hfn)).symm;exact⟨by kernel_rfl,fun j t ht=>by
    rw[params6]at ht;have hm:t∈[64]:=by simpa using Array.mem_of_getElem? ht
    have dN:([64].all fun u=> !prog.wantsStandIn u)=true:=by kernel_rfl
    exact(show prog.wantsStandIn t=false by simpa using List.all_eq_true.1 dN t hm)⟩)
  (by kernel_rfl)
#print axioms proved
end Go.Proofs.YtjbcbnemdhbhbaaGreatDoor.auditChecks
