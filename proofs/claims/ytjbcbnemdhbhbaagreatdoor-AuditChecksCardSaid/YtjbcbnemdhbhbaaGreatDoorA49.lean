import Derived.Test.YtjbcbnemdhbhbaaGreatDoorCards
import Derived.Test.YtjbcbnemdhbhbaaGreatDoorA48
set_option maxRecDepth 100000
set_option linter.unusedVariables false
set_option linter.unusedSimpArgs false
set_option maxHeartbeats 40000000
namespace Go.Proofs.YtjbcbnemdhbhbaaGreatDoor.auditChecks
open Go.Proofs.Tryz
open Go.ChangeShapes Go.WideShapes Go.ChangeAt Go.RowKit
open Go.ChangeMaps (open_string shut_string)
theorem lifted(os:Os)(started:os.Started)(H:Type)(enc:TypeId×Value->H):
  ReturnsInHanded {} checked os 6 .any (fun w args=>(Rows.auditChecksSpec.pre enc prog f6 [] false w args/\laidMetH prog pG w)/\sizedMet enc prog f6 (OpenSpec.ofChange Rows.auditChecksSpec) false w args) (Rows.auditChecksSpec.post enc prog f6 false true false false):=by
 refine returnsInHanded_of_change_and (C:=checked) (X:=fun w _=>laidMetH prog pG w) (fun _ _ _ hh h=>h.of_heap hh) ago started (by kernel_rfl) func6
  (ChangeSpec.witness_shaped (enc:=enc) (C:=checked) (os:=os) (X:=fun w _=>laidMetH prog pG w) false (World.doorLaid prog 400 os) #[.slice none 0 0] 8 rfl (World.shaped_of_RefB (by kernel_rfl) (by kernel_rfl)) (by kernel_rfl) (by kernel_rfl) (by kernel_rfl) (LQ os _)) ?_
 intro W base args ds gs before TE hW _ _ hL _;have Ja:∀(j:Nat) t v,f6.params[j]? =some t->args[j]? =some v->Value.okWide prog W .any base t v:=TE;have hW':=hW;obtain⟨p,q,Y8,hV,rfl,Z6,bI⟩:=hW;have hA:DataW.TrodAll enc prog W 0 (fun _=>true) true f6.params.toList args.toList ds p:=Y8;rw[params6]at hA Ja;obtain⟨v0,vs0,d0,ds0,p0,q0,ahO,rfl,rfl,h0,r0⟩:=trodAll_cons hA;obtain⟨rfl,rfl,rfl⟩:=trodAll_nil r0;obtain rfl:args= #[v0]:=by cases args;simp_all
 obtain⟨rfl,rfl⟩:=trodVars_none hV;have k0:=h0;have lt0:∀x∈p0,x.block<W.heap.size:=by obtain⟨m,hm⟩:=k0;exact DataW.trod_lt m _ _ _ hm
 obtain⟨A0,xs0,aku,rfl,cl0,ll0,sz0,sl0⟩:=Fa (Ja 0 64 v0 rfl rfl) h0;clear Y8 TE;refine(qe  W sl0 cl0 ll0 sz0 (Ry hL)).mono fun e W' ⟨he,bel⟩=> ?_;subst he;exact⟨_,rfl,_,_,_,[],_,[],hW',trodAll_mk1 (shut_bool underlying4 _),(trodAll_cons_mk (Below.trod Nh (by kernel_rfl) (of_decide_eq_true (by kernel_rfl)) k0 bel lt0) trodAll_mk0),rfl,bel.frame _,fun h=>by cases h⟩
end Go.Proofs.YtjbcbnemdhbhbaaGreatDoor.auditChecks
