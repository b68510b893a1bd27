import Derived.Test.YtjbcbnemdhbhbaaGreatDoorA28
import Derived.Test.YtjbcbnemdhbhbaaGreatDoorA29
import Derived.Test.YtjbcbnemdhbhbaaGreatDoorA23
import Derived.Test.YtjbcbnemdhbhbaaGreatDoorA8
set_option maxRecDepth 100000
set_option linter.unusedVariables false
set_option linter.unusedSimpArgs false
set_option maxHeartbeats 40000000
open Go renaming World→AI,bodyPost_ret→abT,results→acJ
open Go.ByteArray renaming toList_eq→abV
open Go.Lib renaming hid→sh
open Go.RowKit renaming Below→IT
open Go.RowKit.Below renaming refl→BY
open List renaming append_assoc→aaa,flatMap_cons→abH,mem_append→By,mem_cons→OF,mem_flatMap→abr,mem_iff_getElem→adp,nodup_append→aag,nodup_cons→abJ
open List.Pairwise renaming nil→aey
open List.Perm renaming append_left→ace
open Nat renaming le_refl→AS
open Option.some renaming inj→aek
namespace Go.Proofs.YtjbcbnemdhbhbaaGreatDoor
open Go.Proofs.Tryz
open Go.RowKit
namespace Tr
def Deep (σ :ag) (root:Nat) (L:List En):Prop:=(root=0/\L=[])\/∃d P,d<=8/\aD σ d root P L
theorem dt.deep{σ :ag}{root:Nat}{P:List Nat}{L:List En}(h:dt σ root P L)(hn:P.Nodup):Deep σ root L:=by
 rcases h with⟨h1,h2,h3⟩|⟨d,h⟩
 ·exact .inl ⟨h1,h3⟩
 ·exact .inr ⟨d,P,h.low hn,h⟩
end Tr
def Du (L:List En) (key:ByteArray) (v:Value):Prop:=
 (∃e∈L,e.cell.key=key/\v= .tuple #[.agg #[.string e.cell.key,.string e.cell.val,.int .i64 e.cell.over,.int .i64 e.cell.size,.int .i64 e.cell.child],.bool true,.int .i64 0])
 \/ ((∀e∈L,e.cell.key≠key)/\v= .tuple #[.agg #[.string ⟨#[]⟩,.string ⟨#[]⟩,.int .i64 0,.int .i64 0,.int .i64 0],.bool false,.int .i64 0])
theorem AP{p:ay}(hp:Reads p){w:AI}{S:List Nat}{σ :ag}{k:Nat}(h:p.At w S σ k)(root:Nat){L:List En}(hd:Tr.Deep σ root L)(key:ByteArray):
  Calls prog 121 #[.iface p.T p.v,.int .i64 root,.string key] w (fun e w'=>IT w.heap.size w w'/\∃v,e= .returned v/\Du L key v):=by
 have HA:=sh fun(W:AI) (hb:IT w.heap.size w W)=>hp.below h hb;have HR:=sh fun(W:AI) (hb:IT w.heap.size w W) (no:Nat) (leaf:Bool) (s:ByteArray) (hσ : σ no=some ⟨if leaf then 1 else 2,s⟩)=>N3 hp (hp.below h hb) no leaf s hσ;have HS:=sh seekn_any;have HD:=sh hd;clear hd h hp;go_enter func121,ntmps121
 go_wp2_with fail
 go_loopw [1,15] (fun r i wr=>∃(j no:Nat),i= .int .i64 j/\r= .int .i64 no/\j<=9/\Hid (IT (w.alloc (.cells #[.string ⟨#[]⟩,.string ⟨#[]⟩,.int .i64 0,.int .i64 0,.int .i64 0] 170)).heap.size (w.alloc (.cells #[.string ⟨#[]⟩,.string ⟨#[]⟩,.int .i64 0,.int .i64 0,.int .i64 0] 170)) wr)
  /\ Hid ((no=0/\L=[])\/∃d P L',d+j<=8/\Tr.aD σ d no P L'/\(∀e∈L',e∈L)/\∀e∈L,e.cell.key=key->e∈L')) (fun _ i _=>10-(intOf i).toNat)
 case atStart=>exact⟨0,root,rfl,rfl,by omega,sh (BY _ _),sh (HD.out.imp id fun⟨d,P,h1,h2⟩=>⟨d,P,L,by omega,h2,fun _ h=>h,fun _ h _=>h⟩)⟩
 case round=>
  obtain⟨j,no,rfl,rfl,hj,HB,HI⟩:=hrel;have z1:decide ((j:Int)<10)=true:=decide_eq_true (by omega);have fW:=sh (((BY _ w).alloc (AS _) (.cells #[.string ⟨#[]⟩,.string ⟨#[]⟩,.int .i64 0,.int .i64 0,.int .i64 0] 170)).trans (HB.out.mono (by simp)));have HC:=sh (ae (Bk.new w 170 #[.string ⟨#[]⟩,.string ⟨#[]⟩,.int .i64 0,.int .i64 0,.int .i64 0]) HB.out);rcases HI.out with⟨rfl,hL⟩|⟨d,P,L',hdj,aX,dw,eV⟩
  ·obtain⟨r0,r1,r2,r3,r4,s0,s1,s2,s3,s4,r5⟩:=HC.out.gG
   go_wp2_with fail
   refine abT (v:= .tuple #[.agg #[.string ⟨#[]⟩,.string ⟨#[]⟩,.int .i64 0,.int .i64 0,.int .i64 0],.bool false,.int .i64 0]) (by simp[acJ,results121,go_sem,r0,r1,r2,r3,r4,r5]) rfl ⟨?_,_,rfl,.inr ⟨by simp,rfl⟩⟩;exact((((fW.out.setCell (p:=⟨w.heap.size,0,none⟩) (AS _) _).setCell (p:=⟨w.heap.size,1,none⟩) (AS _) _).setCell (p:=⟨w.heap.size,2,none⟩) (AS _) _).setCell (p:=⟨w.heap.size,3,none⟩) (AS _) _).setCell (p:=⟨w.heap.size,4,none⟩) (AS _) _
  ·obtain⟨cs,P',hP,gQ,jY,hσ,cJ,dL,bM,h2c⟩:=aX
   have z2:((no:Int)==0)=false:=by simp;omega
   cases d with
   | zero=>
    have eX:Nd.right true cs=true:=cJ.right.1;have kM:=Nd.oy eX;obtain⟨Na,PB⟩:=Tr.Iz cJ kM key;have rV:=sh (HR.out wr fW.out no true (Nd.str true cs) hσ);have HSK:=sh fun(W:AI)=>seekn_any true cs key W eX dL (fun h=>nomatch h);obtain⟨q,hq⟩:∃q,q=Nd.has cs key:=⟨_,rfl⟩;have HQ:=sh hq;go_wp2_with fail
    refine rV.out.mono ?_;rintro e w2 ⟨rfl,aC⟩;have bm:=sh aC;clear aC;go_wp2_with fail
    refine(HSK.out _).mono ?_;rintro e w3 ⟨aN,ix,c,rfl,nw⟩;rw[<-hq];have du:=sh (bm.out.trans (aN.mono bm.out.size));clear aN hq;have Ab:=sh (fW.out.trans (du.out.mono fW.out.size));obtain⟨r0,r1,r2,r3,r4,s0,s1,s2,s3,s4,r5⟩:=(ae HC.out du.out).gG;cases q with
    | true=>
     obtain⟨e,he,QP,O8⟩:=Na c HQ.out.symm (nw.out HQ.out.symm);have HV:=sh (show Du L key (.tuple #[.agg #[.string c.key,.string c.val,.int .i64 c.over,.int .i64 c.size,.int .i64 c.child],.bool true,.int .i64 0]) from .inl ⟨e,dw e he,by rw[QP];exact O8,by rw[QP]⟩);clear nw Na PB QP O8;go_wp2_with fail
     refine abT (v:= .tuple #[.agg #[.string c.key,.string c.val,.int .i64 c.over,.int .i64 c.size,.int .i64 c.child],.bool true,.int .i64 0]) (by simp[acJ,results121,go_sem,r0,r1,r2,r3,r4,r5]) rfl ⟨?_,_,rfl,HV.out⟩;first|exact((((((Ab.out.setCell (p:=⟨w.heap.size,0,none⟩) (AS _) _).setCell (p:=⟨w.heap.size,1,none⟩) (AS _) _).setCell (p:=⟨w.heap.size,2,none⟩) (AS _) _).setCell (p:=⟨w.heap.size,3,none⟩) (AS _) _).setCell (p:=⟨w.heap.size,4,none⟩) (AS _) _)).alloc (by simpa using Ab.out.size) _|exact((((((Ab.out.alloc Ab.out.size _).setCell (p:=⟨w.heap.size,0,none⟩) (AS _) _).setCell (p:=⟨w.heap.size,1,none⟩) (AS _) _).setCell (p:=⟨w.heap.size,2,none⟩) (AS _) _).setCell (p:=⟨w.heap.size,3,none⟩) (AS _) _).setCell (p:=⟨w.heap.size,4,none⟩) (AS _) _)
    | false=>
     have HV:=sh (show Du L key (.tuple #[.agg #[.string ⟨#[]⟩,.string ⟨#[]⟩,.int .i64 0,.int .i64 0,.int .i64 0],.bool false,.int .i64 0]) from .inr ⟨fun e he hk=>PB HQ.out.symm e (eV e he hk) hk,rfl⟩);clear nw Na PB;go_wp2_with fail
     refine abT (v:= .tuple #[.agg #[.string ⟨#[]⟩,.string ⟨#[]⟩,.int .i64 0,.int .i64 0,.int .i64 0],.bool false,.int .i64 0]) (by simp[acJ,results121,go_sem,r0,r1,r2,r3,r4,r5]) rfl ⟨?_,_,rfl,HV.out⟩;first|exact((((((Ab.out.setCell (p:=⟨w.heap.size,0,none⟩) (AS _) _).setCell (p:=⟨w.heap.size,1,none⟩) (AS _) _).setCell (p:=⟨w.heap.size,2,none⟩) (AS _) _).setCell (p:=⟨w.heap.size,3,none⟩) (AS _) _).setCell (p:=⟨w.heap.size,4,none⟩) (AS _) _)).alloc (by simpa using Ab.out.size) _|exact((((((Ab.out.alloc Ab.out.size _).setCell (p:=⟨w.heap.size,0,none⟩) (AS _) _).setCell (p:=⟨w.heap.size,1,none⟩) (AS _) _).setCell (p:=⟨w.heap.size,2,none⟩) (AS _) _).setCell (p:=⟨w.heap.size,3,none⟩) (AS _) _).setCell (p:=⟨w.heap.size,4,none⟩) (AS _) _)
   | succ d=>
    have eX:Nd.right false cs=true:=cJ.right.1;have kM:=Nd.oy eX;have sZ:=Tr.xx cJ kM key;have HY:=sh fun(c:Ce)=>Tr.AQ cJ kM key (c:=c);have rV:=sh (HR.out wr fW.out no false (Nd.str false cs) hσ);have HSK:=sh fun(W:AI)=>seekn_any false cs key W eX dL (fun _=>sZ);clear sZ cJ eX kM;go_wp2_with fail
    refine rV.out.mono ?_;rintro e w2 ⟨rfl,aC⟩;have bm:=sh aC;clear aC;go_wp2_with fail
    refine(HSK.out _).mono ?_;rintro e w3 ⟨aN,ix,c,rfl,nw⟩;obtain⟨q,hq⟩:∃q,q=Nd.has cs key:=⟨_,rfl⟩;rw[<-hq];have du:=sh (bm.out.trans (aN.mono bm.out.size));obtain⟨P2,L2,g1,g2,g3,g4⟩:=HY.out c nw.out;have xG:((c.child:Int)==0)=false:=by
     obtain⟨_,_,_,hh,_⟩:=g1;simp;omega
    have HG:=sh (show ∃d' P' L',d'+(j+1)<=8/\Tr.aD σ d' c.child P' L'/\(∀e∈L',e∈L)/\∀e∈L,e.cell.key=key->e∈L' from ⟨d,P2,L2,by omega,g1,fun e he=>dw e (g3 e he),fun e he hk=>g4 e (eV e he hk) hk⟩);clear aN hq nw g1 g2 g3 g4;go_wp2_with fail
    go_roundw
    case rel=>
     have h5:=(HB.out.trans (du.out.mono HB.out.size));exact⟨j+1,c.child,by go_num,rfl,by(obtain⟨d',P',L',h,-⟩:=HG.out;omega),sh (by first|exact h5.alloc h5.size _|exact h5),sh (.inr HG.out)⟩
    case measure=>simp[intOf];omega
def qP (L:List En) (key:ByteArray) (v:Value):Prop:=
 (∃e∈L,e.cell.key=key/\v= .tuple #[.string ⟨e.val.toArray⟩,.bool true,.int .i64 0])
 \/ ((∀e∈L,e.cell.key≠key)/\v= .tuple #[.string ⟨#[]⟩,.bool false,.int .i64 0])
theorem Gn{p:ay}(hp:Reads p){w:AI}{S:List Nat}{σ :ag}{k:Nat}(h:p.At w S σ k)(root:Nat){L:List En}(hd:Tr.Deep σ root L)(hL:∀e∈L,Tr.eI σ e)(key:ByteArray):
  Calls prog 59 #[.iface p.T p.v,.int .i64 root,.string key] w (fun e w'=>IT w.heap.size w w'/\∃v,e= .returned v/\qP L key v):=by
 have HF:=sh (AP hp h root hd key);have HV:=sh fun(W:AI) (hb:IT w.heap.size w W) (e:En) (he:e∈L)=>CV hp (hp.below h hb) e (hL e he);clear hd h hp hL;go_enter func59,ntmps59
 go_wp2_with fail
 refine HF.out.mono ?_;rintro e w1 ⟨ar,v,rfl,hv⟩;have bh:=sh ar;clear ar;rcases hv with⟨e,he,hk,rfl⟩|⟨gd,rfl⟩
 ·have HVE:=sh (HV.out (w1.alloc (.cells #[.string e.cell.key,.string e.cell.val,.int .i64 e.cell.over,.int .i64 e.cell.size,.int .i64 e.cell.child] 170)) (bh.out.alloc bh.out.size _) e he)
  have HG:=sh (show qP L key (.tuple #[.string ⟨e.val.toArray⟩,.bool true,.int .i64 0]) from .inl ⟨e,he,hk,rfl⟩);clear hk he;obtain⟨c,hc⟩:∃c,c=e.cell:=⟨_,rfl⟩;obtain⟨vl,EJ⟩:∃vl,vl=e.val:=⟨_,rfl⟩;rw[<-hc,<-EJ]at HVE;rw[<-EJ]at HG;rw[<-hc];clear hc EJ HV;go_wp2_with fail
  refine HVE.out.mono ?_;rintro x w2 ⟨rfl,aC⟩;have bm:=sh ((bh.out.alloc bh.out.size _).trans (aC.mono (bh.out.alloc bh.out.size _).size));clear aC;go_wp2_with fail
  go_ret3
  exact⟨bm.out,_,rfl,HG.out⟩
 ·have HG:=sh (show qP L key (.tuple #[.string ⟨#[]⟩,.bool false,.int .i64 0]) from .inr ⟨gd,rfl⟩)
  clear gd HV;go_wp2_with fail
  go_ret3
  exact⟨bh.out.alloc bh.out.size _,_,rfl,HG.out⟩
structure Kr where
 q:Nat
 g:Nat
 T:List Nat
 Sd:List Nat
 P:eK
 D:DevS
 cq:ag
structure Kr.Ok (E:Kr):Prop where
 on:E.D.off=false
 steps:E.D.steps<=1000000000
 zr:∀n p,E.cq n=some p->1<=n/\(n:Int)<E.P.m.l/\∃t:Int,E.D.vQ n p.kind t p.body
def cA (E:Kr):ay where
 T:=117
 v:= .agg #[.pointer (some ⟨E.q,0,none⟩)]
 At w S σ k:=Pg w E.q E.T E.g E.P/\Dev w E.g E.Sd E.D/\aS w/\ σ =E.cq/\S=E.q::0::(E.T++E.Sd)/\k=0
 F:=False
theorem JQ{E:Kr}(hE:E.Ok){w:AI}(hp:Pg w E.q E.T E.g E.P)(hd:Dev w E.g E.Sd E.D)(hr:aS w)(n:Nat)(x:rW)(hx:E.cq n=some x):
  Calls prog 321 #[.agg #[.pointer (some ⟨E.q,0,none⟩)],.int .i64 n] w (fun e w'=>IT w.heap.size w w'/\∃a b:Int,e= .returned (.tuple #[.agg #[.int .i64 x.kind,.int .i64 a,.int .i64 b,.string x.body],.int .i64 0])):=by
 obtain⟨h1,h2,t,uy⟩:=hE.zr n x hx;have HP:=sh fun(W:AI) (hb:IT w.heap.size w W)=>x8 (hp.below hb) (hd.below hb) (hr.below hb) hE.steps hE.on n h1 h2 uy;clear hp hd hr hE hx h1 h2 uy;go_enter func321,ntmps321
 go_wp2_with fail
 refine(HP.out _ (((BY _ w).alloc (AS _) _).alloc (by simp) _)).mono ?_;rintro e w1 ⟨rfl,ar⟩;have pS:(w.alloc (.cells #[.pointer (some ⟨E.q,0,none⟩)] 117)).heap.size=w.heap.size+1:=by simp
 have aT:=ae (Bk.new (w.alloc (.cells #[.pointer (some ⟨E.q,0,none⟩)] 117)) 126 #[.int .i64 0,.int .i64 0,.int .i64 0,.string ⟨#[]⟩]) ar;rw[pS]at aT;have HB:=sh ((((BY _ w).alloc (AS _) (.cells #[.pointer (some ⟨E.q,0,none⟩)] 117)).alloc (by simp) (.cells #[.int .i64 0,.int .i64 0,.int .i64 0,.string ⟨#[]⟩] 126)).trans (ar.mono (by simp;omega)));obtain⟨x0,x1,x2,x3⟩:=aT.four;have f0:=aT.frozen 0;have f1:=aT.frozen 1;have f2:=aT.frozen 2;have f3:=aT.frozen 3;have lp:=aT.lt;clear ar aT pS;go_wp2_with fail
 refine abT (v:= .tuple #[.agg #[.int .i64 x.kind,.int .i64 n,.int .i64 t,.string x.body],.int .i64 0]) (by simp[acJ,results321,go_sem,lp,x0,x1,x2,x3]) rfl ⟨?_,n,t,rfl⟩;exact(((HB.out.setCell (p:=⟨w.heap.size+1,0,none⟩) (by simp) _).setCell (p:=⟨w.heap.size+1,1,none⟩) (by simp) _).setCell (p:=⟨w.heap.size+1,2,none⟩) (by simp) _).setCell (p:=⟨w.heap.size+1,3,none⟩) (by simp) _
theorem cD{E:Kr}(hE:E.Ok):Reads (cA E) where
 off:=by
  rintro w w' S U σ k ⟨h1,h2,h3,h4,rfl,h6⟩ ho hU;exact⟨h1.off ho (fun b hb=>hU b (by simp[hb])),h2.off ho (fun b hb=>hU b (by simp[hb])),h3.off ho (hU _ (by simp)),h4,rfl,h6⟩
 old:=by
  rintro w S σ k ⟨h1,h2,h3,h4,rfl,h6⟩ b hb;simp only[OF,By]at hb;rcases hb with rfl|rfl|hb|hb
  ·obtain⟨_,_,hp⟩:=h1;exact hp.cells.lt
  ·exact h3.lt
  ·exact h1.old b hb
  ·exact h2.old b hb
 less:=by
  rintro w S σ k k' ⟨h1,h2,h3,h4,h5,h6⟩ hk;exact⟨h1,h2,h3,h4,h5,by omega⟩
 load:=by
  refine⟨321,.agg #[.pointer (some ⟨E.q,0,none⟩)],fun W=>by kernel_rfl,fun W=>by kernel_rfl,fun args W=>by kernel_rfl,?_⟩;rintro w S σ k no p ⟨h1,h2,h3,rfl,h5,h6⟩ hp;exact JQ hE h1 h2 h3 no p hp
def DC (e:En):Prop:=e.val.length=4/\1<=ai ⟨e.val.toArray⟩ 0 4/\ai ⟨e.val.toArray⟩ 0 4<512
def bH (L:List En) (name:ByteArray) (r:Nat):Prop:=
 (∃e∈L,e.cell.key=name/\r=ai ⟨e.val.toArray⟩ 0 4)\/((∀e∈L,e.cell.key≠name)/\r=0)
theorem vc{p:ay}(hp:Reads p){w:AI}{S:List Nat}{σ :ag}{k:Nat}(h:p.At w S σ k)(root:Nat){L:List En}(hd:Tr.Deep σ root L)(hL:∀e∈L,Tr.eI σ e)(hN:∀e∈L,DC e)(name:ByteArray)(h1:1<=name.size)(h2:name.size<=32):
  Calls prog 58 #[.iface p.T p.v,.int .i64 root,.string name] w (fun e w'=>IT w.heap.size w w'/\∃r:Nat,e= .returned (.tuple #[.int .i64 r,.int .i64 0])/\bH L name r):=by
 have HG:=sh (Gn hp h root hd hL name);have bM:(name.toList==[])=false:=by
  have:name.toList.length=name.size:=by rw[abV];rfl
  cases hl:name.toList with
  | nil=>rw[hl]at this;simp at this;omega
  | cons a t=>rfl
 have VG:(name.toList==(⟨#[]⟩:ByteArray).toList)=false:=by
  have:(⟨#[]⟩:ByteArray).toList=[]:=by rw[abV]
  rw[this];exact bM
 have z1:decide ((32:Int)<(name.size:Int))=false:=decide_eq_false (by omega);have z2:decide (32<name.size)=false:=decide_eq_false (by omega);clear hd h hp hL h1;go_enter func58,ntmps58
 go_wp2_with fail
 refine HG.out.mono ?_;rintro e w1 ⟨ar,v,rfl,hv⟩;have HB:=sh ar;clear ar HG;rcases hv with⟨e,he,hk,rfl⟩|⟨gd,rfl⟩
 ·obtain⟨g1,g2,g3⟩:=hN e he
  have HR:=sh (show bH L name (ai ⟨e.val.toArray⟩ 0 4) from .inl ⟨e,he,hk,rfl⟩);obtain⟨s,hs⟩:∃s,s=(⟨e.val.toArray⟩:ByteArray):=⟨_,rfl⟩;have cZ:s.size=4:=by rw[hs];show e.val.toArray.size=4;simpa using g1
  rw[<-hs]at HR g2 g3 |-;have HT:=sh fun(W:AI)=>fO s 0 4 W (by omega) (by omega) (by omega) (by omega);obtain⟨r,hr⟩:∃r,r=ai s 0 4:=⟨_,rfl⟩;rw[<-hr]at HR HT g2 g3;have y1:((r:Int)==0)=false:=by simp;omega
  have y2:((s.size:Int)==4)=true:=by simp;omega
  have y3:=wrap_i64 r (by omega);clear hs hr he hk hN g1;go_wp2_with fail
  refine(HT.out _).mono ?_;rintro e w2 ⟨rfl,aC⟩;have bm:=sh (HB.out.trans (aC.mono HB.out.size));clear aC;go_wp2_with fail
  go_ret2
  exact⟨bm.out,r,rfl,HR.out⟩
 ·have HR:=sh (show bH L name 0 from .inr ⟨gd,rfl⟩)
  clear gd hN;go_wp2_with fail
  go_ret2
  exact⟨HB.out,0,rfl,HR.out⟩
namespace Tr
theorem ta{key:ByteArray}{e:En}{l:List En}(hr:bj l)(he:e.cell.key=key)(x:En):x∈dB key e l↔x=e\/(x∈l/\x.cell.key≠key):=by
 obtain⟨a,b,rfl,h1,h2⟩:=bl key l;rw[eu a b key e h1 h2];obtain⟨r1,r2,r3⟩:=eZ hr;have hg:=pz r2 h2;have bM:∀ {c d:ByteArray},Nd.lt c d=true->c≠d:=fun h e=>by subst e;have:=Nd.lt_asymm h;rw[h]at this;cases this
 have hb:∀y,y∈rest key b↔y∈b/\y.cell.key≠key:=fun y=>by
  refine⟨fun h=>⟨pA key b y h,fun e=>bM (hg y h) e.symm⟩,fun⟨h,hk⟩=> ?_⟩;cases b with
  | nil=>cases h
  | cons z t=>
   simp only[rest];split
   ·next hz=>
    rcases OF.1 h with rfl|h
    ·exact absurd (Nd.gD (by simpa using hz)) hk
    ·exact h
   ·exact h
 rw[By,By,List.mem_singleton,By,hb];constructor
 ·rintro(h|h|h)
  ·exact .inr ⟨.inl h,bM (h1 x h)⟩
  ·exact .inl h
  ·exact .inr ⟨.inr h.1,h.2⟩
 ·rintro(h|⟨h|h,hk⟩)
  ·exact .inr (.inl h)
  ·exact .inl h
  ·exact .inr (.inr ⟨h,hk⟩)
theorem aD.rising{σ :ag}{d no:Nat}{P:List Nat}{L:List En}(h:aD σ d no P L):bj L:=by
 obtain⟨AF,P',-,-,-,-,g,-⟩:=h;exact Part.rising g
theorem dt.nV{σ :ag}{root:Nat}{P:List Nat}{L:List En}(h:dt σ root P L):∀e∈L,eI σ e:=by
 rcases h with⟨-,-,rfl⟩|⟨d,h⟩
 ·simp
 ·exact h.nV
theorem dt.rising{σ :ag}{root:Nat}{P:List Nat}{L:List En}(h:dt σ root P L):bj L:=by
 rcases h with⟨-,-,rfl⟩|⟨d,h⟩
 ·exact aey
 ·exact h.rising
theorem dt.mem{σ :ag}{root:Nat}{P:List Nat}{L:List En}(h:dt σ root P L):∀n∈P,1<=n/\n<512/\ σ n≠none:=by
 rcases h with⟨-,rfl,-⟩|⟨d,h⟩
 ·simp
 ·exact h.mem
theorem dt.congr{σ σ':ag}{root:Nat}{P:List Nat}{L:List En}(h:dt σ root P L)(hk:∀n∈P,σ' n= σ n):dt σ' root P L:=by
 rcases h with⟨rfl,rfl,rfl⟩|⟨d,h⟩
 ·exact .inl ⟨rfl,rfl,rfl⟩
 ·exact .inr ⟨d,h.congr hk⟩
theorem dt.small{σ :ag}{root:Nat}{P:List Nat}{L:List En}(h:dt σ root P L):root<512:=by
 rcases h with⟨rfl,-,-⟩|⟨d,h⟩
 ·omega
 ·obtain⟨_,_,_,_,h,_⟩:=h;exact h
theorem dt.zero{σ :ag}{root:Nat}{P:List Nat}{L:List En}(h:dt σ root P L):root=0↔L=[]:=by
 rcases h with⟨rfl,rfl,rfl⟩|⟨d,h⟩
 ·simp
 ·obtain⟨_,_,_,h1,h,_,_,_,h2,_⟩:=h
  exact⟨fun e=>by omega,fun e=>absurd e h2⟩
end Tr
structure Tn where
 root:Nat
 P:List Nat
 L:List En
def Tn.Is (σ :ag) (t:Tn):Prop:=Tr.dt σ t.root t.P t.L
def Tn.zero:Tn:=⟨0,[],[]⟩
structure Forest where
 main:Tn
 R:ByteArray->Option Nat
 tr:ByteArray->Tn
 NS:List ByteArray
def dc (n:ByteArray):Prop:=1<=n.size/\n.size<=32
namespace Forest
def flat (tr:ByteArray->Tn) (l:List ByteArray):List Nat:=l.flatMap fun n=>(tr n).P
def aa (F:Forest):List Nat:=F.main.P++flat F.tr F.NS
structure Ok (F:Forest) (σ :ag):Prop where
 main:F.main.Is σ
 each:∀n,(F.tr n).Is σ
 out:∀n,n∉F.NS->F.tr n=Tn.zero
 nodup:F.aa.Nodup
 full:∀n,σ n≠none->n∈F.aa
 names:∀e∈F.main.L,DC e
 law:∀n r,F.R n=some r->r=(F.tr n).root/\n∈F.NS
 wC:∀n,F.R n=none->bH F.main.L n (F.tr n).root
 nd:F.NS.Nodup
 valid:∀n∈F.NS,dc n
theorem uc{tr:ByteArray->Tn}{n:ByteArray}{t:Tn}:∀ {l:List ByteArray},n∉l->flat (fun m=>if m=n then t else tr m) l=flat tr l
 | [],_=>rfl
 | a::l,h=>by
  rw[OF,not_or]at h;unfold flat;rw[abH,abH];have e1:(if a=n then t else tr a)=tr a:=if_neg (fun e=>h.1 e.symm);show (if a=n then t else tr a).P++flat (fun m=>if m=n then t else tr m) l=(tr a).P++flat tr l;rw[e1,uc h.2]
def known (l:List ByteArray) (n:ByteArray):Bool:=l.any fun m=>decide (m=n)
theorem eC{l:List ByteArray}{n:ByteArray}:known l n=true↔n∈l:=by
 unfold known;rw[List.any_eq_true];constructor
 ·rintro⟨x,hx,h⟩
  have:=of_decide_eq_true h;subst this;exact hx
 ·exact fun h=>⟨n,h,by simp⟩
theorem mT(a b c:List Nat):(a++(b++c)).Perm (b++(a++c)):=by
 rw[<-aaa,<-aaa];exact List.perm_append_comm.append_right _
def dF (F:Forest) (n:ByteArray):Forest:=if known F.NS n=true then F else { F with NS:=n::F.NS }
theorem Hl(F:Forest)(n:ByteArray):(F.dF n).tr=F.tr/\(F.dF n).R=F.R/\(F.dF n).main=F.main/\n∈(F.dF n).NS:=by
 unfold dF;split
 ·next h=>exact⟨rfl,rfl,rfl,eC.1 h⟩
 ·exact⟨rfl,rfl,rfl,by simp⟩
theorem Ok.with{F:Forest}{σ :ag}(h:F.Ok σ){n:ByteArray}(hn:dc n):(F.dF n).Ok σ :=by
 unfold dF;split
 ·exact h
 ·next ze=>
  have hm:n∉F.NS:=fun h=>ze (eC.2 h);have hp:({ F with NS:=n::F.NS }:Forest).aa=F.aa:=by
   unfold aa flat;rw[abH,h.out n hm];rfl
  refine⟨h.main,h.each,fun m jf=>h.out m (fun e=>jf (by simp[e])),by rw[hp];exact h.nodup,fun m hs=>by rw[hp];exact h.full m hs,h.names,fun m r hr=>⟨(h.law m r hr).1,by simp[(h.law m r hr).2]⟩,h.wC,abJ.2 ⟨hm,h.nd⟩,fun m jf=> ?_⟩;rcases OF.1 jf with rfl|jf
  ·exact hn
  ·exact h.valid m jf
theorem Ok.split{F:Forest}{σ :ag}(h:F.Ok σ){n:ByteArray}(hn:n∈F.NS):∃a b,F.NS=a++(n::b)/\n∉a/\n∉b/\F.aa.Perm ((F.tr n).P++(F.main.P++(flat F.tr a++flat F.tr b))):=by
 obtain⟨a,b,oU⟩:=List.append_of_mem hn;have bI:=h.nd;rw[oU]at bI;have hp:=(List.perm_middle (a:=n) (l₁ :=a) (l₂ :=b)).nodup_iff.1 bI;have h1:=(abJ.1 hp).1;rw[By,not_or]at h1;refine⟨a,b,oU,h1.1,h1.2,?_⟩;unfold aa;rw[oU];unfold flat;rw[Tr.aw,abH];have e1:(F.main.P++(a.flatMap (fun n=>(F.tr n).P)++((F.tr n).P++b.flatMap (fun n=>(F.tr n).P)))).Perm (F.main.P++((F.tr n).P++(a.flatMap (fun n=>(F.tr n).P)++b.flatMap (fun n=>(F.tr n).P)))):=by
  exact ace _ (mT _ _ _)
 exact e1.trans (mT _ _ _)
def put (F:Forest) (n:ByteArray) (t:Tn):Forest:={ F.dF n with tr:=fun m=>if m=n then t else F.tr m,R:=fun m=>if m=n then some t.root else F.R m }
theorem Ok.put{F:Forest}{σ σ':ag}(h0:F.Ok σ){n:ByteArray}(hn:dc n){t:Tn}(ht:t.Is σ')(hm:Tr.Moved σ (F.tr n).P σ' t.P):(F.put n t).Ok σ':=by
 have h:=h0.with hn;obtain⟨e1,e2,e3,e4⟩:=F.Hl n;unfold Forest.put;obtain⟨G,hG⟩:∃G,G=F.dF n:=⟨_,rfl⟩;rw[<-hG]at h e1 e2 e3 e4 |-;rw[<-e1]at hm;rw[<-e1,<-e2];obtain⟨a,b,oU,ha,hb,fg⟩:=h.split e4;have bI:=fg.nodup_iff.1 h.nodup;obtain⟨n1,n2,n3⟩:=aag.1 bI;have uF:∀m∈G.main.P++(flat G.tr a++flat G.tr b),σ m≠none:=fun m kV=>by
  rcases By.1 kV with kV|kV
  ·exact(h.main.mem m kV).2.2
  ·rcases By.1 kV with kV|kV
   all_goals
    obtain⟨x,hx,kV⟩:=abr.1 kV;exact((h.each x).mem m kV).2.2
 have jU:∀m∈G.main.P++(flat G.tr a++flat G.tr b),m∉(G.tr n).P:=fun m kV hq=>n3 m hq m kV rfl;have bU:=hm.frame uF n2 jU;have iE:=hm.same uF jU;have oZ:(Forest.aa { G with tr:=fun m=>if m=n then t else G.tr m,R:=fun m=>if m=n then some t.root else G.R m }).Perm (t.P++(G.main.P++(flat G.tr a++flat G.tr b))):=by
  unfold Forest.aa;simp only;rw[oU];have e:flat (fun m=>if m=n then t else G.tr m) (a++n::b)=flat G.tr a++(t.P++flat G.tr b):=by
   rw[<-uc (t:=t) ha,<-uc (t:=t) hb];unfold flat;rw[Tr.aw,abH];have e9:(if n=n then t else G.tr n)=t:=if_pos rfl;show _++((if n=n then t else G.tr n).P++_)=_;rw[e9]
  rw[e];have e1:(G.main.P++(flat G.tr a++(t.P++flat G.tr b))).Perm (G.main.P++(t.P++(flat G.tr a++flat G.tr b))):=by
   exact ace _ (mT _ _ _)
  exact e1.trans (mT _ _ _)
 refine⟨h.main.congr fun m kV=>iE m (by simp[kV]),fun m=> ?_,fun m kV=> ?_,oZ.nodup_iff.2 bU.nodup,fun m hs=> ?_,h.names,fun m r hr=> ?_,fun m hr=> ?_,h.nd,h.valid⟩
 ·by_cases e:m=n
  ·simp only[e,if_true];exact ht
  ·simp only[if_neg e]
   refine(h.each m).congr fun x hx=>iE x ?_;have om:m∈G.NS:=by
    by_cases hc:m∈G.NS
    ·exact hc
    ·rw[h.out m hc]at hx;cases hx
   rw[oU,By,OF]at om;simp only[By];rcases om with om|om|om
   ·exact .inr (.inl (abr.2 ⟨m,om,hx⟩))
   ·exact absurd om e
   ·exact .inr (.inr (abr.2 ⟨m,om,hx⟩))
 ·have e:m≠n:=fun e=>kV (by rw[e];exact e4)
  simp only[if_neg e];exact h.out m kV
 ·rw[oZ.mem_iff]
  rcases hm.Xd m hs with hd|⟨zP,mK⟩
  ·simp[hd]
  ·have:=h.full m mK
   rw[fg.mem_iff]at this;rcases By.1 this with h9|h9
   ·exact absurd h9 zP
   ·exact By.2 (.inr h9)
 ·by_cases e:m=n
  ·simp only[e,if_true]at hr |-
   exact⟨(aek hr).symm,e4⟩
  ·simp only[if_neg e]at hr |-
   exact h.law m r hr
 ·by_cases e:m=n
  ·simp only[e,if_true]at hr;cases hr
  ·simp only[if_neg e]at hr |-
   exact h.wC m hr
theorem Ok.root{F:Forest}{σ :ag}(h:F.Ok σ)(n:ByteArray):(∃r,F.R n=some r/\r=(F.tr n).root)\/(F.R n=none/\bH F.main.L n (F.tr n).root):=by
 cases hr:F.R n with
 | none=>exact .inr ⟨rfl,h.wC n hr⟩
 | some r=>exact .inl ⟨r,rfl,(h.law n r hr).1⟩
end Forest
theorem bH.L3{L:List En}{name:ByteArray}{r r':Nat}(hr:Tr.bj L)(h:bH L name r)(h':bH L name r'):r=r':=by
 have key:∀e∈L,∀e'∈L,e.cell.key=e'.cell.key->e=e':=fun e he e' ZS hk=>by
  obtain⟨i,hi,rfl⟩:=adp.1 he;obtain⟨j,hj,rfl⟩:=adp.1 ZS;have hp:=List.pairwise_iff_getElem.1 hr;rcases Nat.lt_trichotomy i j with h|h|h
  ·have:=hp i j hi hj h
   rw[hk]at this;have h2:=Nd.lt_asymm this;rw[this]at h2;cases h2
  ·subst h;rfl
  ·have:=hp j i hj hi h
   rw[hk]at this;have h2:=Nd.lt_asymm this;rw[this]at h2;cases h2
 rcases h with⟨e,he,hk,rfl⟩|⟨h,rfl⟩
 ·rcases h' with⟨e',ZS,kz,rfl⟩|⟨h',rfl⟩
  ·rw[key e he e' ZS (hk.trans kz.symm)]
  ·exact absurd hk (h' e he)
 ·rcases h' with⟨e',ZS,kz,rfl⟩|⟨h',rfl⟩
  ·exact absurd kz (h e' ZS)
  ·rfl
theorem bH.put{L:List En}(hr:Tr.bj L){key:ByteArray}{e:En}(he:e.cell.key=key)(m:ByteArray)(r:Nat):bH (Tr.dB key e L) m r↔if m=key then r=ai ⟨e.val.toArray⟩ 0 4 else bH L m r:=by
 have hm:=Tr.ta hr he;split
 ·next h=>
  subst h;constructor
  ·rintro(⟨x,hx,hk,rfl⟩|⟨h,-⟩)
   ·rcases(hm x).1 hx with rfl|⟨-,h⟩
    ·rfl
    ·exact absurd hk h
   ·exact absurd he (h e ((hm e).2 (.inl rfl)))
  ·rintro rfl
   exact .inl ⟨e,(hm e).2 (.inl rfl),he,rfl⟩
 ·next h=>
  constructor
  ·rintro(⟨x,hx,hk,rfl⟩|⟨h2,rfl⟩)
   ·rcases(hm x).1 hx with rfl|⟨hx,-⟩
    ·exact absurd (hk.symm.trans he) h
    ·exact .inl ⟨x,hx,hk,rfl⟩
   ·refine .inr ⟨fun x hx hk=>h2 x ((hm x).2 (.inr ⟨hx,fun e=>h (hk.symm.trans e)⟩)) hk,rfl⟩
  ·rintro(⟨x,hx,hk,rfl⟩|⟨h2,rfl⟩)
   ·exact .inl ⟨x,(hm x).2 (.inr ⟨hx,fun e=>h (hk.symm.trans e)⟩),hk,rfl⟩
   ·refine .inr ⟨fun x hx hk=> ?_,rfl⟩
    rcases(hm x).1 hx with rfl|⟨hx,-⟩
    ·exact h (hk.symm.trans he)
    ·exact h2 x hx hk
namespace Forest
def tell (F:Forest) (t:Tn) (n:ByteArray):Forest:={ F with main:=t,R:=fun m=>if m=n then none else F.R m }
theorem Ok.tell{F:Forest}{σ σ':ag}(h:F.Ok σ){t:Tn}(ht:t.Is σ')(hm:Tr.Moved σ F.main.P σ' t.P)(hN:∀e∈t.L,DC e)(n:ByteArray)(hn:bH t.L n (F.tr n).root)(GJ:∀m r,m≠n->(bH F.main.L m r->bH t.L m r)):(F.tell t n).Ok σ':=by
 unfold Forest.tell;have bI:=h.nodup;unfold Forest.aa at bI;obtain⟨n1,n2,n3⟩:=aag.1 bI;have uF:∀m∈flat F.tr F.NS,σ m≠none:=fun m kV=>by
  obtain⟨x,hx,kV⟩:=abr.1 kV;exact((h.each x).mem m kV).2.2
 have jU:∀m∈flat F.tr F.NS,m∉F.main.P:=fun m kV hq=>n3 m hq m kV rfl;have bU:=hm.frame uF n2 jU;have iE:=hm.same uF jU;refine⟨ht,fun m=>(h.each m).congr fun x hx=>iE x ?_,h.out,bU.nodup,fun m hs=> ?_,hN,fun m r hr=> ?_,fun m hr=> ?_,h.nd,h.valid⟩
 ·have om:m∈F.NS:=by
   by_cases hc:m∈F.NS
   ·exact hc
   ·have e:=h.out m hc
    have PA:x∈(F.tr m).P:=hx;rw[e]at PA;cases PA
  exact abr.2 ⟨m,om,hx⟩
 ·show m∈t.P++flat F.tr F.NS
  rcases hm.Xd m hs with hd|⟨zP,mK⟩
  ·simp[hd]
  ·rcases By.1 (h.full m mK)with h9|h9
   ·exact absurd h9 zP
   ·exact By.2 (.inr h9)
 ·have hr:(if m=n then none else F.R m)=some r:=hr
  by_cases e:m=n
  ·rw[if_pos e]at hr;cases hr
  ·rw[if_neg e]at hr
   exact h.law m r hr
 ·have hr:(if m=n then none else F.R m)=none:=hr
  by_cases e:m=n
  ·subst e;exact hn
  ·rw[if_neg e]at hr
   exact GJ m _ e (h.wC m hr)
end Forest
namespace Tr
theorem RM{key:ByteArray}{b:List En}(r2:bj b)(h2:∀y t,b=y::t->Nd.lt y.cell.key key=false)(y:En):y∈rest key b↔y∈b/\y.cell.key≠key:=by
 have bM:∀ {c d:ByteArray},Nd.lt c d=true->c≠d:=fun h e=>by subst e;have:=Nd.lt_asymm h;rw[h]at this;cases this
 have hg:=pz r2 h2;refine⟨fun h=>⟨pA key b y h,fun e=>bM (hg y h) e.symm⟩,fun⟨h,hk⟩=> ?_⟩;cases b with
 | nil=>cases h
 | cons z t=>
  simp only[rest];split
  ·next hz=>
   rcases OF.1 h with rfl|h
   ·exact absurd (Nd.gD (by simpa using hz)) hk
   ·exact h
  ·exact h
theorem oO{key:ByteArray}{l:List En}(hr:bj l)(x:En):x∈eM key l↔x∈l/\x.cell.key≠key:=by
 obtain⟨a,b,rfl,h1,h2⟩:=bl key l;rw[de a b key h1 h2];obtain⟨r1,r2,r3⟩:=eZ hr;have bM:∀ {c d:ByteArray},Nd.lt c d=true->c≠d:=fun h e=>by subst e;have:=Nd.lt_asymm h;rw[h]at this;cases this
 rw[By,By,RM r2 h2];constructor
 ·rintro(h|h)
  ·exact⟨.inl h,bM (h1 x h)⟩
  ·exact⟨.inr h.1,h.2⟩
 ·rintro⟨h|h,hk⟩
  ·exact .inl h
  ·exact .inr ⟨h,hk⟩
theorem LK(key:ByteArray)(l:List En):(eM key l).length<=l.length:=by
 unfold eM;rw[List.length_append,List.length_take,List.length_drop];split<;>omega
end Tr
theorem bH.del{L:List En}(hr:Tr.bj L)(key m:ByteArray)(r:Nat):bH (Tr.eM key L) m r↔if m=key then r=0 else bH L m r:=by
 have hm:=Tr.oO (key:=key) hr;split
 ·next h=>
  subst h;constructor
  ·rintro(⟨x,hx,hk,rfl⟩|⟨-,rfl⟩)
   ·exact absurd hk ((hm x).1 hx).2
   ·rfl
  ·rintro rfl
   exact .inr ⟨fun x hx hk=>((hm x).1 hx).2 hk,rfl⟩
 ·next h=>
  constructor
  ·rintro(⟨x,hx,hk,rfl⟩|⟨h2,rfl⟩)
   ·exact .inl ⟨x,((hm x).1 hx).1,hk,rfl⟩
   ·refine .inr ⟨fun x hx hk=>h2 x ((hm x).2 ⟨hx,fun e=>h (hk.symm.trans e)⟩) hk,rfl⟩
  ·rintro(⟨x,hx,hk,rfl⟩|⟨h2,rfl⟩)
   ·exact .inl ⟨x,(hm x).2 ⟨hx,fun e=>h (hk.symm.trans e)⟩,hk,rfl⟩
   ·exact .inr ⟨fun x hx hk=>h2 x ((hm x).1 hx).1 hk,rfl⟩
theorem FI{G:Forest}{σ σ':ag}(h:G.Ok σ){name:ByteArray}{root:Nat}{P':List Nat}(hr:G.R name=some 0)(ht:Tr.dt σ' root P' (Tr.eM name G.main.L))(hm:Tr.Moved σ G.main.P σ' P'):
  (G.tell ⟨root,P',Tr.eM name G.main.L⟩ name).Ok σ':=by
 obtain⟨e1,e2⟩:=h.law name 0 hr;have EH:=h.main.rising;refine h.tell (t:=⟨root,P',Tr.eM name G.main.L⟩) ht hm (fun e he=>h.names e ((Tr.oO EH e).1 he).1) name ?_ (fun m r' om I9=> ?_)
 ·rw[bH.del EH,if_pos rfl,e1]
 ·rw[bH.del EH,if_neg om]
  exact I9
theorem JZ{G:Forest}{σ :ag}(h:G.Ok σ){name:ByteArray}(hr:G.R name=some 0)(gd:∀x∈G.main.L,x.cell.key≠name):(G.tell G.main name).Ok σ :=by
 obtain⟨e1,e2⟩:=h.law name 0 hr;exact h.tell h.main (Tr.Moved.refl (fun n hn=>(h.main.mem n hn).2.2) (aag.1 h.nodup).1) h.names name (by rw[<-e1];exact .inr ⟨gd,rfl⟩) (fun m r _ h=>h)
end Go.Proofs.YtjbcbnemdhbhbaaGreatDoor
