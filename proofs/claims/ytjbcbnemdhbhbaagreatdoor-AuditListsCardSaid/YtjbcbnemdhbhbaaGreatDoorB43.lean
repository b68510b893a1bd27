import Derived.Test.YtjbcbnemdhbhbaaGreatDoorB38
import Derived.Test.YtjbcbnemdhbhbaaGreatDoorB42
set_option maxRecDepth 100000
set_option linter.unusedVariables false
set_option linter.unusedSimpArgs false
set_option maxHeartbeats 40000000
open Array renaming length_toList→ack
open Go renaming Calls→aag,World→AI
open Go.Lib renaming hid→sh
open Go.RowKit.Below renaming refl→IN
open Go.Value renaming ownBlock→aaU
open Go.World renaming ownsRow_nil→acv
open Go.World.ownsRow renaming lt→abr
open List renaming append_assoc→OF,length_append→BY,length_map→aae,mem_append→AT,mem_cons→IT,mem_flatMap→abp,mem_singleton→By,size_toArray→adS
open Nat renaming le_refl→AS,le_trans→abE,lt_of_lt_of_le→aaf
open Option renaming mem_toList→abz
namespace Go.Proofs.YtjbcbnemdhbhbaaGreatDoor
open Go.Proofs.Tryz
namespace DevS
structure Calm (D:DevS):Prop where
 on:D.off=false
 cD:D.cD=0
theorem Calm.eu{D:DevS}(h:D.Calm):D.eu=true:=by
 unfold DevS.eu;rw[h.on,h.cD];rfl
theorem Calm.al{D:DevS}(h:D.Calm):D.al.Calm:=by
 unfold DevS.al;rw[h.on,h.cD];exact⟨rfl,rfl⟩
theorem Calm.write{D:DevS}(h:D.Calm){i:Nat}{s:ByteArray}(hi:i<D.sec.length)(hs:s.size=128):(D.write (i:Int) s).2=0/\(D.write (i:Int) s).1.Calm:=by
 rw[CE hi hs,if_pos h.eu];exact⟨rfl,h.al.on,h.al.cD⟩
theorem Calm.writeL:∀(l:List ByteArray) {D:DevS} (h:D.Calm) {i:Nat} (hi:i+l.length<=D.sec.length) (hs:∀s∈l,s.size=128),(D.writeL i l).2=0/\(D.writeL i l).1.Calm
 | [],D,h,i,hi,hs=>⟨rfl,h⟩
 | s::l,D,h,i,hi,hs=>by
  rw[List.length_cons]at hi;obtain⟨h1,h2⟩:=h.write (i:=i) (s:=s) (by omega) (hs s (by simp));obtain⟨k1,-,-⟩:=gG (D:=D) (i:=i) (s:=s) (by omega) (hs s (by simp));have he:D.writeL i (s::l)=DevS.writeL (D.write (i:Int) s).1 (i+1) l:=by
   show (if (D.write (i:Int) s).2=0 then _ else _)=_;rw[if_pos h1]
  rw[he];exact Calm.writeL l h2 (by rw[k1.sec];omega) (fun x hx=>hs x (by simp[hx]))
theorem Calm.sync{D:DevS}(h:D.Calm):D.sync=(D.al.synced,0):=by
 unfold DevS.sync;rw[if_pos h.eu]
end DevS
theorem vE(s:ByteArray)(hs:s.size=512):(⟨((s.extract 0 128).data.toList++(s.extract 128 256).data.toList++(s.extract 256 384).data.toList++(s.extract 384 512).data.toList).toArray⟩:ByteArray)=s:=by
 have hl:s.data.toList.length=512:=by rw[ack];exact hs
 have he:∀a b:Nat,(s.extract a b).data.toList=(s.data.toList.drop a).take (b-a):=fun a b=>by
  simp[ByteArray.data_extract,Array.toList_extract]
 rw[he,he,he,he];have e1:(s.data.toList.drop 0).take 128++(s.data.toList.drop 128).take 128++(s.data.toList.drop 256).take 128++(s.data.toList.drop 384).take 128=s.data.toList:=by
  have k:∀(l:List UInt8) (a b:Nat),(l.drop a).take b++l.drop (a+b)=l.drop a:=fun l a b=>by rw[<-List.drop_drop,List.take_append_drop]
  have h4:(s.data.toList.drop 384).take 128=s.data.toList.drop 384:=List.take_of_length_le (by rw[List.length_drop,hl];omega);rw[h4,OF,k _ 256 128,OF,k _ 128 128,k _ 0 128];rfl
 show (⟨((s.data.toList.drop 0).take 128++(s.data.toList.drop 128).take 128++(s.data.toList.drop 256).take 128++(s.data.toList.drop 384).take 128).toArray⟩:ByteArray)=s;rw[e1]
theorem EM{k n t:Int}{b:ByteArray}(h:cw k n t b=true):(bK k n t b).size=512:=by
 rw[jk h];show (gV _ _ _ _).toArray.size=512;rw[adS];refine mK _ _ _ _ ?_;have:=(eY h).2.2.2.2.2.2;show b.data.toList.length<=488;rw[ack];exact this
theorem NG{D:DevS}(h:D.Calm){n:Nat}{k t:Int}{b:ByteArray}(hr:cw k n t b=true)(hf:4*n+4<=D.sec.length):
  (D.writeL (4*n) (aK (bK k n t b))).2=0/\(D.writeL (4*n) (aK (bK k n t b))).1.Calm/\(D.writeL (4*n) (aK (bK k n t b))).1.ve n k t b/\DevS.fC D (D.writeL (4*n) (aK (bK k n t b))).1 (fun j=>4*n<=j/\j<4*n+4):=by
 have hs:=EM hr;have hq:∀x∈aK (bK k n t b),x.size=128:=fun x hx=>by
  obtain⟨i9,h9,rfl⟩:=List.mem_iff_getElem.1 hx;exact gw hs (List.getElem?_eq_getElem h9)
 obtain⟨h1,h2⟩:=DevS.Calm.writeL (aK (bK k n t b)) h (i:=4*n) (by show 4*n+4<=_;exact hf) hq;obtain⟨v1,v2,v3⟩:=DevS.kE (aK (bK k n t b)) D (4*n) (by show 4*n+4<=_;exact hf) hq;rcases v3 with⟨-,v4,-⟩|⟨v3,-⟩
 ·refine⟨h1,h2,⟨by rw[v1.sec];exact hf,hr,?_⟩,v1⟩
  unfold DevS.four;have e0:=v4 0 ((bK k n t b).extract 0 128) rfl;have e1:=v4 1 ((bK k n t b).extract 128 256) rfl;have e2:=v4 2 ((bK k n t b).extract 256 384) rfl;have e3:=v4 3 ((bK k n t b).extract 384 512) rfl;rw[Nat.add_zero]at e0;rw[e0,e1,e2,e3];exact(vE _ hs).symm
 ·rw[h1]at v3;cases v3
theorem rz(t:Nat)(d:ag):∀(ks:List Nat) {D:DevS} (h:D.Calm) (hn:ks.Nodup) (hd:∀n∈ks,∃p,d n=some p/\cw p.kind n t p.body=true/\4*n+4<=D.sec.length),
  ∃D',kx t d ks D=(D',0)/\D'.Calm/\(∀n∈ks,∀p,d n=some p->D'.ve n p.kind t p.body)/\DevS.fC D D' (fun j=>∃n∈ks,4*n<=j/\j<4*n+4)
 | [],D,h,hn,hd=>⟨D,rfl,h,by simp,DevS.fC.refl _ _⟩
 | n::ks,D,h,hn,hd=>by
  obtain⟨gJ,jv⟩:=List.nodup_cons.1 hn;obtain⟨p,hp,hr,hf⟩:=hd n (by simp);obtain⟨k1,k2,k3,k4⟩:=NG h hr hf;obtain⟨D',m1,m2,m3,m4⟩:=rz t d ks k2 jv (fun x hx=>by
   obtain⟨q,q1,q2,q3⟩:=hd x (by simp[hx]);exact⟨q,q1,q2,by rw[k4.sec];exact q3⟩)
  refine⟨D',?_,m2,fun x hx q hq=> ?_,(k4.mono (fun j hj=>⟨n,by simp,hj⟩)).trans (m4.mono (fun j ⟨x,hx,hj⟩=>⟨x,by simp[hx],hj⟩))⟩
  ·show (match d n with|none=>_|some p=>_)=_
   rw[hp];simp only;rw[if_pos k1];exact m1
  ·rcases IT.1 hx with rfl|hx
   ·rw[hp]at hq
    injection hq with hq;subst hq;refine k3.congr (by rw[m4.sec]) fun i h1 h2=>m4.aG ?_;rintro⟨y,hy,h3,h4⟩;have:y=x:=by omega
    subst this;exact gJ hy
   ·exact m3 x hx q hq
def rO.Fits (p:rO):Prop:=1<=p.kind/\p.kind<=3/\p.body.size<=488
namespace Tr
theorem Chain.fit{σ :ag}:∀ {ns:List Nat} {no:Nat} {v:List UInt8},Chain σ no ns v->∀n∈ns,∀p,σ n=Option.some p->p.Fits
 | [],_,_,_=>by simp
 | n::ns,no,v,⟨h1,h2,h3,next,piece,rest,h4,h5,h6,h7,h8,h9,gd⟩=>by
  intro m hm p hp;rcases IT.1 hm with rfl|hm
  ·rw[h4]at hp
   injection hp with hp;subst hp;refine⟨by show 1<=3;omega,by show 3<=3;omega,?_⟩;show (Be.low next 4++piece).toArray.size<=488;rw[adS,BY,Be.aq];omega
  ·exact Chain.fit gd m hm p hp
theorem ft.fit{σ :ag}{e:En}(h:ft σ e):∀n∈e.aa,∀p,σ n=some p->p.Fits:=by
 rcases h.2 with⟨-,h,-⟩|⟨-,h,-⟩
 ·rw[h];simp
 ·exact h.fit
theorem Part.fit{σ :ag}:∀ {d:Nat} {cs:List Ce} {P:List Nat} {L:List En},Part σ d cs P L->∀n∈P,∀p,σ n=some p->p.Fits
 | 0,cs,P,L,h=>by
  obtain⟨h1,h2,h3,h4⟩:=h;subst h2;intro n hn p hp;obtain⟨e,he,hn⟩:=abp.1 hn;exact(h4 e he).fit n hn p hp
 | d+1,cs,P,L,⟨ks,h1,h2,h3,h4,h5,h6⟩=>by
  subst h2;intro n hn p hp;obtain⟨k,hk,hn⟩:=abp.1 hn;obtain⟨zQ,P',hP,a1,a2,a3,a4,a5,-⟩:=(h6 k hk).2;rw[hP]at hn;rcases IT.1 hn with rfl|hn
  ·rw[a3]at hp
   injection hp with hp;subst hp;refine⟨?_,?_,?_⟩
   ·show 1<=(if (d==0)then 1 else 2);split<;>omega
   ·show (if (d==0)then 1 else 2)<=3;split<;>omega
   ·show (Nd.str (d==0) zQ).size<=488
    rw[Nd.dS];exact a5
  ·exact Part.fit a4 n hn p hp
theorem dE.fit{σ :ag}{root:Nat}{P:List Nat}{L:List En}(h:dE σ root P L):∀n∈P,∀p,σ n=some p->p.Fits:=by
 rcases h with⟨-,rfl,-⟩|⟨d,h⟩
 ·simp
 ·obtain⟨zQ,P',hP,a1,a2,a3,a4,a5,-⟩:=h
  subst hP;intro n hn p hp;rcases IT.1 hn with rfl|hn
  ·rw[a3]at hp
   injection hp with hp;subst hp;refine⟨?_,?_,?_⟩
   ·show 1<=(if (d==0)then 1 else 2);split<;>omega
   ·show (if (d==0)then 1 else 2)<=3;split<;>omega
   ·show (Nd.str (d==0) zQ).size<=488
    rw[Nd.dS];exact a5
  ·exact Part.fit a4 n hn p hp
end Tr
theorem Forest.Ok.fit{F:Forest}{σ :ag}(h:F.Ok σ):∀n p,σ n=some p->p.Fits:=by
 intro n p hp;have hn:=h.full n (by rw[hp];simp);unfold Forest.aa at hn;rcases AT.1 hn with hn|hn
 ·exact Tr.dE.fit h.main n hn p hp
 ·obtain⟨x,-,hn⟩:=abp.1 hn
  exact Tr.dE.fit (h.each x) n hn p hp
def du (D:DevS) (σ :ag):Prop:=∀n p,σ n=some p->1<=n/\∃t:Int,D.ve n p.kind t p.body
theorem du.keep{D D':DevS}{σ :ag}(h:du D σ)(hl:D'.sec.length=D.sec.length)(hk:∀i,4<=i->i<D.sec.length->D'.aG i=D.aG i):du D' σ :=fun n p hp=>by
 obtain⟨h1,t,h2⟩:=h n p hp;exact⟨h1,t,h2.congr hl fun i h3 h4=>hk i (by omega) (by have:=h2.fits;omega)⟩
theorem du.sync{D:DevS}{σ :ag}(h:du D σ):du D.al.synced σ :=
 h.keep (by rw[DevS.oa,DevS.jm]) fun i h1 h2=>by rw[DevS.vN (by rw[DevS.jm];exact h2),DevS.uy]
theorem du.Oq{D:DevS}{σ :ag}(h:du D σ){i:Nat}(hi:i<2)(dv:i<D.sec.length){s:ByteArray}(hs:s.size=128):du (D.write (i:Int) s).1 σ :=by
 obtain⟨k1,-,-⟩:=DevS.gG dv hs;exact h.keep (by rw[k1.sec]) fun j h1 h2=>k1.aG (by omega)
theorem du.next{D D':DevS}{σ0 σ :ag}{txn:Nat}{d:ag}{U ks:List Nat}(h:du D σ0)(hk:∀n,n∈ks↔d n≠none)(hd:∀n p,d n=some p->1<=n)
  (hw:DevS.fC D D' (fun j=>∃n∈ks,4*n<=j/\j<4*n+4)) (hp:∀n∈ks,∀p,d n=some p->D'.ve n p.kind txn p.body) (hσ :∀n,σ n≠none->(d n≠none/\ σ n=d n)\/(d n=none/\n∈U/\ σ n= σ0 n)):du D' σ :=fun n p Xt=>by
 rcases hσ n (by rw[Xt];simp)with⟨h1,h2⟩|⟨h1,-,h2⟩
 ·rw[h2]at Xt
  exact⟨hd n p Xt,_,hp n ((hk n).2 h1) p Xt⟩
 ·rw[h2]at Xt
  obtain⟨k1,t,k2⟩:=h n p Xt;refine⟨k1,t,k2.congr (by rw[hw.sec]) fun i h3 h4=>hw.aG ?_⟩;rintro⟨m,hm,h5,h6⟩;have:m=n:=by omega
  subst this;exact(hk m).1 hm h1
end Go.Proofs.YtjbcbnemdhbhbaaGreatDoor
namespace Go.Proofs.YtjbcbnemdhbhbaaGreatDoor
open Go.Proofs.Tryz
open Go.RowKit
theorem BQ(q:Nat)(w:AI):aag prog 100 #[.pointer (some ⟨q,0,none⟩),.int .i64 0] w (fun e w'=>∃f Sf,e= .returned (.tuple #[.pointer (some ⟨f,0,none⟩),.slice none 0 0,.int .i64 0])/\rK w' f Sf []/\(∀x∈Sf,w.heap.size<=x)/\Below w.heap.size w w'):=by
 have HF:=sh fun(W:AI)=>LN W;go_enter func100,ntmps100
 go_wp2_with fail
 refine(HF.out _).mono ?_;rintro e w1 ⟨rfl,hf,hb⟩;have HE:=sh hf;have HB:=sh hb;clear hf hb;go_wp2_with fail
 refine wp_loop_rounds 2 ?_;rw[rounds_succ];go_wp2_with fail
 refine bodyPost_ret (v:= .tuple #[.pointer (some ⟨w.heap.size,0,none⟩),.slice none 0 0,.int .i64 0]) (by simp[results,results100,go_sem]) rfl ?_;exact⟨_,_,rfl,HE.out,fun x hx=>by rw[By]at hx;omega,HB.out⟩
def Uy (g:Nat) (P:eR) (w:AI) (e:Ending) (w':AI):Prop:=∃b q r f Sf,e= .returned (.tuple #[.pointer (some ⟨b,0,none⟩),.int .i64 0])/\gK w' ⟨b,q,r,f,g,[q],Sf,P,St.empty,[],.slice none 0 0,[],.pointer none⟩/\w.heap.size<=b/\w.heap.size<=q/\w.heap.size<=r/\(∀x∈Sf,w.heap.size<=x)/\Below w.heap.size w w'
theorem MX{g:Nat}{S:List Nat}{D:DevS}{P:eR}{w:AI}(hd:Dev w g S D)(hr:aO w)(hb:D.steps<=1000000000)(h0:dQ D=0)(hP:kQ D=P)(hf:P.m.f=0):
  aag prog 43 #[ptr g] w (Uy g P w):=by
 have HO:=sh (GA hd hr hb h0 hP);have Qv:∀W:AI,Sem.run prog (Instr.field 40 (.agg #[.int .i64 P.m.t,.int .i64 P.m.r,.int .i64 P.m.f,.int .i64 P.m.p,.int .i64 P.m.l]) 2) W= .ok (.int .i64 0) W:=fun W=>by rw[Tz,hf]
 have Sb:=sh fun(q:Nat) (W:AI)=>BQ q W;have W6:=sh fun(W:AI)=>xh W;clear hd hr hb h0 hP hf;go_enter func43,ntmps43
 go_wp2_with fail
 refine HO.out.mono ?_;rintro e w1 ⟨q,hq,rfl,vw,ar⟩;have HP:=sh vw;have bh:=sh ar;have HM:=sh (mN vw);have MD:=vw.old q (by simp);clear vw ar;go_wp2_with fail
 refine HM.out.mono ?_;rintro e w2 ⟨rfl,az⟩;have bz:=sh (bh.out.trans (az.mono bh.out.size));have pE:=sh (HP.out.below az);have IP:=aaf MD az.size;clear az;go_wp2_with fail
 refine(Sb.out _ _).mono ?_;rintro e w3 ⟨f,Sf,rfl,CU,Xj,aQ⟩;have dt:=sh (bz.out.trans (aQ.mono bz.out.size));have Yx:=sh (pE.out.below aQ);have TY:=sh CU;have HFN:=sh (show ∀x∈Sf,w.heap.size<=x from fun x hx=>abE bz.out.size (Xj x hx));have O4:=aaf IP aQ.size;clear aQ CU Xj;go_wp2_with fail
 refine(W6.out _).mono ?_;rintro e w4 ⟨rfl,Xy,b7⟩;have fx:=sh (dt.out.trans (b7.mono dt.out.size));have Yy:=sh (Yx.out.below b7);have KL:=sh Xy;have XS:=sh (TY.out.below b7);have HOL:=sh TY.out.old;have hz4:=b7.size;have alP:=Xy.lt;clear b7 Xy;go_wp2_with fail
 go_ret2
 refine⟨w4.heap.size,q,w3.heap.size,f,Sf,rfl,⟨Bk.new w4 _ _,Yy.out.below ((IN _ _).alloc (AS _) _),KL.out.alloc _,(XS.out.below ((IN _ _).alloc (AS _) _)).fl,acv _ _ _ _,?_,?_⟩,fx.out.size,hq,dt.out.size,HFN.out,fx.out.alloc fx.out.size _⟩
 ·intro hm
  simp only[AT,By]at hm;rcases hm with hm|hm|hm
  ·have:w4.heap.size=q:=hm
   omega
  ·have:=XS.out.old _ hm;omega
  ·cases hm
 ·intro hm
  simp only[AT,By]at hm;rcases hm with hm|hm|hm
  ·have:w3.heap.size=q:=hm
   omega
  ·have:=HOL.out _ hm;omega
  ·cases hm
structure vV (D:DevS) (P:eR) (fr:List (Nat×Nat)) (m7:List Nat) (σ :ag) (Fo:Forest) (txn aa limit:Nat):Prop where
 calm:D.Calm
 m:P.m=⟨txn,Fo.main.root,(m7.headD 0:Nat),aa,limit⟩
 bC:P.bC=none
 sec:D.sec.length=4*limit
 lim:4<=limit/\limit<=512
 t1:1<=txn
 steps:D.steps<=3000*(txn:Int)
 log:P.log.length<=600*txn
 ok:Fo.Ok σ
 R:∀n,Fo.R n=none
 on:du D σ
 one:1<=aa/\aa<=limit
 perm:(Fr.pg fr++(Fo.aa++m7)).Perm (iS aa)
 sorted:Fr.Sorted fr
 eQ:∀y∈fr,y.1<=txn
 oG:m7.length<=Fr.pieces limit
structure fy (w:AI) (d:Di) (Sd:List Nat) (D:DevS) (σ :ag) (Fo:Forest) (txn aa limit:Nat):Prop where
 db:gK w d
 dev:Dev w d.g Sd D
 row:aO w
 plain:vV D d.P d.fr d.m7 σ Fo txn aa limit
 ap:d.b∉Sd/\d.r∉Sd/\(∀x∈d.T,x∉Sd)/\0∉Sd/\0∉d.T
 pv:∀g,d.pv.ownBlock=some g->g∉d.T/\g∉Sd/\g≠0
 wv:d.wv= .pointer none\/∃t cs,d.wv= .pointer (some ⟨t,0,none⟩)/\Bk w t 103 cs/\cs[13]? =some (.bool true)
structure Kv.acS (E:Kv):Prop where
 calm:E.D.Calm
 bC:E.P.bC=none
 sec:E.D.sec.length=4*E.limit
 lim:4<=E.limit/\E.limit<=512
 t:(E.txn:Int)=E.P.m.t+1
 txn:2<=E.txn/\E.txn<=1001
 steps:E.D.steps<=3000*((E.txn:Int)-1)
 log:E.P.log.length<=600*(E.txn-1)
 l:(E.limit:Int)=E.P.m.l
structure uO (E:Kv) (F:Prop) (w:AI) (S:List Nat) (σ :ag) (k:Nat) (Fo:Forest) (nr:Nat):Prop where
 wr:Wr E F w S σ k Fo nr
 ok:E.Ok
 sep:E.Sep
 pY:E.acS
 on:du E.D E.cF
 pv:w.ownsRow 0 3 1 E.c3 E.pc.length (ints E.pc)
 NL:∀g,E.c3.ownBlock=some g->g∉S/\g≠E.rm
 c4:E.c4= .pointer (some ⟨E.t,0,none⟩)
def Di.kv (d:Di) (t rm:Nat) (Sd:List Nat) (D:DevS) (σ :ag) (Fo:Forest) (txn limit:Nat) (ro:Option Obj) (base:Nat) (keep:List Nat):Kv:=
 ⟨t,d.b,d.q,d.r,d.g,d.T,Sd,d.P,D,d.s,txn+1,Fo.main.root,(d.m7.headD 0:Nat),limit,Fo.aa,d.m7,σ,rm,0,false,.pointer (some ⟨d.f,0,none⟩),d.pv,.pointer (some ⟨t,0,none⟩),ro,base,keep,(d.fr.filter fun y=>decide ((min ((txn:Int)-1) (d.s.dh (txn:Int))).toNat<y.1)).length⟩
def pZ (fr:List (Nat×Nat)) (limit aa:Nat) (u:Int):Nat:=(fr.takeWhile fun y=>decide (y.1<=u.toNat)).length+(limit-aa)
theorem Hl{w w':AI}{d:Di}{Sd:List Nat}{D:DevS}{σ :ag}{Fo:Forest}{txn aa limit:Nat}(h:fy w d Sd D σ Fo txn aa limit)(ht:txn<=1000)(hu:0<=min ((txn:Int)-1) (d.s.dh (txn:Int))){F:Prop}{base k:Nat}{keep:List Nat}(jb:k<=pZ d.fr limit aa (min ((txn:Int)-1) (d.s.dh (txn:Int))))(Qz:F\/base+k<=d.fr.length+(limit-aa))(Mf:∀y∈d.fr,y.1<=(min ((txn:Int)-1) (d.s.dh (txn:Int))).toNat->y.2∉keep)(Xo:∀n∈keep,n<aa)
  {t f dm rm:Nat} {Sf:List Nat} (hb:Ku d w w' t f dm rm Sf):
  ∃S,uO (d.kv t rm Sd D σ Fo txn limit w.heap[0]? base keep) F w' S σ k Fo 0/\ah [d.b] w w'/\(∀x∈S,x∈0::(d.blocks++Sd)\/w.heap.size<=x)/\w.heap.size<=rm:=by
 have hp:=h.plain;have hm:=hp.m;have Xs:∀x∈Sd,x∉[d.b]:=fun x hx hs=>by rw[By]at hs;subst hs;exact h.ap.1 hx
 have ZT:Dev w' d.g Sd D:=h.dev.off hb.off Xs;have hold:=h.db.old;have hd:∀n,σ n≠none->n∈Fo.aa:=hp.ok.full;have dv:∀n∈Fo.aa,1<=n/\n<aa:=fun n hn=>eP.1 (hp.perm.mem_iff.1 (by simp[hn]));obtain⟨sl,lg,vw⟩:=h.db.pg;have hq:d.q∈d.T:=vw.zm.1;have jx:∀x∈(d.kv t rm Sd D σ Fo txn limit w.heap[0]? base keep).still,x<w.heap.size:=by
  intro x hx;simp only[Kv.still,Di.kv,IT,AT]at hx;rcases hx with rfl|rfl|rfl|rfl|hx|hx
  ·exact h.db.top.lt
  ·exact hold _ (by simp[Di.blocks,hq])
  ·exact h.db.rd.lt
  ·exact h.row.lt
  ·exact hold _ (by simp[Di.blocks,hx])
  ·exact h.dev.old _ hx
 have vq:∀x∈aB t f dm Sf (.slice none 0 0) (.slice none 0 0),w.heap.size<=x:=by
  intro x hx;simp only[aB,aaU,IT,AT,abz]at hx;rcases hx with rfl|rfl|hx|hx|hx
  ·exact hb.new.1
  ·exact hb.new.2.1
  ·cases hx
  ·cases hx
  ·exact hb.new.2.2.2 _ hx
 have ri:(txn:Int)=d.P.m.t:=by rw[hm]
 have uW:(limit:Int)=d.P.m.l:=by rw[hm]
 have hE:(d.kv t rm Sd D σ Fo txn limit w.heap[0]? base keep).Ok:=by
  refine⟨?_,?_,hp.calm.on,?_,uW,?_,?_⟩
  ·show 2<=txn+1
   have:=hp.t1;omega
  ·show txn+1<=1099511627776
   omega
  ·show D.steps<=1000000000
   have:=hp.steps;omega
  ·intro n p hn
   obtain⟨h1,t',h2⟩:=hp.on n p hn;have:=(dv n (hd n (by rw[show (σ n)=some p from hn];simp))).2;have:=hp.one.2;exact⟨show n<limit by omega,t',h2⟩
  ·show 0<=min (((txn+1:Nat):Int)-2) (d.s.dh (((txn+1:Nat):Int)-1))
   have e1:(((txn+1:Nat):Int)-2)=(txn:Int)-1:=by omega
   have e2:(((txn+1:Nat):Int)-1)=(txn:Int):=by omega
   rw[e1,e2];exact hu
 have DV:Bk w' t 103 (aT (d.kv t rm Sd D σ Fo txn limit w.heap[0]? base keep) ⟨aa,d.fr,fun _=>none,[],[]⟩ f dm (.slice none 0 0) (.slice none 0 0)):=by
  have:=hb.cells;rw[hm]at this;exact this
 have AQ:w'.ownsRow 0 3 1 (.slice none 0 0) ([]:List Nat).length (ints []):=acv _ _ _ _;refine⟨aB t f dm Sf (.slice none 0 0) (.slice none 0 0)++(d.kv t rm Sd D σ Fo txn limit w.heap[0]? base keep).still,⟨⟨⟨⟨aa,d.fr,fun _=>none,[],[]⟩,f,dm,0,Sf,.slice none 0 0,.slice none 0 0,⟨DV,hb.free.fl,?_,by omega,AQ,AQ,hb.db.top,hb.db.rd,hb.db.pg,ZT,(show kG w.heap[0]? w from ⟨h.row,rfl⟩).off hb.off ?_,?_,rfl,?_,?_⟩,?_,?_⟩,⟨0,AS _,?_⟩,?_,hp.ok,rfl,rfl,rfl⟩,hE,⟨?_,h.ap.2.1 |> fun _=> ?_,h.ap.2.2.1⟩,?_,hp.on,?_,?_,rfl⟩,hb.off,?_,hb.new.2.2.1⟩
 ·have e:dI (d.kv t rm Sd D σ Fo txn limit w.heap[0]? base keep).txn (fun _=>none)=fun _=>none:=by funext i;unfold dI;split<;>rfl
  rw[show (⟨aa,d.fr,fun _=>none,[],[]⟩:Tx).ax=fun _=>none from rfl,e];exact hb.map
 ·intro hs
  rw[By]at hs;have h1:=h.row 0 (by omega);have h2:=h.db.top.cell 0;rw[<-hs]at h2;exact absurd (h1.symm.trans h2) (by simp)
 ·refine⟨⟨[],by simp,?_⟩,hp.one.1,hp.one.2,hp.lim.2,hp.sorted,List.nodup_nil,by simp,fun n hn=>hp.ok.there hn,fun y hy=>by have:=hp.eQ y hy;omega⟩
  show (Fr.pg d.fr++([]++([]++(Fo.aa++(d.m7++[]))))).Perm (iS aa);simpa using hp.perm
 ·have:=hb.nodup
  show (t::dm::([]++([]++Sf))).Nodup;simpa using this
 ·intro x hx hs
  have h1:=vq x hx;have h2:=jx x hs;omega
 ·funext n
  show σ n=(if n∈Fo.aa/\n∉([]:List Nat)then σ n else none);by_cases hn: σ n=none
  ·rw[hn];simp
  ·rw[if_pos ⟨hd n hn,by simp⟩]
 ·have e1:(d.kv t rm Sd D σ Fo txn limit w.heap[0]? base keep).upto=min ((txn:Int)-1) (d.s.dh (txn:Int)):=by
   show min (((txn+1:Nat):Int)-2) (d.s.dh (((txn+1:Nat):Int)-1))=_;rw[show (((txn+1:Nat):Int)-2)=(txn:Int)-1 by omega,show (((txn+1:Nat):Int)-1)=(txn:Int)by omega]
  have afo:F\/(base<=d.fr.length+(limit-aa)/\base+k<=d.fr.length+(limit-aa)):=Qz.imp id (fun h9=>⟨by omega,h9⟩);refine⟨?_,fun y hy=>Nat.lt_succ_of_le (hp.eQ y hy),afo,fun y hy h9=>Mf y hy (by rw[e1]at h9;exact h9),fun n hn=> ?_,Xo,?_⟩
  ·refine abE jb ?_
   unfold Tx.sure pZ;rw[e1];show _<=0+(List.takeWhile _ d.fr).length+(limit-aa);omega
  ·rcases hn with hn|hn
   ·cases hn
   ·exact absurd rfl hn
  ·show (d.fr.filter fun y=>decide ((d.kv t rm Sd D σ Fo txn limit w.heap[0]? base keep).upto.toNat<y.1)).length<=(d.fr.filter fun y=>decide ((min ((txn:Int)-1) (d.s.dh (txn:Int))).toNat<y.1)).length
   rw[e1];exact AS _
 ·have e:dy Fo.R=fun _=>none:=by funext n;unfold dy;rw[hp.R n];rfl
  rw[e];exact hb.roots
 ·intro hs
  rcases AT.1 hs with hs|hs
  ·have:=hb.rm
   simp only[aB,aaU,IT,AT,abz]at hs;simp only[IT,not_or]at this;rcases hs with hs|hs|hs|hs|hs
   ·exact this.1 hs
   ·exact this.2.1 hs
   ·cases hs
   ·cases hs
   ·exact this.2.2 hs
  ·have h1:=jx _ hs
   have:=hb.new.2.2.1;show False;have:rm<w.heap.size:=h1;omega
 ·exact⟨fun hs=>h.db.bo (by simp[show d.b∈d.T from hs]),fun hs=>h.db.ro (by simp[show d.r∈d.T from hs]),h.ap.2.2.2.2⟩
 ·exact⟨h.ap.1,h.ap.2.1,h.ap.2.2.2.1⟩
 ·refine⟨hp.calm,hp.bC,hp.sec,hp.lim,?_,⟨?_,?_⟩,?_,?_,uW⟩
  ·show ((txn+1:Nat):Int)=d.P.m.t+1
   omega
  ·show 2<=txn+1
   have:=hp.t1;omega
  ·show txn+1<=1001
   omega
  ·show D.steps<=3000*(((txn+1:Nat):Int)-1)
   have:=hp.steps;omega
  ·show d.P.log.length<=600*(txn+1-1)
   have:=hp.log;omega
 ·exact hb.db.m7
 ·intro g hg
  have hgw:=(abr h.db.m7 g hg).2;refine⟨fun hs=> ?_,fun e=> ?_⟩
  ·rcases AT.1 hs with hs|hs
   ·have:=vq g hs;omega
   ·simp only[Kv.still,Di.kv,IT,AT]at hs
    have QQ:=h.pv g hg;rcases hs with rfl|rfl|rfl|rfl|hs|hs
    ·exact h.db.bo (by simp[show d.pv.ownBlock=some d.b from hg])
    ·exact QQ.1 hq
    ·exact h.db.ro (by simp[show d.pv.ownBlock=some d.r from hg])
    ·exact QQ.2.2 rfl
    ·exact QQ.1 hs
    ·exact QQ.2.1 hs
  ·have:g=rm:=e
   have:=hb.new.2.2.1;omega
 ·intro x hx
  rcases AT.1 hx with hx|hx
  ·exact .inr (vq x hx)
  ·simp only[Kv.still,Di.kv,IT,AT]at hx
   rcases hx with rfl|rfl|rfl|rfl|hx|hx
   ·exact .inl (by simp[Di.blocks])
   ·exact .inl (by simp[Di.blocks,hq])
   ·exact .inl (by simp[Di.blocks])
   ·exact .inl (by simp)
   ·exact .inl (by simp[Di.blocks,hx])
   ·exact .inl (by simp[hx])
theorem DM{w:AI}{d:Di}{Sd:List Nat}{D:DevS}{σ :ag}{Fo:Forest}{txn aa limit:Nat}(h:fy w d Sd D σ Fo txn aa limit)(ht:txn<=1000)(hu:0<=min ((txn:Int)-1) (d.s.dh (txn:Int))){F:Prop}{base k:Nat}{keep:List Nat}(jb:k<=pZ d.fr limit aa (min ((txn:Int)-1) (d.s.dh (txn:Int))))(Qz:F\/base+k<=d.fr.length+(limit-aa))(Mf:∀y∈d.fr,y.1<=(min ((txn:Int)-1) (d.s.dh (txn:Int))).toNat->y.2∉keep)(Xo:∀n∈keep,n<aa):
  aag prog 11 #[.pointer (some ⟨d.b,0,none⟩)] w (fun e w'=>∃t rm S,e= .returned (.tuple #[.pointer (some ⟨t,0,none⟩),.int .i64 0])/\
   uO (d.kv t rm Sd D σ Fo txn limit w.heap[0]? base keep) F w' S σ k Fo 0/\ah [d.b] w w'/\(∀x∈S,x∈0::(d.blocks++Sd)\/w.heap.size<=x)/\w.heap.size<=rm):=by
 have hp:=h.plain;have hlen:d.fr.length<=1000:=by
  have h1:=hp.perm.length_eq;have h2:=hp.one.2;have h3:=hp.lim.2;rw[BY]at h1;unfold iS Fr.pg at h1;rw[aae,aae,List.length_range]at h1;omega
 refine(Hk h.db h.wv (by rw[hp.m];show (txn:Int)<_;omega) (by rw[hp.m];show 0<=(txn:Int);omega) hlen).mono ?_;rintro e w' ⟨t,f,dm,rm,Sf,rfl,hb⟩;obtain⟨S,h1,h2,h3,h4⟩:=Hl h ht hu jb Qz Mf Xo hb;exact⟨t,rm,S,rfl,h1,h2,h3,h4⟩
structure Kn where
 t:Nat
 b:Nat
 q:Nat
 r:Nat
 g:Nat
 s:St
 txn:Nat
 limit:Nat
 ro:Option Obj
 base:Nat
def Kv.kn (E:Kv):Kn:=⟨E.t,E.b,E.q,E.r,E.g,E.s,E.txn,E.limit,E.ro,E.base⟩
structure KU (E:Kv) (i:Nat) (G:Forest) (σ':ag) (aa:Nat) (l:List (Nat×Nat)) (ch:List Nat) (d:ag):Prop where
 R:∀n,G.R n=none
 ok:G.Ok σ'
 le:1<=aa/\aa<=E.limit
 perm:(Fr.pg l++(G.aa++ch)).Perm (iS aa)
 sorted:Fr.Sorted l
 eQ:∀y∈l,y.1<=E.txn
 wV:∀n,d n≠none->n∉E.keep
 room:False\/E.base<=(l.filter fun y=>decide (y.1<E.txn)).length+(E.limit-aa)
 oG:ch.length<=Fr.pieces E.limit
 tree:∀n∈G.aa,(d n≠none/\ σ' n=d n)\/(d n=none/\n∈E.U/\ σ' n=E.cF n)
 ax:∀n,d n≠none->n∈G.aa\/n∈ch
 chain:∀i (hi:i<ch.length),d ch[i]=some (jc ch l i)/\(eT l ch.length i).length<=40
 range:∀n,d n≠none->1<=n/\n<aa
 root:E.root=G.main.root
 yk:E.yk=(ch.headD 0:Nat)
 open_:E.over=false
 bQ:E.bQ=i
 calm:E.D.Calm
 bC:E.P.bC=if i=4 then some (E.fG aa)else none
 sec:E.D.sec.length=4*E.limit
 lim:4<=E.limit/\E.limit<=512
 t:(E.txn:Int)=E.P.m.t+1
 txn:2<=E.txn/\E.txn<=1001
 steps:E.D.steps<=3000*((E.txn:Int)-1)+(if i=1 then 0 else 2048+(i:Int))
 log:E.P.log.length<=600*(E.txn-1)+(if i=1 then 0 else 512)
 l:(E.limit:Int)=E.P.m.l
 on:if i=1 then du E.D E.cF else du E.D σ'
 c4:E.c4= .pointer (some ⟨E.t,0,none⟩)
def OO (K:Kn) (i:Nat) (w:AI) (S:List Nat) (G:Forest) (σ':ag) (aa:Nat) (l:List (Nat×Nat)) (ch:List Nat):Prop:=
 ∃E d f dm nn Sf lv,E.kn=K/\dp E w S aa l d ch f dm nn Sf lv/\E.Sep/\KU E i G σ' aa l ch d
theorem KU.Wl{E:Kv}{i:Nat}{G:Forest}{σ':ag}{aa:Nat}{l:List (Nat×Nat)}{ch:List Nat}{d:ag}(h:KU E i G σ' aa l ch d):(E.fG aa).ok=true:=by
 have dv:∀n,n∈G.aa\/n∈ch->n<aa:=fun n hn=>(eP.1 (h.perm.mem_iff.1 (by rcases hn with hn|hn<;>simp[hn]))).2;have hr:G.main.root<aa:=by
  have hm:=h.ok.main;unfold Tn.Is at hm;rcases hm with⟨h1,-,-⟩|⟨dd,zQ,P',hP,-⟩
  ·have:=h.le;omega
  ·exact dv _ (.inl (by unfold Forest.aa;rw[hP];simp))
 have hf:ch.headD 0<aa:=by
  cases hc:ch with
  | nil=>have:=h.le;show 0<aa;omega
  | cons a t=>exact dv a (.inr (by rw[hc];simp))
 refine qy ?_;have h1:=h.le;have h2:=h.lim;have h3:=h.txn;show 0<=(E.txn:Int)/\(E.txn:Int)<=1099511627776/\2<=(E.limit:Int)/\(E.limit:Int)<=512/\1<=(aa:Int)/\(aa:Int)<=E.limit/\0<=E.root/\E.root<aa/\0<=E.yk/\E.yk<aa;rw[h.root,h.yk];omega
theorem KU.fits{E:Kv}{i:Nat}{G:Forest}{σ':ag}{aa:Nat}{l:List (Nat×Nat)}{ch:List Nat}{d:ag}(h:KU E i G σ' aa l ch d):∀n p,d n=some p->cw p.kind n E.txn p.body=true/\(n:Int)<E.P.m.l/\4*n+4<=E.D.sec.length:=by
 intro n p hp;have hn:=h.range n (by rw[hp];simp);have h1:=h.le;have h2:=h.lim;have h3:=h.txn;have hk:1<=p.kind/\p.kind<=4/\p.body.size<=488:=by
  rcases h.ax n (by rw[hp];simp)with hg|hg
  ·rcases h.tree n hg with⟨-,hs⟩|⟨iP,-⟩
   ·obtain⟨k1,k2,k3⟩:=h.ok.fit n p (by rw[hs];exact hp)
    exact⟨k1,by omega,k3⟩
   ·rw[iP]at hp;cases hp
  ·obtain⟨j,hj,rfl⟩:=List.getElem_of_mem hg
   obtain⟨c1,c2⟩:=h.chain j hj;rw[hp]at c1;injection c1 with c1;subst c1;refine⟨show (1:Nat)<=4 by decide,show (4:Nat)<=4 by decide,?_⟩;show (ByteArray.mk (Fr.bytes (ch.getD (j+1) 0) (eT l ch.length j)).toArray).size<=488;have:(ByteArray.mk (Fr.bytes (ch.getD (j+1) 0) (eT l ch.length j)).toArray).size=(Fr.bytes (ch.getD (j+1) 0) (eT l ch.length j)).length:=rfl;rw[this,Fr.pU];omega
 refine⟨?_,?_,?_⟩
 ·unfold cw
  simp only[Bool.and_eq_true,decide_eq_true_eq];omega
 ·rw[<-h.l];omega
 ·rw[h.sec];omega
theorem Ob{E:Kv}{w:AI}{S:List Nat}{σ :ag}{k nr:Nat}{Fo:Forest}(h:uO E False w S σ k Fo nr)(nR:nr<=1000000)
  {q:Nat} (qZ:∀(τ :ag) (G:Forest),G.Ok τ ->G.NS=Fo.NS->Tr.fa τ q G.main.root G.main.P G.main.L) (hk:Fo.NS.length*q+Fr.pieces E.limit<=k):
  aag prog 13 #[.pointer (some ⟨E.t,0,none⟩)] w (fun e w'=>e= .returned (.tuple #[.bool false,.int .i64 0])/\∃G σ' aa l ch S',OO E.kn 1 w' S' G σ' aa l ch/\G.tr=Fo.tr/\G.NS=Fo.NS/\ah S w w'/\aj w S S'):=by
 refine(WE h.ok h.wr nR h.pv (fun g hg=>(h.NL g hg).1) qZ hk).mono ?_;rintro e w' ⟨rfl,G,σ',aa,l,d,ch,f,dm,nn,Sf,lv,S',hl⟩;have hf:=h.pY;refine⟨rfl,G,σ',aa,l,ch,S',⟨_,d,f,dm,nn,Sf,lv,?_,hl.mem,⟨h.sep.t,h.sep.s,h.sep.ap⟩,?_⟩,hl.tr,hl.NS,hl.off,hl.fresh⟩
 ·rfl
 ·exact⟨hl.R,hl.ok,hl.le,hl.perm,hl.sorted,hl.stamps,hl.wV,hl.room,hl.oG,hl.tree,hl.ax,hl.chain,hl.range,rfl,rfl,h.wr.open_,rfl,hf.calm,hf.bC,hf.sec,hf.lim,hf.t,hf.txn,by rw[if_pos rfl];have:=hf.steps;show E.D.steps<=3000*((E.txn:Int)-1)+0;omega,by rw[if_pos rfl];exact hf.log,hf.l,by rw[if_pos rfl];exact h.on,h.c4⟩
theorem I2{K:Kn}{w:AI}{S:List Nat}{G:Forest}{σ':ag}{aa:Nat}{l:List (Nat×Nat)}{ch:List Nat}(h:OO K 1 w S G σ' aa l ch):
  aag prog 13 #[.pointer (some ⟨K.t,0,none⟩)] w (fun e w'=>e= .returned (.tuple #[.bool false,.int .i64 0])/\∃S',OO K 2 w' S' G σ' aa l ch/\ah S w w'/\aj w S S'):=by
 obtain⟨E,d,f,dm,nn,Sf,lv,rfl,hm,hs,hp⟩:=h;have gf:=hp.fits;have bm:=hp.steps;have zk:=hp.log;have htx:=hp.txn;rw[if_pos rfl]at bm zk;have wM:∀n,d n≠none->n<512:=fun n hn=>by
  have h1:=hp.range n hn;have h2:=hp.le;have h3:=hp.lim;omega
 obtain⟨D',k1,k2,k3,k4⟩:=rz E.txn d (keysOf d) hp.calm ((rj d).imp (fun h=>by omega)) (fun n hn=>by
  have h1:=(iC wM n).1 hn;cases km:d n with
  | none=>exact absurd km h1
  | some p=>exact⟨p,rfl,(gf n p km).1,(gf n p km).2.2⟩)
 refine(WG hm hs hp.open_ hp.bQ gf (by omega) (by omega) k1).mono ?_;rintro e w' ⟨rfl,T',cQ,P',S',m,q1,q2,q3,q4,q5,q6,q7⟩;subst q5;refine⟨rfl,S',⟨_,d,f,dm,nn,Sf,lv,?_,q1,⟨q2.t,q2.s,q2.ap⟩,?_⟩,q3,q4⟩
 ·rfl
 ·have hlen:=tO d
  refine⟨hp.R,hp.ok,hp.le,hp.perm,hp.sorted,hp.eQ,hp.wV,hp.room,hp.oG,hp.tree,hp.ax,hp.chain,hp.range,hp.root,hp.yk,hp.open_,rfl,k2,hp.bC,q7.trans hp.sec,hp.lim,hp.t,hp.txn,?_,?_,hp.l,?_,hp.c4⟩
  ·rw[if_neg (by decide)]
   show D'.steps<=3000*((E.txn:Int)-1)+(2048+2);omega
  ·rw[if_neg (by decide)]
   show (E.P.log++((keysOf d).take m).map (fun(n:Nat)=>(n:Int))).length<=600*(E.txn-1)+512;rw[BY,aae,List.length_take];omega
  ·rw[if_neg (by decide)]
   have tF:=hp.on;rw[if_pos rfl]at tF;refine tF.next (iC wM) (fun n p hn=>(hp.range n (by rw[hn];simp)).1) k4 k3 (U:=E.U) (fun n hn=> ?_);exact hp.tree n (hp.ok.full n hn)
theorem I3{K:Kn}{w:AI}{S:List Nat}{G:Forest}{σ':ag}{aa:Nat}{l:List (Nat×Nat)}{ch:List Nat}(h:OO K 2 w S G σ' aa l ch):
  aag prog 13 #[.pointer (some ⟨K.t,0,none⟩)] w (fun e w'=>e= .returned (.tuple #[.bool false,.int .i64 0])/\∃S',OO K 3 w' S' G σ' aa l ch/\ah S w w'/\aj w S S'):=by
 obtain⟨E,d,f,dm,nn,Sf,lv,rfl,hm,hs,hp⟩:=h;have bm:=hp.steps;have zk:=hp.log;have htx:=hp.txn;have tF:=hp.on;rw[if_neg (by decide)]at bm zk tF;have fF:=DevS.iK E.D;refine(WH hm hs hp.open_ hp.bQ (by omega) hp.calm.sync).mono ?_;rintro e w' ⟨rfl,cQ,S',q1,q2,q3,q4⟩;refine⟨rfl,S',⟨_,d,f,dm,nn,Sf,lv,?_,q1,⟨q2.t,q2.s,q2.ap⟩,?_⟩,q3,q4⟩
 ·rfl
 ·refine⟨hp.R,hp.ok,hp.le,hp.perm,hp.sorted,hp.eQ,hp.wV,hp.room,hp.oG,hp.tree,hp.ax,hp.chain,hp.range,hp.root,hp.yk,hp.open_,rfl,⟨hp.calm.al.on,hp.calm.al.cD⟩,hp.bC,?_,hp.lim,hp.t,hp.txn,?_,?_,hp.l,?_,hp.c4⟩
  ·show (E.D.al.synced).sec.length=4*E.limit
   rw[DevS.oa,DevS.jm];exact hp.sec
  ·rw[if_neg (by decide)]
   show E.D.al.steps<=3000*((E.txn:Int)-1)+(2048+3);omega
  ·rw[if_neg (by decide)]
   exact zk
  ·rw[if_neg (by decide)]
   exact tF.sync
theorem I4{K:Kn}{w:AI}{S:List Nat}{G:Forest}{σ':ag}{aa:Nat}{l:List (Nat×Nat)}{ch:List Nat}(h:OO K 3 w S G σ' aa l ch):
  aag prog 13 #[.pointer (some ⟨K.t,0,none⟩)] w (fun e w'=>e= .returned (.tuple #[.bool false,.int .i64 0])/\∃S',OO K 4 w' S' G σ' aa l ch/\ah S w w'/\aj w S S'):=by
 obtain⟨E,d,f,dm,nn,Sf,lv,rfl,hm,hs,hp⟩:=h;have bm:=hp.steps;have zk:=hp.log;have htx:=hp.txn;have tF:=hp.on;have vx:=hp.bC;rw[if_neg (by decide)]at bm zk tF vx;have fi:=hp.Wl;have cZ:=aL.size fi;have kS:=hp.lim;have A8:=hp.sec;have ht:=hp.t;obtain⟨i,hi⟩:∃i:Nat,i=E.txn%2:=⟨_,rfl⟩;have hii:(E.txn:Int)%2=(i:Int):=by rw[hi];omega
 have Xm:i<2:=by omega
 have uU:i<E.D.sec.length:=by omega
 obtain⟨c1,c2⟩:=hp.calm.write uU cZ;obtain⟨k1,k2,-⟩:=DevS.gG uU cZ;refine(WI (D':=(E.D.write (i:Int) (E.fG aa).bytes).1) hm hs hp.open_ hp.bQ (by omega) vx fi hp.l ht (by omega) (by rw[hii];exact Prod.ext rfl c1)).mono ?_;rintro e w' ⟨rfl,T',cQ,S',q1,q2,q3,q4⟩;refine⟨rfl,S',⟨_,d,f,dm,nn,Sf,lv,?_,q1,⟨q2.t,q2.s,q2.ap⟩,?_⟩,q3,q4⟩
 ·rfl
 ·refine⟨hp.R,hp.ok,hp.le,hp.perm,hp.sorted,hp.eQ,hp.wV,hp.room,hp.oG,hp.tree,hp.ax,hp.chain,hp.range,hp.root,hp.yk,hp.open_,rfl,c2,?_,?_,hp.lim,hp.t,hp.txn,?_,?_,hp.l,?_,hp.c4⟩
  ·rw[if_pos rfl]
   rfl
  ·show ((E.D.write (i:Int) (E.fG aa).bytes).1).sec.length=4*E.limit
   rw[k1.sec];exact hp.sec
  ·rw[if_neg (by decide)]
   show ((E.D.write (i:Int) (E.fG aa).bytes).1).steps<=3000*((E.txn:Int)-1)+(2048+4);omega
  ·rw[if_neg (by decide)]
   exact zk
  ·rw[if_neg (by decide)]
   exact tF.Oq Xm uU cZ
theorem M1{K:Kn}{w:AI}{S:List Nat}{G:Forest}{σ':ag}{aa:Nat}{l:List (Nat×Nat)}{ch:List Nat}(h:OO K 4 w S G σ' aa l ch):
  aag prog 13 #[.pointer (some ⟨K.t,0,none⟩)] w (fun e w'=>e= .returned (.tuple #[.bool true,.int .i64 0])/\∃d' cQ D',fy w' d' cQ D' σ' G K.txn aa K.limit/\d'.b=K.b/\d'.q=K.q/\d'.r=K.r/\d'.g=K.g/\d'.s=K.s/\d'.fr=l/\d'.m7=ch/\w'.heap[0]? =K.ro/\K.base<=(l.filter fun y=>decide (y.1<K.txn)).length+(K.limit-aa)/\ah S w w'/\(∀x∈d'.blocks++cQ,x∈S\/w.heap.size<=x)):=by
 obtain⟨E,d,f,dm,nn,Sf,lv,rfl,hm,hs,hp⟩:=h;have bm:=hp.steps;have zk:=hp.log;have htx:=hp.txn;have tF:=hp.on;have vx:=hp.bC;rw[if_neg (by decide)]at bm zk tF;rw[if_pos rfl]at vx;have fF:=DevS.iK E.D;refine(WJ hm hs hp.open_ hp.bQ (by omega) vx hp.calm.sync).mono ?_;rintro e w' ⟨rfl,T',cQ,hd⟩;have VA:∀x∈aB E.t f dm Sf lv (.slice none 0 0),x<w.heap.size:=by
  intro x hx;simp only[aB,aaU,IT,AT,abz]at hx;rcases hx with rfl|rfl|hx|hx|hx
  ·exact hm.cells.lt
  ·exact hm.map.lt
  ·exact(abr hm.loose x hx).2
  ·cases hx
  ·exact hm.free.old _ hx
 have Bf:∀x,x∈E.still->x∈S:=fun x hx=>by rw[hm.blocks];exact AT.2 (.inr hx)
 have aax:∀x,x∈aB E.t f dm Sf lv (.slice none 0 0)->x∈S:=fun x hx=>by rw[hm.blocks];exact AT.2 (.inl hx)
 have hnT:∀x∈aB E.t f dm Sf lv (.slice none 0 0),x∉T'/\x∉cQ:=fun x hx=>by
  have h1:=VA x hx;have h2:=hm.apart x hx;refine⟨fun V1=> ?_,fun V1=> ?_⟩
  ·rcases hd.fT x V1 with h3|h3
   ·exact h2 (by simp[Kv.still,h3])
   ·omega
  ·rcases hd.fS x V1 with h3|h3
   ·exact h2 (by simp[Kv.still,h3])
   ·omega
 obtain⟨cs,ht1,ht2⟩:=hd.txn;refine⟨rfl,⟨E.b,E.q,E.r,f,E.g,T',Sf,⟨E.fG aa,E.P.m,true,none,E.P.log⟩,E.s,l,lv,ch,E.c4⟩,cQ,E.D.al.synced,⟨hd.db,hd.dev,hd.row.1,?_,?_,?_,.inr ⟨E.t,cs,hp.c4,ht1,ht2⟩⟩,rfl,rfl,rfl,rfl,rfl,rfl,rfl,hd.row.2,hp.room.resolve_left id,hd.off,?_⟩
 ·refine⟨⟨hp.calm.al.on,hp.calm.al.cD⟩,?_,rfl,?_,hp.lim,by show 1<=E.txn;omega,?_,?_,hp.ok,hp.R,tF.sync,hp.le,hp.perm,hp.sorted,hp.eQ,hp.oG⟩
  ·show E.fG aa=⟨E.txn,G.main.root,(ch.headD 0:Nat),aa,E.limit⟩
   unfold Kv.fG;rw[hp.root,hp.yk]
  ·show (E.D.al.synced).sec.length=4*E.limit
   rw[DevS.oa,DevS.jm];exact hp.sec
  ·show E.D.al.steps<=3000*(E.txn:Int)
   omega
  ·show E.P.log.length<=600*E.txn
   omega
 ·exact⟨hd.sep.s.1,hd.sep.s.2.1,hd.sep.ap,hd.sep.s.2.2,hd.sep.t.2.2⟩
 ·intro g hg
  have uT:g∈aB E.t f dm Sf lv (.slice none 0 0):=by
   have:lv.ownBlock=some g:=hg;simp[aB,this]
  refine⟨(hnT g uT).1,(hnT g uT).2,fun e=>hm.apart g uT ?_⟩;rw[e];simp[Kv.still]
 ·intro x hx
  simp only[Di.blocks,IT,AT,abz]at hx;rcases hx with(rfl|rfl|hx|hx|hx)|hx
  ·exact .inl (Bf _ (by simp[Kv.still]))
  ·exact .inl (Bf _ (by simp[Kv.still]))
  ·exact(hd.fT x hx).imp (fun h1=>Bf _ (by simp[Kv.still,h1])) id
  ·exact .inl (aax _ (by simp[aB,hx]))
  ·exact .inl (aax _ (by simp[aB,hx]))
  ·exact(hd.fS x hx).imp (fun h1=>Bf _ (by simp[Kv.still,h1])) id
end Go.Proofs.YtjbcbnemdhbhbaaGreatDoor
