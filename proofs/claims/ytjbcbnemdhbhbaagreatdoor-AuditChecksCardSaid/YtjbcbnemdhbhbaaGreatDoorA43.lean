import Derived.Test.YtjbcbnemdhbhbaaGreatDoorA38
set_option maxRecDepth 100000
set_option linter.unusedVariables false
set_option linter.unusedSimpArgs false
set_option maxHeartbeats 40000000
open Array renaming length_toList→ady
open List renaming append_assoc→aaa,mem_cons→OF,mem_flatMap→abr,size_toArray→adS
namespace Go.Proofs.YtjbcbnemdhbhbaaGreatDoor
namespace DevS
structure Calm (D:DevS):Prop where
 on:D.off=false
 cy:D.cy=0
theorem Calm.ee{D:DevS}(h:D.Calm):D.ee=true:=by
 unfold DevS.ee;rw[h.on,h.cy];rfl
theorem Calm.al{D:DevS}(h:D.Calm):D.al.Calm:=by
 unfold DevS.al;rw[h.on,h.cy];exact⟨rfl,rfl⟩
theorem Calm.write{D:DevS}(h:D.Calm){i:Nat}{s:ByteArray}(hi:i<D.sec.length)(hs:s.size=128):(D.write (i:Int) s).2=0/\(D.write (i:Int) s).1.Calm:=by
 rw[C1 hi hs,if_pos h.ee];exact⟨rfl,h.al.on,h.al.cy⟩
theorem Calm.writeL:∀(l:List ByteArray) {D:DevS} (h:D.Calm) {i:Nat} (hi:i+l.length<=D.sec.length) (hs:∀s∈l,s.size=128),(D.writeL i l).2=0/\(D.writeL i l).1.Calm
 | [],D,h,i,hi,hs=>⟨rfl,h⟩
 | s::l,D,h,i,hi,hs=>by
  rw[List.length_cons]at hi;obtain⟨h1,h2⟩:=h.write (i:=i) (s:=s) (by omega) (hs s (by simp));obtain⟨k1,-,-⟩:=gO (D:=D) (i:=i) (s:=s) (by omega) (hs s (by simp));have he:D.writeL i (s::l)=DevS.writeL (D.write (i:Int) s).1 (i+1) l:=by
   show (if (D.write (i:Int) s).2=0 then _ else _)=_;rw[if_pos h1]
  rw[he];exact Calm.writeL l h2 (by rw[k1.sec];omega) (fun x hx=>hs x (by simp[hx]))
theorem Calm.sync{D:DevS}(h:D.Calm):D.sync=(D.al.synced,0):=by
 unfold DevS.sync;rw[if_pos h.ee]
end DevS
theorem wF(s:ByteArray)(hs:s.size=512):(⟨((s.extract 0 128).data.toList++(s.extract 128 256).data.toList++(s.extract 256 384).data.toList++(s.extract 384 512).data.toList).toArray⟩:ByteArray)=s:=by
 have hl:s.data.toList.length=512:=by rw[ady];exact hs
 have he:∀a b:Nat,(s.extract a b).data.toList=(s.data.toList.drop a).take (b-a):=fun a b=>by
  simp[ByteArray.data_extract,Array.toList_extract]
 rw[he,he,he,he];have e1:(s.data.toList.drop 0).take 128++(s.data.toList.drop 128).take 128++(s.data.toList.drop 256).take 128++(s.data.toList.drop 384).take 128=s.data.toList:=by
  have k:∀(l:List UInt8) (a b:Nat),(l.drop a).take b++l.drop (a+b)=l.drop a:=fun l a b=>by rw[<-List.drop_drop,List.take_append_drop]
  have h4:(s.data.toList.drop 384).take 128=s.data.toList.drop 384:=List.take_of_length_le (by rw[List.length_drop,hl];omega);rw[h4,aaa,k _ 256 128,aaa,k _ 128 128,k _ 0 128];rfl
 show (⟨((s.data.toList.drop 0).take 128++(s.data.toList.drop 128).take 128++(s.data.toList.drop 256).take 128++(s.data.toList.drop 384).take 128).toArray⟩:ByteArray)=s;rw[e1]
theorem Fc{k n t:Int}{b:ByteArray}(h:cm k n t b=true):(bL k n t b).size=512:=by
 rw[jq h];show (gZ _ _ _ _).toArray.size=512;rw[adS];refine mR _ _ _ _ ?_;have:=(eY h).2.2.2.2.2.2;show b.data.toList.length<=488;rw[ady];exact this
theorem NV{D:DevS}(h:D.Calm){n:Nat}{k t:Int}{b:ByteArray}(hr:cm k n t b=true)(hf:4*n+4<=D.sec.length):
  (D.writeL (4*n) (aJ (bL k n t b))).2=0/\(D.writeL (4*n) (aJ (bL k n t b))).1.Calm/\(D.writeL (4*n) (aJ (bL k n t b))).1.vQ n k t b/\DevS.fF D (D.writeL (4*n) (aJ (bL k n t b))).1 (fun j=>4*n<=j/\j<4*n+4):=by
 have hs:=Fc hr;have hq:∀x∈aJ (bL k n t b),x.size=128:=fun x hx=>by
  obtain⟨i9,h9,rfl⟩:=List.mem_iff_getElem.1 hx;exact gC hs (List.getElem?_eq_getElem h9)
 obtain⟨h1,h2⟩:=DevS.Calm.writeL (aJ (bL k n t b)) h (i:=4*n) (by show 4*n+4<=_;exact hf) hq;obtain⟨v1,v2,v3⟩:=DevS.kI (aJ (bL k n t b)) D (4*n) (by show 4*n+4<=_;exact hf) hq;rcases v3 with⟨-,v4,-⟩|⟨v3,-⟩
 ·refine⟨h1,h2,⟨by rw[v1.sec];exact hf,hr,?_⟩,v1⟩
  unfold DevS.four;have e0:=v4 0 ((bL k n t b).extract 0 128) rfl;have e1:=v4 1 ((bL k n t b).extract 128 256) rfl;have e2:=v4 2 ((bL k n t b).extract 256 384) rfl;have e3:=v4 3 ((bL k n t b).extract 384 512) rfl;rw[Nat.add_zero]at e0;rw[e0,e1,e2,e3];exact(wF _ hs).symm
 ·rw[h1]at v3;cases v3
theorem rI(t:Nat)(d:ag):∀(ks:List Nat) {D:DevS} (h:D.Calm) (hn:ks.Nodup) (hd:∀n∈ks,∃p,d n=some p/\cm p.kind n t p.body=true/\4*n+4<=D.sec.length),
  ∃D',kF t d ks D=(D',0)/\D'.Calm/\(∀n∈ks,∀p,d n=some p->D'.vQ n p.kind t p.body)/\DevS.fF D D' (fun j=>∃n∈ks,4*n<=j/\j<4*n+4)
 | [],D,h,hn,hd=>⟨D,rfl,h,by simp,DevS.fF.refl _ _⟩
 | n::ks,D,h,hn,hd=>by
  obtain⟨gQ,jY⟩:=List.nodup_cons.1 hn;obtain⟨p,hp,hr,hf⟩:=hd n (by simp);obtain⟨k1,k2,k3,k4⟩:=NV h hr hf;obtain⟨D',m1,m2,m3,m4⟩:=rI t d ks k2 jY (fun x hx=>by
   obtain⟨q,q1,q2,q3⟩:=hd x (by simp[hx]);exact⟨q,q1,q2,by rw[k4.sec];exact q3⟩)
  refine⟨D',?_,m2,fun x hx q hq=> ?_,(k4.mono (fun j hj=>⟨n,by simp,hj⟩)).trans (m4.mono (fun j ⟨x,hx,hj⟩=>⟨x,by simp[hx],hj⟩))⟩
  ·show (match d n with|none=>_|some p=>_)=_
   rw[hp];simp only;rw[if_pos k1];exact m1
  ·rcases OF.1 hx with rfl|hx
   ·rw[hp]at hq
    injection hq with hq;subst hq;refine k3.congr (by rw[m4.sec]) fun i h1 h2=>m4.aF ?_;rintro⟨y,hy,h3,h4⟩;have:y=x:=by omega
    subst this;exact gQ hy
   ·exact m3 x hx q hq
def rW.Fits (p:rW):Prop:=1<=p.kind/\p.kind<=3/\p.body.size<=488
namespace Tr
theorem Chain.fit{σ :ag}:∀ {ns:List Nat} {no:Nat} {v:List UInt8},Chain σ no ns v->∀n∈ns,∀p,σ n=Option.some p->p.Fits
 | [],_,_,_=>by simp
 | n::ns,no,v,⟨h1,h2,h3,next,piece,rest,h4,h5,h6,h7,h8,h9,fu⟩=>by
  intro m hm p hp;rcases OF.1 hm with rfl|hm
  ·rw[h4]at hp
   injection hp with hp;subst hp;refine⟨by show 1<=3;omega,by show 3<=3;omega,?_⟩;show (Be.low next 4++piece).toArray.size<=488;rw[adS,List.length_append,Be.au];omega
  ·exact Chain.fit fu m hm p hp
theorem eI.fit{σ :ag}{e:En}(h:eI σ e):∀n∈e.aa,∀p,σ n=some p->p.Fits:=by
 rcases h.2 with⟨-,h,-⟩|⟨-,h,-⟩
 ·rw[h];simp
 ·exact h.fit
theorem Part.fit{σ :ag}:∀ {d:Nat} {cs:List Ce} {P:List Nat} {L:List En},Part σ d cs P L->∀n∈P,∀p,σ n=some p->p.Fits
 | 0,cs,P,L,h=>by
  obtain⟨h1,h2,h3,h4⟩:=h;subst h2;intro n hn p hp;obtain⟨e,he,hn⟩:=abr.1 hn;exact(h4 e he).fit n hn p hp
 | d+1,cs,P,L,⟨ks,h1,h2,h3,h4,h5,h6⟩=>by
  subst h2;intro n hn p hp;obtain⟨k,hk,hn⟩:=abr.1 hn;obtain⟨AF,P',hP,a1,a2,a3,a4,a5,-⟩:=(h6 k hk).2;rw[hP]at hn;rcases OF.1 hn with rfl|hn
  ·rw[a3]at hp
   injection hp with hp;subst hp;refine⟨?_,?_,?_⟩
   ·show 1<=(if (d==0)then 1 else 2);split<;>omega
   ·show (if (d==0)then 1 else 2)<=3;split<;>omega
   ·show (Nd.str (d==0) AF).size<=488
    rw[Nd.dS];exact a5
  ·exact Part.fit a4 n hn p hp
theorem dt.fit{σ :ag}{root:Nat}{P:List Nat}{L:List En}(h:dt σ root P L):∀n∈P,∀p,σ n=some p->p.Fits:=by
 rcases h with⟨-,rfl,-⟩|⟨d,h⟩
 ·simp
 ·obtain⟨AF,P',hP,a1,a2,a3,a4,a5,-⟩:=h
  subst hP;intro n hn p hp;rcases OF.1 hn with rfl|hn
  ·rw[a3]at hp
   injection hp with hp;subst hp;refine⟨?_,?_,?_⟩
   ·show 1<=(if (d==0)then 1 else 2);split<;>omega
   ·show (if (d==0)then 1 else 2)<=3;split<;>omega
   ·show (Nd.str (d==0) AF).size<=488
    rw[Nd.dS];exact a5
  ·exact Part.fit a4 n hn p hp
end Tr
theorem Forest.Ok.fit{F:Forest}{σ :ag}(h:F.Ok σ):∀n p,σ n=some p->p.Fits:=by
 intro n p hp;have hn:=h.full n (by rw[hp];simp);unfold Forest.aa at hn;rcases List.mem_append.1 hn with hn|hn
 ·exact Tr.dt.fit h.main n hn p hp
 ·obtain⟨x,-,hn⟩:=abr.1 hn
  exact Tr.dt.fit (h.each x) n hn p hp
def dv (D:DevS) (σ :ag):Prop:=∀n p,σ n=some p->1<=n/\∃t:Int,D.vQ n p.kind t p.body
theorem dv.keep{D D':DevS}{σ :ag}(h:dv D σ)(hl:D'.sec.length=D.sec.length)(hk:∀i,4<=i->i<D.sec.length->D'.aF i=D.aF i):dv D' σ :=fun n p hp=>by
 obtain⟨h1,t,h2⟩:=h n p hp;exact⟨h1,t,h2.congr hl fun i h3 h4=>hk i (by omega) (by have:=h2.fits;omega)⟩
theorem dv.sync{D:DevS}{σ :ag}(h:dv D σ):dv D.al.synced σ :=
 h.keep (by rw[DevS.oA,DevS.ju]) fun i h1 h2=>by rw[DevS.wQ (by rw[DevS.ju];exact h2),DevS.vp]
theorem dv.OD{D:DevS}{σ :ag}(h:dv D σ){i:Nat}(hi:i<2)(dw:i<D.sec.length){s:ByteArray}(hs:s.size=128):dv (D.write (i:Int) s).1 σ :=by
 obtain⟨k1,-,-⟩:=DevS.gO dw hs;exact h.keep (by rw[k1.sec]) fun j h1 h2=>k1.aF (by omega)
theorem dv.next{D D':DevS}{σ0 σ :ag}{txn:Nat}{d:ag}{U ks:List Nat}(h:dv D σ0)(hk:∀n,n∈ks↔d n≠none)(hd:∀n p,d n=some p->1<=n)
  (hw:DevS.fF D D' (fun j=>∃n∈ks,4*n<=j/\j<4*n+4)) (hp:∀n∈ks,∀p,d n=some p->D'.vQ n p.kind txn p.body) (hσ :∀n,σ n≠none->(d n≠none/\ σ n=d n)\/(d n=none/\n∈U/\ σ n= σ0 n)):dv D' σ :=fun n p Xu=>by
 rcases hσ n (by rw[Xu];simp)with⟨h1,h2⟩|⟨h1,-,h2⟩
 ·rw[h2]at Xu
  exact⟨hd n p Xu,_,hp n ((hk n).2 h1) p Xu⟩
 ·rw[h2]at Xu
  obtain⟨k1,t,k2⟩:=h n p Xu;refine⟨k1,t,k2.congr (by rw[hw.sec]) fun i h3 h4=>hw.aF ?_⟩;rintro⟨m,hm,h5,h6⟩;have:m=n:=by omega
  subst this;exact(hk m).1 hm h1
end Go.Proofs.YtjbcbnemdhbhbaaGreatDoor
