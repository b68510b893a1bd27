import Derived.Test.YtjbcbnemdhbhbaaGreatDoorA9
set_option maxRecDepth 100000
set_option linter.unusedVariables false
set_option linter.unusedSimpArgs false
set_option maxHeartbeats 40000000
open Bool renaming and_eq_true→abL
open Go renaming Calls→aaf,World→AI,bodyPost_ret→abT,results→acJ
open Go.ByteArray renaming toList_eq→abV
open Go.IntWalk renaming wrap64_in→aeC
open Go.Lib renaming hid→sh
open Go.RowKit renaming Below→IT
open Go.RowKit.Below renaming refl→BY,setCell→afb
open Int renaming eq_ofNat_of_zero_le→acg
open List renaming append_assoc→aaa,length_append→AT,replicate→abN
open Nat renaming le_refl→AS
namespace Go.Proofs.YtjbcbnemdhbhbaaGreatDoor
open Go.Proofs.Tryz
open Go.RowKit
open Go.PlainAid
def cL (t r f p l:Int):Bool:=decide (0<=t)&&decide (t<=1099511627776)&&decide (2<=l)&&decide (l<=512)&&decide (1<=p)&&decide (p<=l)&&decide (0<=r)&&decide (r<p)&&decide (0<=f)&&decide (f<p)
theorem kG{t r f p l:Int}(h:cL t r f p l=true):0<=t/\t<=1099511627776/\2<=l/\l<=512/\1<=p/\p<=l/\0<=r/\r<p/\0<=f/\f<p:=by
 unfold cL at h;simp only[abL,decide_eq_true_eq]at h;omega
theorem qE{t r f p l:Int}(h:0<=t/\t<=1099511627776/\2<=l/\l<=512/\1<=p/\p<=l/\0<=r/\r<p/\0<=f/\f<p):cL t r f p l=true:=by
 unfold cL;simp only[abL,decide_eq_true_eq];omega
def bG (t r f p l:Nat):List UInt8:=[82,79,76,76,66,79,79,75]++lays [(t,8),(r,4),(f,4),(p,4),(l,4)]
def kO (t r f p l:Nat):List UInt8:=bG t r f p l++Be.low (Crc.sum (bG t r f p l)) 4++abN 92 0
def dq (t r f p l:Int):ByteArray:=if cL t r f p l then ⟨(kO t.toNat r.toNat f.toNat p.toNat l.toNat).toArray⟩else ⟨#[]⟩
def kN (t r f p l:Int):Int:=if cL t r f p l then 0 else 4
theorem pj(t r f p l:Nat):(bG t r f p l).length=32:=by
 unfold bG lays;simp[Be.au]
theorem qB(t r f p l:Nat):(kO t r f p l).length=128:=by
 unfold kO;rw[AT,AT,pj,Be.au,List.length_replicate]
theorem fi(t r f p l:Nat):kO t r f p l=[82,79,76,76,66,79,79,75]++(Be.low t 8++(Be.low r 4++(Be.low f 4++(Be.low p 4++(Be.low l 4++(Be.low (Crc.sum (bG t r f p l)) 4++abN 92 0)))))):=by
 conv=>lhs;unfold kO
 rw[show bG t r f p l++Be.low (Crc.sum (bG t r f p l)) 4++abN 92 0=bG t r f p l++(Be.low (Crc.sum (bG t r f p l)) 4++abN 92 0)by rw[aaa]];generalize Be.low (Crc.sum (bG t r f p l)) 4++abN 92 0=z;unfold bG lays;simp[aaa]
theorem Rq(t r f p l:Nat)(h:t<=1099511627776):Be.num (((kO t r f p l).drop 8).take 8)=t:=by
 rw[fi,gy _ _ _ 8 8 rfl (Be.au _ _),Be.cg _ _ (by omega)]
theorem Rp(t r f p l:Nat)(h:r<512):Be.num (((kO t r f p l).drop 16).take 4)=r:=by
 rw[fi,<-aaa,gy _ _ _ 16 4 (by simp[Be.au]) (Be.au _ _),Be.cg _ _ (by omega)]
theorem Rm(t r f p l:Nat)(h:f<512):Be.num (((kO t r f p l).drop 20).take 4)=f:=by
 rw[fi,<-aaa,<-aaa,gy _ _ _ 20 4 (by simp[Be.au]) (Be.au _ _),Be.cg _ _ (by omega)]
theorem Ro(t r f p l:Nat)(h:p<=512):Be.num (((kO t r f p l).drop 24).take 4)=p:=by
 rw[fi,<-aaa,<-aaa,<-aaa,gy _ _ _ 24 4 (by simp[Be.au]) (Be.au _ _),Be.cg _ _ (by omega)]
theorem Rn(t r f p l:Nat)(h:l<=512):Be.num (((kO t r f p l).drop 28).take 4)=l:=by
 rw[fi,<-aaa,<-aaa,<-aaa,<-aaa,gy _ _ _ 28 4 (by simp[Be.au]) (Be.au _ _),Be.cg _ _ (by omega)]
def kg (s:ByteArray) (t r f p l:Int):Prop:=cL t r f p l=true/\dq t r f p l=s
theorem jl{t r f p l:Int}(h:cL t r f p l=true):dq t r f p l=⟨(kO t.toNat r.toNat f.toNat p.toNat l.toNat).toArray⟩:=by unfold dq;rw[h];rfl
theorem jk{t r f p l:Int}(h:cL t r f p l=true):kN t r f p l=0:=by unfold kN;rw[h];rfl
theorem rH{t r f p l:Int}(h:cL t r f p l=false):dq t r f p l=⟨#[]⟩:=by unfold dq;rw[h];rfl
theorem rG{t r f p l:Int}(h:cL t r f p l=false):kN t r f p l=4:=by unfold kN;rw[h];rfl
theorem kg.says{s:ByteArray}{t r f p l:Int}(h:kg s t r f p l):
  s.size=128/\(∃q,s.data.toList=82::79::76::76::66::79::79::75::q)/\t=ai s 8 8/\r=ai s 16 4/\f=ai s 20 4/\p=ai s 24 4/\l=ai s 28 4:=by
 obtain⟨hr,hs⟩:=h;obtain⟨h1,h2,h3,h4,h5,h6,h7,h8,h9,fu⟩:=kG hr;rw[jl hr]at hs;obtain⟨tn,rfl⟩:=acg (show 0<=t by omega);obtain⟨rn,rfl⟩:=acg (show 0<=r by omega);obtain⟨fn,rfl⟩:=acg (show 0<=f by omega);obtain⟨pn,rfl⟩:=acg (show 0<=p by omega);obtain⟨ln,rfl⟩:=acg (show 0<=l by omega);simp only[Int.toNat_natCast]at hs;have hl:s.data.toList=kO tn rn fn pn ln:=by rw[<-hs]
 have e1:ai s 8 8=tn:=by unfold ai;rw[hl];exact Rq _ _ _ _ _ (by omega)
 have e2:ai s 16 4=rn:=by unfold ai;rw[hl];exact Rp _ _ _ _ _ (by omega)
 have e3:ai s 20 4=fn:=by unfold ai;rw[hl];exact Rm _ _ _ _ _ (by omega)
 have e4:ai s 24 4=pn:=by unfold ai;rw[hl];exact Ro _ _ _ _ _ (by omega)
 have e5:ai s 28 4=ln:=by unfold ai;rw[hl];exact Rn _ _ _ _ _ (by omega)
 refine⟨?_,⟨_,by rw[hl,fi];rfl⟩,by rw[e1],by rw[e2],by rw[e3],by rw[e4],by rw[e5]⟩;rw[<-cB,hl,qB]
def cF (s:ByteArray):Bool:=cL (ai s 8 8) (ai s 16 4) (ai s 20 4) (ai s 24 4) (ai s 28 4)&&decide (dq (ai s 8 8) (ai s 16 4) (ai s 20 4) (ai s 24 4) (ai s 28 4)=s)
def eD (s:ByteArray):Int:=if cF s then (ai s 8 8:Int)else 0
def ij (s:ByteArray):Int:=if cF s then (ai s 16 4:Int)else 0
def ie (s:ByteArray):Int:=if cF s then (ai s 20 4:Int)else 0
def ig (s:ByteArray):Int:=if cF s then (ai s 24 4:Int)else 0
def fx (s:ByteArray):Int:=if cF s then (ai s 28 4:Int)else 0
def dV (s:ByteArray):Int:=if cF s then 0 else 4
theorem vu{s:ByteArray}(h:cF s=true):kg s (ai s 8 8) (ai s 16 4) (ai s 20 4) (ai s 24 4) (ai s 28 4):=by
 unfold cF at h;simp only[abL,decide_eq_true_eq]at h;exact h
theorem Hj{s:ByteArray}{t r f p l:Int}(h:kg s t r f p l):cF s=true:=by
 obtain⟨h1,h2,h3,h4,h5,h6,h7⟩:=h.says;have h8:=h;rw[h3,h4,h5,h6,h7]at h8;unfold cF;rw[h8.1,h8.2];simp
theorem OG{s:ByteArray}{t r f p l:Int}(h:kg s t r f p l):eD s=t/\ij s=r/\ie s=f/\ig s=p/\fx s=l/\dV s=0:=by
 have hu:=Hj h;obtain⟨h1,h2,h3,h4,h5,h6,h7⟩:=h.says;unfold eD ij ie ig fx dV;rw[hu];exact⟨h3.symm,h4.symm,h5.symm,h6.symm,h7.symm,rfl⟩
theorem vw{s:ByteArray}(h:cF s=false):eD s=0/\ij s=0/\ie s=0/\ig s=0/\fx s=0/\dV s=4:=by
 unfold eD ij ie ig fx dV;rw[h];exact⟨rfl,rfl,rfl,rfl,rfl,rfl⟩
def eU (s p:ByteArray):Bool:=(s.extract 0 p.size).toList==p.toList
def yI (q:Bool) (w:AI) (e:Ending) (w':AI):Prop:=e= .returned (.bool q)/\w=w'
theorem EX(s p:ByteArray)(w:AI)(hs:s.size<=1000000)(hp:p.size<=s.size):
  aaf prog 246 #[.string s,.string p] w (yI (eU s p) w):=by
 have q:decide (p.size<=s.size)=true:=by simpa using hp
 have q2:decide ((p.size:Int)<=(s.size:Int))=true:=by simp;omega
 have HE:=sh (show eU s p=((s.extract 0 p.size).toList==p.toList) from rfl);go_enter func246,ntmps246
 go_wp2_with fail
 go_ret
 exact⟨by rw[HE.out];rfl,rfl⟩
theorem gz(s p:ByteArray)(w:AI)(hs:s.size<=1000000)(hp:p.size<=s.size):
  aaf prog 210 #[.string s,.string p] w (yI (eU s p) w):=by
 have H:=sh (EX s p w hs hp);go_enter func210,ntmps210
 go_wp2_with (go_at_call 246;refine H.out.mono ?_;rintro e w' ⟨rfl,rfl⟩)
 go_ret
 exact⟨rfl,rfl⟩
def dI (s:ByteArray) (w:AI) (e:Ending) (w':AI):Prop:=
 e= .returned (.tuple #[.agg #[.int .i64 (OJ s),.int .i64 (OK s),.int .i64 (OL s),.string (OM s)],.int .i64 (OI s)])/\IT w.heap.size w w'
theorem jG{s:ByteArray}{w w':AI}(h:iY s=false)(hb:IT w.heap.size w w'):dI s w (.returned (.tuple #[.agg #[.int .i64 0,.int .i64 0,.int .i64 0,.string ⟨#[]⟩],.int .i64 4])) w':=by
 obtain⟨h1,h2,h3,h4,h5⟩:=WS h;unfold dI;rw[h1,h2,h3,h4,h5];exact⟨rfl,hb⟩
theorem wU{s:ByteArray}{k n t:Int}{b:ByteArray}{w w':AI}(h:gS s k n t b)(hb:IT w.heap.size w w'):dI s w (.returned (.tuple #[.agg #[.int .i64 k,.int .i64 n,.int .i64 t,.string b],.int .i64 0])) w':=by
 obtain⟨h1,h2,h3,h4,h5⟩:=ON h;unfold dI;rw[h1,h2,h3,h4,h5];exact⟨rfl,hb⟩
theorem J3{s:ByteArray}(h:s.size≠512):iY s=false:=by
 cases hu:iY s with
 | false=>rfl
 | true=>exact absurd (vx hu).says.1 h
theorem OH{s:ByteArray}(h:eU s ⟨#[82,66]⟩=false):iY s=false:=by
 cases hu:iY s with
 | false=>rfl
 | true=>
  obtain⟨_,⟨r,hr⟩,_⟩:=(vx hu).says;have:eU s ⟨#[82,66]⟩=true:=by
   unfold eU;rw[abV,abV,cU,hr];rfl
  rw[this]at h;cases h
theorem FQ{s:ByteArray}{tz:Int}(ht:tz=wrap64 (ai s 10 8)){b:ByteArray}(hb:ai s 4 2<=488/\b=s.extract 24 (24+ai s 4 2)\/488<ai s 4 2/\b=⟨#[]⟩):
  (jo (ai s 2 1) (ai s 6 4) tz b=0/\bL (ai s 2 1) (ai s 6 4) tz b=s/\gS s (ai s 2 1) (ai s 6 4) tz b)\/
  (jo (ai s 2 1) (ai s 6 4) tz b=0/\bL (ai s 2 1) (ai s 6 4) tz b≠s/\iY s=false)\/(jo (ai s 2 1) (ai s 6 4) tz b=4/\iY s=false):=by
 have key:iY s=true->gS s (ai s 2 1) (ai s 6 4) tz b:=by
  intro hu;have hp:=vx hu;have h1:=(eY hp.1);have h2:=hp.says;have e1:tz=ai s 10 8:=by rw[ht];exact aeC _ ⟨by omega,by omega⟩
  rcases hb with⟨h3,h4⟩|⟨h3,h4⟩
  ·rw[h4,e1];exact hp
  ·have:=h2.2.2.2.1;omega
 cases hr:cm (ai s 2 1) (ai s 6 4) tz b with
 | false=>
  refine .inr (.inr ⟨Cj hr,?_⟩);cases hu:iY s with
  | false=>rfl
  | true=>have:=(key hu).1;rw[this]at hr;cases hr
 | true=>
  by_cases he:bL (ai s 2 1) (ai s 6 4) tz b=s
  ·exact .inl ⟨mh hr,he,hr,he⟩
  ·refine .inr (.inl ⟨mh hr,he,?_⟩)
   cases hu:iY s with
   | false=>rfl
   | true=>exact absurd (key hu).2 he
theorem iL(s:ByteArray)(p k:Nat):ai s p k<256 ^ k:=by
 unfold ai;refine Nat.lt_of_lt_of_le (Be.ND _) (Nat.pow_le_pow_right (by decide) ?_);rw[List.length_take];omega
theorem yo{a b:ByteArray}(h:a≠b):(a.toList==b.toList)=false:=by
 rw[abV,abV,beq_eq_false_iff_ne];exact fun e=>h (jF e)
theorem OO(s:ByteArray)(w:AI)(h:s.size≠512):aaf prog 212 #[.string s] w (dI s w):=by
 have q:((s.size:Int) != 512)=true:=by simp;omega
 have HU:=sh (J3 h);clear h;go_enter func212,ntmps212
 go_wp2_with fail
 exact abT (v:= .tuple #[.agg #[.int .i64 0,.int .i64 0,.int .i64 0,.string ⟨#[]⟩],.int .i64 4]) (by simp[acJ,results212,go_sem]) rfl (jG HU.out (by first|exact(BY _ _).alloc (AS _) _|exact((BY _ _).alloc (AS _) _).drew))
theorem OP(s:ByteArray)(w:AI)(h:s.size=512)(hp:eU s ⟨#[82,66]⟩=false):aaf prog 212 #[.string s] w (dI s w):=by
 have q:((s.size:Int) != 512)=false:=by simp;omega
 have HU:=sh (OH hp);have HP:=sh fun W=>gz s ⟨#[82,66]⟩ W (by omega) (by rw[h];decide);rw[hp]at HP;clear h hp;go_enter func212,ntmps212
 go_wp2_with (first|(go_at_call 210;refine(HP.out _).mono ?_;rintro e w' ⟨rfl,rfl⟩)|fail)
 exact abT (v:= .tuple #[.agg #[.int .i64 0,.int .i64 0,.int .i64 0,.string ⟨#[]⟩],.int .i64 4]) (by simp[acJ,results212,go_sem]) rfl (jG HU.out (by first|exact(BY _ _).alloc (AS _) _|exact((BY _ _).alloc (AS _) _).drew))
theorem aS.vV{w:AI}(h:aS w){p:Addr}(hp:0≠p.block)(u:Value):aS (w.setCell p u):=fun k hk=>(World.cell?_of_block (Below.heap_setCell w p u _ hp)).trans (h k hk)
theorem OQ(s:ByteArray)(w:AI)(hr:aS w)(h:s.size=512)(hp:eU s ⟨#[82,66]⟩=true):aaf prog 212 #[.string s] w (dI s w):=by
 have q:((s.size:Int) != 512)=false:=by simp;omega
 have HP:=sh fun W=>gz s ⟨#[82,66]⟩ W (by omega) (by rw[h];decide);rw[hp]at HP;have yw:=fun W=>at_any s 2 1 W (by omega) (by decide) (by decide) (by omega);have TR:=fun W=>at_any s 6 4 W (by omega) (by decide) (by decide) (by omega);have TS:=fun W=>at_any s 10 8 W (by omega) (by decide) (by decide) (by omega);have TT:=fun W=>at_any s 4 2 W (by omega) (by decide) (by decide) (by omega);have l1:=iL s 2 1;have l2:=iL s 6 4;have l4:=iL s 4 2;rw[aeC _ ⟨by omega,by omega⟩]at yw TR TT;have aT:=Bk.new w 126 #[.int .i64 0,.int .i64 0,.int .i64 0,.string ⟨#[]⟩];have oe:IT w.heap.size w (w.alloc (.cells #[.int .i64 0,.int .i64 0,.int .i64 0,.string ⟨#[]⟩] 126)):=(BY _ _).alloc (AS _) _;have lX:=hr.below oe;obtain⟨b,IP⟩:∃b:ByteArray,ai s 4 2<=488/\b=s.extract 24 (24+ai s 4 2)\/488<ai s 4 2/\b=⟨#[]⟩:=by
  by_cases hl:ai s 4 2<=488
  ·exact⟨_,.inl ⟨hl,rfl⟩⟩
  ·exact⟨_,.inr ⟨by omega,rfl⟩⟩
 obtain⟨tz,Wj⟩:∃tz:Int,tz=wrap64 (ai s 10 8):=⟨_,rfl⟩;rw[<-Wj]at TS;have HU:=FQ Wj IP;have zK:=fun(W:AI) (hW:aS W)=>Ck (ai s 2 1) (ai s 6 4) tz b W hW;have Tp:∃(ps:ByteArray) (pe:Int),bL (ai s 2 1) (ai s 6 4) tz b=ps/\jo (ai s 2 1) (ai s 6 4) tz b=pe:=⟨_,_,rfl,rfl⟩;obtain⟨ps,pe,EE,To⟩:=Tp;unfold tF at zK;rw[EE,To]at zK HU;clear EE To Wj;generalize ai s 2 1=k at *;generalize ai s 6 4=n at *;generalize ai s 4 2=l at *;have bh:=sh (show ∀W,aaf prog 211 #[.string s,.int .i64 2,.int .i64 1] W (dH (k:Int) W) from yw);have bm:=sh (show ∀W,aaf prog 211 #[.string s,.int .i64 6,.int .i64 4] W (dH (n:Int) W) from TR);have du:=sh (show ∀W,aaf prog 211 #[.string s,.int .i64 10,.int .i64 8] W (dH tz W) from TS);have fU:=sh (show ∀W,aaf prog 211 #[.string s,.int .i64 4,.int .i64 2] W (dH (l:Int) W) from TT);have HK:=sh zK;have HUU:=sh HU;have pJ:=sh aT;have lj:=sh oe;have rV:=sh lX;clear yw TR TS TT zK aT oe lX hp HU l1 l2 l4 hr;have Pn:(0:Int)<=24+(l:Int):=by omega
 have hlq:(decide ((l:Int)<=488)=true/\l<=488/\b=s.extract 24 (24+l))\/(decide ((l:Int)<=488)=false/\488<l/\b=⟨#[]⟩):=by
  rcases IP with⟨h1,h2⟩|⟨h1,h2⟩
  ·exact .inl ⟨by simp;omega,h1,h2⟩
  ·exact .inr ⟨by simp;omega,h1,h2⟩
 clear IP;have fy:(pe=4/\Hid (iY s=false))\/(pe=0/\(ps.toList==s.toList)=false/\Hid (iY s=false))\/(pe=0/\ps=s/\Hid (gS s (k:Int) (n:Int) tz b)):=by
  rcases HUU.out with⟨h1,h2,h3⟩|⟨h1,h2,h3⟩|⟨h1,h2⟩
  ·exact .inr (.inr ⟨h1,h2,h3⟩)
  ·exact .inr (.inl ⟨h1,yo h2,h3⟩)
  ·exact .inl ⟨h1,h2⟩
 clear HUU;rcases fy with⟨rfl,YO⟩|⟨rfl,qps,YO⟩|⟨rfl,rfl,O1⟩;all_goals rcases hlq with⟨ql,hl,rfl⟩|⟨ql,hl,rfl⟩
 all_goals
  go_enter func212,ntmps212
  go_wp2_with (first|(go_at_call 210;refine(HP.out _).mono ?_;rintro e w' ⟨rfl,rfl⟩)|fail)
  refine(bh.out _).mono ?_;rintro e w1 ⟨rfl,ar⟩;have X1:=sh (lj.out.trans (ar.mono lj.out.size));have K1:=sh (ae pJ.out ar);have R1:=sh (rV.out.below ar);clear ar;go_wp2_with fail
  refine(bm.out _).mono ?_;rintro e w2 ⟨rfl,aC⟩;have X2:=sh (X1.out.trans (aC.mono X1.out.size));have K2:=sh (ae K1.out aC);have R2:=sh (R1.out.below aC);clear aC;go_wp2_with fail
  refine(du.out _).mono ?_;rintro e w3 ⟨rfl,aN⟩;have X3:=sh (X2.out.trans (aN.mono X2.out.size));have K3:=sh (ae K2.out aN);have R3:=sh (R2.out.below aN);clear aN;go_wp2_with fail
  refine(fU.out _).mono ?_;rintro e w4 ⟨rfl,bT⟩;have I6:=Bk.new w3 126 #[.int .i64 (k:Int),.int .i64 (n:Int),.int .i64 tz,.string ⟨#[]⟩];have X4:=sh ((X3.out.alloc X3.out.size (.cells #[.int .i64 (k:Int),.int .i64 (n:Int),.int .i64 tz,.string ⟨#[]⟩] 126)).trans (bT.mono (by have:=X3.out.size;simp;omega)));have K4:=sh (ae (K3.out.alloc _) bT);have N4:=sh (ae I6 bT);have R4:=sh ((R3.out.below ((BY _ _).alloc (AS _) _)).below bT);obtain⟨d0,d1,d2,d3⟩:=N4.out.four;have f3:=N4.out.frozen 3;clear bT I6;have nE:=X3.out.size;have bM:w.heap.size<w3.heap.size:=K3.out.lt;have MV:0<w3.heap.size:=R3.out.lt;go_wp2_with fail
  first
   | (refine(HK.out _ (R4.out.vV (by simp;omega) _)).mono ?_
      rintro e w6 ⟨rfl,ga⟩;have X6:=sh ((X4.out.setCell (p:=⟨w3.heap.size,3,none⟩) (by simp;omega) _).trans (ga.mono (by have:=X4.out.size;simp[World.setCell];omega)));have K6:=sh (ae (K4.out.vV (p:=⟨w3.heap.size,3,none⟩) (by simp;omega) _) ga);have N6:=sh (ae (N4.out.put 3 _) ga))
   | (refine(HK.out _ R4.out).mono ?_
      rintro e w6 ⟨rfl,ga⟩;have X6:=sh (X4.out.trans (ga.mono X4.out.size));have K6:=sh (ae K4.out ga);have N6:=sh (ae N4.out ga))
   | fail
  clear ga d0 d1 d2 d3 f3;obtain⟨c0,c1,c2,c3⟩:=K6.out.four;have g0:=K6.out.frozen 0;have g1:=K6.out.frozen 1;have g2:=K6.out.frozen 2;have g3:=K6.out.frozen 3;obtain⟨d0,d1,d2,d3⟩:=N6.out.four;go_wp2_with fail
  first
   | exact abT (v:= .tuple #[.agg #[.int .i64 0,.int .i64 0,.int .i64 0,.string ⟨#[]⟩],.int .i64 4]) (by simp[acJ,results212,go_sem, *]) rfl (jG YO.out (by repeat (first|exact X6.out|refine afb ?_ (by simp) _)))
   | exact abT (v:= .tuple #[.agg #[.int .i64 (k:Int),.int .i64 (n:Int),.int .i64 tz,.string _],.int .i64 0]) (by simp[acJ,results212,go_sem, *]) rfl (wU O1.out (by repeat (first|exact X6.out|refine afb ?_ (by simp) _)))
   | (trace_state;fail)
theorem FR(s:ByteArray)(w:AI)(hr:aS w):aaf prog 212 #[.string s] w (dI s w):=by
 by_cases h:s.size=512
 ·cases hp:eU s ⟨#[82,66]⟩with
  | false=>exact OP s w h hp
  | true=>exact OQ s w hr h hp
 ·exact OO s w h
abbrev jm (t r f p l:Int):Value:= .agg #[.int .i64 t,.int .i64 r,.int .i64 f,.int .i64 p,.int .i64 l]
theorem Kb(n lo hi:Int)(q:Bool)(w:AI)(HE:Hid ((decide (lo<=n)&&decide (n<=hi))=q)):aaf prog 230 #[.int .i64 n,.int .i64 lo,.int .i64 hi] w (yI q w):=by
 have fy:(q=true/\lo<=n/\n<=hi)\/(q=false/\lo<=n/\decide (n<=hi)=false)\/(q=false/\n<lo):=by
  have:=HE.out;cases q
  ·simp at this
   by_cases h1:lo<=n
   ·exact .inr (.inl ⟨rfl,h1,by simp;exact this h1⟩)
   ·exact .inr (.inr ⟨rfl,by omega⟩)
  ·simp at this
   exact .inl ⟨rfl,this.1,this.2⟩
 clear HE;rcases fy with⟨rfl,h1,h2⟩|⟨rfl,h1,h2⟩|⟨rfl,h1⟩;all_goals
  go_enter func230,ntmps230
  go_wp2_with fail
  go_ret
  exact⟨rfl,rfl⟩
theorem iQ(n lo hi:Int)(w:AI):aaf prog 230 #[.int .i64 n,.int .i64 lo,.int .i64 hi] w (yI (decide (lo<=n)&&decide (n<=hi)) w):=Kb n lo hi _ w (show _=_ from rfl)
theorem CB(t r f p l:Int):cL t r f p l=((decide (0<=t)&&decide (t<=1099511627776))&&(decide (2<=l)&&decide (l<=512))&&(decide (1<=p)&&decide (p<=l))&&(decide (0<=r)&&decide (r<=p-1))&&(decide (0<=f)&&decide (f<=p-1))):=by
 unfold cL;rw[Bool.eq_iff_iff];simp only[abL,decide_eq_true_eq];omega
theorem Cs(t r f p l:Int)(w:AI):aaf prog 174 #[jm t r f p l] w (gl (cL t r f p l) w):=by
 have h5:=CB t r f p l;have H1:=fun W=>iQ t 0 1099511627776 W;have H2:=fun W=>iQ l 2 512 W;have H3:=fun W=>iQ p 1 l W;have H4:=fun W=>iQ r 0 (p-1) W;have H5:=fun W=>iQ f 0 (p-1) W;have hp:(decide (1<=p)&&decide (p<=l))=true->(decide (2<=l)&&decide (l<=512))=true->1<=p/\p<=512:=by
  simp only[abL,decide_eq_true_eq];omega
 generalize cL t r f p l=q at *;generalize (decide (0<=t)&&decide (t<=1099511627776))=x1 at *;generalize (decide (2<=l)&&decide (l<=512))=x2 at *;generalize (decide (1<=p)&&decide (p<=l))=x3 at *;generalize (decide (0<=r)&&decide (r<=p-1))=x4 at *;generalize (decide (0<=f)&&decide (f<=p-1))=x5 at *;have HQ:=sh h5;clear h5;have oe:IT w.heap.size w (w.alloc (.cells #[.int .i64 t,.int .i64 r,.int .i64 f,.int .i64 p,.int .i64 l] 40)):=(BY _ _).alloc (AS _) _;have HB:=sh oe;have G1:=sh H1;have G2:=sh H2;have G3:=sh H3;have G4:=sh H4;have G5:=sh H5;have fy:x1=false\/(x1=true/\x2=false)\/(x1=true/\x2=true/\x3=false)\/(x1=true/\x2=true/\x3=true/\x4=false)\/(x1=true/\x2=true/\x3=true/\x4=true):=by
  cases x1<;>cases x2<;>cases x3<;>cases x4<;>simp
 clear oe H1 H2 H3 H4 H5;rcases fy with rfl|⟨rfl,rfl⟩|⟨rfl,rfl,rfl⟩|⟨rfl,rfl,rfl,rfl⟩|⟨rfl,rfl,rfl,rfl⟩;all_goals
  have HP:Hid (1<=p/\p<=512)\/True:=by first|exact .inl (hp rfl rfl)|exact .inr trivial
  first|(obtain⟨zf,ru⟩:=hp rfl rfl)|skip
  clear HP hp;go_enter func174,ntmps174
  go_wp2_with (first
   | (go_at_call 230;(with_reducible refine(G1.out _).mono ?_);rintro e w' ⟨rfl,rfl⟩)
   | (go_at_call 230;(with_reducible refine(G2.out _).mono ?_);rintro e w' ⟨rfl,rfl⟩)
   | (go_at_call 230;(with_reducible refine(G3.out _).mono ?_);rintro e w' ⟨rfl,rfl⟩)
   | (go_at_call 230;(with_reducible refine(G4.out _).mono ?_);rintro e w' ⟨rfl,rfl⟩)
   | (go_at_call 230;(with_reducible refine(G5.out _).mono ?_);rintro e w' ⟨rfl,rfl⟩)
   | fail)
  go_ret
  exact ec (by rw[HQ.out];first|rfl|(cases x2<;>cases x3<;>cases x4<;>cases x5<;>rfl)|(cases x3<;>cases x4<;>cases x5<;>rfl)|(cases x4<;>cases x5<;>rfl)|(cases x5<;>rfl)) HB.out
def qd (t r f p l:Int) (w:AI) (e:Ending) (w':AI):Prop:=e= .returned (.tuple #[.string (dq t r f p l),.int .i64 (kN t r f p l)])/\IT w.heap.size w w'
theorem Y6(t r f p l:Nat)(ht:t<=1099511627776)(hr:r<512)(hf:f<512)(hp:p<=512)(hl:l<=512):Fits [(t,8),(r,4),(f,4),(p,4),(l,4)]:=by
 intro x hx;simp only[List.mem_cons,List.not_mem_nil,or_false]at hx;rcases hx with rfl|rfl|rfl|rfl|rfl<;>refine⟨by simp,by simp,?_,?_⟩<;>simp<;>omega
theorem E3{t r f p l:Nat}(hr:cL t r f p l=true){hd ls:ByteArray}(h1:hd=⟨(bG t r f p l).toArray⟩)(h2:ls=⟨(Be.low (Crc.sum (bG t r f p l)) 4).toArray⟩):
  dq t r f p l=hd++ls++bw 92/\kN t r f p l=0:=by
 refine⟨?_,jk hr⟩;subst h1 h2;rw[jl hr];apply jF;rw[aP,aP,fL];rfl
theorem qC(t r f p l:Int)(w:AI)(bd:aS w):aaf prog 117 #[jm t r f p l] w (qd t r f p l w):=by
 have HR:=fun W:AI=>Cs t r f p l W;have oe:IT w.heap.size w (w.alloc (.cells #[.int .i64 t,.int .i64 r,.int .i64 f,.int .i64 p,.int .i64 l] 40)):=(BY _ _).alloc (AS _) _;have aT:=Bk.new w 40 #[.int .i64 t,.int .i64 r,.int .i64 f,.int .i64 p,.int .i64 l];have lX:=bd.below oe;cases hq:cL t r f p l with
 | false=>
  rw[hq]at HR;have H1:=sh HR;have HS:=sh (show dq t r f p l=⟨#[]⟩/\kN t r f p l=4 from ⟨rH hq,rG hq⟩);clear hq HR;go_enter func117,ntmps117
  go_wp2_with (first
   | (go_at_call 174;refine(H1.out _).mono ?_;rintro e w2 ⟨rfl,aC⟩)
   | fail)
  go_ret2
  exact⟨by rw[HS.out.1,HS.out.2];rfl,oe.trans (aC.mono oe.size)⟩
 | true=>
  rw[hq]at HR;have H1:=sh HR;obtain⟨h1,h2,h3,h4,h5,h6,h7,h8,h9,fu⟩:=kG hq;obtain⟨tn,rfl⟩:=acg (show 0<=t by omega);obtain⟨rn,rfl⟩:=acg (show 0<=r by omega);obtain⟨fn,rfl⟩:=acg (show 0<=f by omega);obtain⟨pn,rfl⟩:=acg (show 0<=p by omega);obtain⟨ln,rfl⟩:=acg (show 0<=l by omega);have gn:=Y6 tn rn fn pn ln (by omega) (by omega) (by omega) (by omega) (by omega);have OX:=fun W:AI=>s7 ⟨#[82,79,76,76,66,79,79,75]⟩ W.heap.size 5 [(tn,8),(rn,4),(fn,4),(pn,4),(ln,4)] _ rfl (by simp) (by decide) (GX W tn rn fn pn ln 8 4 4 4 4 268) gn;have QR:(⟨#[82,79,76,76,66,79,79,75]⟩++⟨(lays [(tn,8),(rn,4),(fn,4),(pn,4),(ln,4)]).toArray⟩:ByteArray)=⟨(bG tn rn fn pn ln).toArray⟩:=by
   apply jF;rw[aP];rfl
  rw[QR]at OX;have hhs:(⟨(bG tn rn fn pn ln).toArray⟩:ByteArray).size=32:=by rw[ct,pj]
  have Uq:=fun(W:AI) (hW:aS W)=>Hg ⟨(bG tn rn fn pn ln).toArray⟩ W (by rw[hhs];unfold maxLen;omega) hW;rw[show (⟨(bG tn rn fn pn ln).toArray⟩:ByteArray).data.toList=bG tn rn fn pn ln from rfl]at Uq;have fJ:=Oy (bG tn rn fn pn ln);have HPT:=fun hd ls=>@E3 tn rn fn pn ln hq hd ls;have pL:=HPT _ _ rfl rfl;clear HPT;generalize Crc.sum (bG tn rn fn pn ln)=sm at *;generalize (⟨(bG tn rn fn pn ln).toArray⟩:ByteArray)=hd at *;have Dz:=fun W:AI=>s7 hd W.heap.size 1 [(sm,4)] _ rfl (by simp) (by omega) (GW W sm 4 268) (xy sm fJ);have Mv:lays [(sm,4)]=Be.low sm 4:=by unfold lays;simp
  rw[Mv]at Dz;have Tb:(⟨(Be.low sm 4).toArray⟩:ByteArray).size=4:=by rw[ct,Be.au]
  generalize (⟨(Be.low sm 4).toArray⟩:ByteArray)=ls at *;have hlc:(hd++ls:ByteArray).size=36:=by rw[ByteArray.size_append];omega
  have HF:=fun W:AI=>tW (hd++ls) 128 W (by omega) (by decide);rw[hlc]at HF;generalize hd++ls=hl at *;have sF:=sh (show ∀W,aaf prog 176 #[.string hl,.int .i64 128] W (gT (hl++bw 92) W) from HF);have T8:=sh (show ∀W:AI,aaf prog 175 #[.string ⟨#[82,79,76,76,66,79,79,75]⟩,.slice (some ⟨W.heap.size,0,none⟩) 5 5] (W.alloc (.cells #[.int .i64 (tn:Int),.int .i64 8,.int .i64 (rn:Int),.int .i64 4,.int .i64 (fn:Int),.int .i64 4,.int .i64 (pn:Int),.int .i64 4,.int .i64 (ln:Int),.int .i64 4] 268))
   (gT hd (W.alloc (.cells #[.int .i64 (tn:Int),.int .i64 8,.int .i64 (rn:Int),.int .i64 4,.int .i64 (fn:Int),.int .i64 4,.int .i64 (pn:Int),.int .i64 4,.int .i64 (ln:Int),.int .i64 4] 268))) from OX)
  have T9:=sh (show ∀W:AI,aaf prog 175 #[.string hd,.slice (some ⟨W.heap.size,0,none⟩) 1 1] (W.alloc (.cells #[.int .i64 (sm:Int),.int .i64 4] 268))
   (gT hl (W.alloc (.cells #[.int .i64 (sm:Int),.int .i64 4] 268))) from Dz)
  have Lc:=sh Uq;have pJ:=sh aT;have rV:=sh lX;have lj:=sh oe;have jO:=sh pL;clear OX Dz Uq HF QR Mv aT lX oe bd hq HR pL gn hlc Tb hhs;go_enter func117,ntmps117
  go_wp2_with fail
  refine(H1.out _).mono ?_;rintro e w2 ⟨rfl,aC⟩;obtain⟨z0,z1,z2,z3,z4⟩:=(ae pJ.out aC).oR;have X2:=sh (lj.out.trans (aC.mono lj.out.size));have R2:=sh (rV.out.below aC);clear aC;go_wp2_with fail
  (with_reducible refine(T8.out _).mono ?_)
  rintro e w3 ⟨rfl,aN⟩;have U0:IT w2.heap.size w2 w3:=((BY w2.heap.size w2).alloc (AS _) _).trans (aN.mono (by simp));have X3:=sh (X2.out.trans (U0.mono X2.out.size));have R3:=sh (R2.out.below U0);clear aN U0 z0 z1 z2 z3 z4;go_wp2_with (first
   | (go_at_call 177;refine(Lc.out _ R3.out).mono ?_;rintro e w' ⟨rfl,rfl⟩)
   | (go_at_call 175;(with_reducible refine(T9.out _).mono ?_);rintro e w5 ⟨rfl,cV⟩;have X5:=sh ((X3.out.alloc X3.out.size (.cells #[.int .i64 (sm:Int),.int .i64 4] 268)).trans (cV.mono (by have:=X3.out.size;simp;omega)));clear cV)
   | (go_at_call 176;refine(sF.out _).mono ?_;rintro e w6 ⟨rfl,ga⟩)
   | fail)
  go_ret2
  exact⟨by rw[jO.out.1,jO.out.2];rfl,X5.out.trans (ga.mono X5.out.size)⟩
end Go.Proofs.YtjbcbnemdhbhbaaGreatDoor
