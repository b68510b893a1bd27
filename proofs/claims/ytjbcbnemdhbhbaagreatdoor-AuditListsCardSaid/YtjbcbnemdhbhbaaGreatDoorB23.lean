import Derived.Test.YtjbcbnemdhbhbaaGreatDoorB8
set_option maxRecDepth 100000
set_option linter.unusedVariables false
set_option linter.unusedSimpArgs false
set_option maxHeartbeats 40000000
open Bool renaming and_eq_true→abM
open Go renaming Calls→aag,World→AI,bodyPost_ret→abT,results→acN
open Go.ByteArray renaming toList_eq→abY
open Go.IntWalk renaming wrap64_in→aeB
open Go.Lib renaming hid→sh
open Go.RowKit renaming Below→No
open Go.RowKit.Below renaming refl→IN,setCell→aeR
open Go.Value renaming string→acH
open Int renaming eq_ofNat_of_zero_le→ach
open List renaming append_assoc→OF,getElem?_eq_getElem→aaG,getElem?_map→acz,length_append→BY,replicate→abQ,take_of_length_le→abI,take_succ_eq_append_getElem→aaT
open Nat renaming le_refl→AS
namespace Go.Proofs.YtjbcbnemdhbhbaaGreatDoor
open Go.Proofs.Tryz
open Go.RowKit
open Go.PlainAid
def cP (t r f p l:Int):Bool:=decide (0<=t)&&decide (t<=1099511627776)&&decide (2<=l)&&decide (l<=512)&&decide (1<=p)&&decide (p<=l)&&decide (0<=r)&&decide (r<p)&&decide (0<=f)&&decide (f<p)
theorem kA{t r f p l:Int}(h:cP t r f p l=true):0<=t/\t<=1099511627776/\2<=l/\l<=512/\1<=p/\p<=l/\0<=r/\r<p/\0<=f/\f<p:=by
 unfold cP at h;simp only[abM,decide_eq_true_eq]at h;omega
theorem qy{t r f p l:Int}(h:0<=t/\t<=1099511627776/\2<=l/\l<=512/\1<=p/\p<=l/\0<=r/\r<p/\0<=f/\f<p):cP t r f p l=true:=by
 unfold cP;simp only[abM,decide_eq_true_eq];omega
def bE (t r f p l:Nat):List UInt8:=[82,79,76,76,66,79,79,75]++lays [(t,8),(r,4),(f,4),(p,4),(l,4)]
def kO (t r f p l:Nat):List UInt8:=bE t r f p l++Be.low (Crc.sum (bE t r f p l)) 4++abQ 92 0
def dq (t r f p l:Int):ByteArray:=if cP t r f p l then ⟨(kO t.toNat r.toNat f.toNat p.toNat l.toNat).toArray⟩else ⟨#[]⟩
def kN (t r f p l:Int):Int:=if cP t r f p l then 0 else 4
theorem o5(t r f p l:Nat):(bE t r f p l).length=32:=by
 unfold bE lays;simp[Be.aq]
theorem qv(t r f p l:Nat):(kO t r f p l).length=128:=by
 unfold kO;rw[BY,BY,o5,Be.aq,List.length_replicate]
theorem fk(t r f p l:Nat):kO t r f p l=[82,79,76,76,66,79,79,75]++(Be.low t 8++(Be.low r 4++(Be.low f 4++(Be.low p 4++(Be.low l 4++(Be.low (Crc.sum (bE t r f p l)) 4++abQ 92 0)))))):=by
 conv=>lhs;unfold kO
 rw[show bE t r f p l++Be.low (Crc.sum (bE t r f p l)) 4++abQ 92 0=bE t r f p l++(Be.low (Crc.sum (bE t r f p l)) 4++abQ 92 0)by rw[OF]];generalize Be.low (Crc.sum (bE t r f p l)) 4++abQ 92 0=z;unfold bE lays;simp[OF]
theorem Rc(t r f p l:Nat)(h:t<=1099511627776):Be.num (((kO t r f p l).drop 8).take 8)=t:=by
 rw[fk,gp _ _ _ 8 8 rfl (Be.aq _ _),Be.cq _ _ (by omega)]
theorem Rb(t r f p l:Nat)(h:r<512):Be.num (((kO t r f p l).drop 16).take 4)=r:=by
 rw[fk,<-OF,gp _ _ _ 16 4 (by simp[Be.aq]) (Be.aq _ _),Be.cq _ _ (by omega)]
theorem Q8(t r f p l:Nat)(h:f<512):Be.num (((kO t r f p l).drop 20).take 4)=f:=by
 rw[fk,<-OF,<-OF,gp _ _ _ 20 4 (by simp[Be.aq]) (Be.aq _ _),Be.cq _ _ (by omega)]
theorem Ra(t r f p l:Nat)(h:p<=512):Be.num (((kO t r f p l).drop 24).take 4)=p:=by
 rw[fk,<-OF,<-OF,<-OF,gp _ _ _ 24 4 (by simp[Be.aq]) (Be.aq _ _),Be.cq _ _ (by omega)]
theorem Q9(t r f p l:Nat)(h:l<=512):Be.num (((kO t r f p l).drop 28).take 4)=l:=by
 rw[fk,<-OF,<-OF,<-OF,<-OF,gp _ _ _ 28 4 (by simp[Be.aq]) (Be.aq _ _),Be.cq _ _ (by omega)]
def ka (s:ByteArray) (t r f p l:Int):Prop:=cP t r f p l=true/\dq t r f p l=s
theorem jf{t r f p l:Int}(h:cP t r f p l=true):dq t r f p l=⟨(kO t.toNat r.toNat f.toNat p.toNat l.toNat).toArray⟩:=by unfold dq;rw[h];rfl
theorem je{t r f p l:Int}(h:cP t r f p l=true):kN t r f p l=0:=by unfold kN;rw[h];rfl
theorem ru{t r f p l:Int}(h:cP t r f p l=false):dq t r f p l=⟨#[]⟩:=by unfold dq;rw[h];rfl
theorem rr{t r f p l:Int}(h:cP t r f p l=false):kN t r f p l=4:=by unfold kN;rw[h];rfl
theorem ka.says{s:ByteArray}{t r f p l:Int}(h:ka s t r f p l):
  s.size=128/\(∃q,s.data.toList=82::79::76::76::66::79::79::75::q)/\t=ai s 8 8/\r=ai s 16 4/\f=ai s 20 4/\p=ai s 24 4/\l=ai s 28 4:=by
 obtain⟨hr,hs⟩:=h;obtain⟨h1,h2,h3,h4,h5,h6,h7,h8,h9,gd⟩:=kA hr;rw[jf hr]at hs;obtain⟨tn,rfl⟩:=ach (show 0<=t by omega);obtain⟨rn,rfl⟩:=ach (show 0<=r by omega);obtain⟨fn,rfl⟩:=ach (show 0<=f by omega);obtain⟨pn,rfl⟩:=ach (show 0<=p by omega);obtain⟨ln,rfl⟩:=ach (show 0<=l by omega);simp only[Int.toNat_natCast]at hs;have hl:s.data.toList=kO tn rn fn pn ln:=by rw[<-hs]
 have e1:ai s 8 8=tn:=by unfold ai;rw[hl];exact Rc _ _ _ _ _ (by omega)
 have e2:ai s 16 4=rn:=by unfold ai;rw[hl];exact Rb _ _ _ _ _ (by omega)
 have e3:ai s 20 4=fn:=by unfold ai;rw[hl];exact Q8 _ _ _ _ _ (by omega)
 have e4:ai s 24 4=pn:=by unfold ai;rw[hl];exact Ra _ _ _ _ _ (by omega)
 have e5:ai s 28 4=ln:=by unfold ai;rw[hl];exact Q9 _ _ _ _ _ (by omega)
 refine⟨?_,⟨_,by rw[hl,fk];rfl⟩,by rw[e1],by rw[e2],by rw[e3],by rw[e4],by rw[e5]⟩;rw[<-bY,hl,qv]
def cI (s:ByteArray):Bool:=cP (ai s 8 8) (ai s 16 4) (ai s 20 4) (ai s 24 4) (ai s 28 4)&&decide (dq (ai s 8 8) (ai s 16 4) (ai s 20 4) (ai s 24 4) (ai s 28 4)=s)
def eC (s:ByteArray):Int:=if cI s then (ai s 8 8:Int)else 0
def ic (s:ByteArray):Int:=if cI s then (ai s 16 4:Int)else 0
def ia (s:ByteArray):Int:=if cI s then (ai s 20 4:Int)else 0
def ib (s:ByteArray):Int:=if cI s then (ai s 24 4:Int)else 0
def fw (s:ByteArray):Int:=if cI s then (ai s 28 4:Int)else 0
def dU (s:ByteArray):Int:=if cI s then 0 else 4
theorem uC{s:ByteArray}(h:cI s=true):ka s (ai s 8 8) (ai s 16 4) (ai s 20 4) (ai s 24 4) (ai s 28 4):=by
 unfold cI at h;simp only[abM,decide_eq_true_eq]at h;exact h
theorem GS{s:ByteArray}{t r f p l:Int}(h:ka s t r f p l):cI s=true:=by
 obtain⟨h1,h2,h3,h4,h5,h6,h7⟩:=h.says;have h8:=h;rw[h3,h4,h5,h6,h7]at h8;unfold cI;rw[h8.1,h8.2];simp
theorem Ou{s:ByteArray}{t r f p l:Int}(h:ka s t r f p l):eC s=t/\ic s=r/\ia s=f/\ib s=p/\fw s=l/\dU s=0:=by
 have hu:=GS h;obtain⟨h1,h2,h3,h4,h5,h6,h7⟩:=h.says;unfold eC ic ia ib fw dU;rw[hu];exact⟨h3.symm,h4.symm,h5.symm,h6.symm,h7.symm,rfl⟩
theorem uD{s:ByteArray}(h:cI s=false):eC s=0/\ic s=0/\ia s=0/\ib s=0/\fw s=0/\dU s=4:=by
 unfold eC ic ia ib fw dU;rw[h];exact⟨rfl,rfl,rfl,rfl,rfl,rfl⟩
def eV (s p:ByteArray):Bool:=(s.extract 0 p.size).toList==p.toList
def xX (q:Bool) (w:AI) (e:Ending) (w':AI):Prop:=e= .returned (.bool q)/\w=w'
theorem Ey(s p:ByteArray)(w:AI)(hs:s.size<=1000000)(hp:p.size<=s.size):
  aag prog 246 #[.string s,.string p] w (xX (eV s p) w):=by
 have q:decide (p.size<=s.size)=true:=by simpa using hp
 have q2:decide ((p.size:Int)<=(s.size:Int))=true:=by simp;omega
 have HE:=sh (show eV s p=((s.extract 0 p.size).toList==p.toList) from rfl);go_enter func246,ntmps246
 go_wp2_with fail
 go_ret
 exact⟨by rw[HE.out];rfl,rfl⟩
theorem gq(s p:ByteArray)(w:AI)(hs:s.size<=1000000)(hp:p.size<=s.size):
  aag prog 210 #[.string s,.string p] w (xX (eV s p) w):=by
 have H:=sh (Ey s p w hs hp);go_enter func210,ntmps210
 go_wp2_with (go_at_call 246;refine H.out.mono ?_;rintro e w' ⟨rfl,rfl⟩)
 go_ret
 exact⟨rfl,rfl⟩
def dG (s:ByteArray) (w:AI) (e:Ending) (w':AI):Prop:=
 e= .returned (.tuple #[.agg #[.int .i64 (Ox s),.int .i64 (Oy s),.int .i64 (Oz s),.string (OA s)],.int .i64 (Ow s)])/\No w.heap.size w w'
theorem jB{s:ByteArray}{w w':AI}(h:iT s=false)(hb:No w.heap.size w w'):dG s w (.returned (.tuple #[.agg #[.int .i64 0,.int .i64 0,.int .i64 0,.string ⟨#[]⟩],.int .i64 4])) w':=by
 obtain⟨h1,h2,h3,h4,h5⟩:=WL h;unfold dG;rw[h1,h2,h3,h4,h5];exact⟨rfl,hb⟩
theorem vS{s:ByteArray}{k n t:Int}{b:ByteArray}{w w':AI}(h:gO s k n t b)(hb:No w.heap.size w w'):dG s w (.returned (.tuple #[.agg #[.int .i64 k,.int .i64 n,.int .i64 t,.string b],.int .i64 0])) w':=by
 obtain⟨h1,h2,h3,h4,h5⟩:=OB h;unfold dG;rw[h1,h2,h3,h4,h5];exact⟨rfl,hb⟩
theorem JQ{s:ByteArray}(h:s.size≠512):iT s=false:=by
 cases hu:iT s with
 | false=>rfl
 | true=>exact absurd (uE hu).says.1 h
theorem Ov{s:ByteArray}(h:eV s ⟨#[82,66]⟩=false):iT s=false:=by
 cases hu:iT s with
 | false=>rfl
 | true=>
  obtain⟨_,⟨r,hr⟩,_⟩:=(uE hu).says;have:eV s ⟨#[82,66]⟩=true:=by
   unfold eV;rw[abY,abY,cV,hr];rfl
  rw[this]at h;cases h
theorem Fs{s:ByteArray}{tz:Int}(ht:tz=wrap64 (ai s 10 8)){b:ByteArray}(hb:ai s 4 2<=488/\b=s.extract 24 (24+ai s 4 2)\/488<ai s 4 2/\b=⟨#[]⟩):
  (ji (ai s 2 1) (ai s 6 4) tz b=0/\bK (ai s 2 1) (ai s 6 4) tz b=s/\gO s (ai s 2 1) (ai s 6 4) tz b)\/
  (ji (ai s 2 1) (ai s 6 4) tz b=0/\bK (ai s 2 1) (ai s 6 4) tz b≠s/\iT s=false)\/(ji (ai s 2 1) (ai s 6 4) tz b=4/\iT s=false):=by
 have key:iT s=true->gO s (ai s 2 1) (ai s 6 4) tz b:=by
  intro hu;have hp:=uE hu;have h1:=(eY hp.1);have h2:=hp.says;have e1:tz=ai s 10 8:=by rw[ht];exact aeB _ ⟨by omega,by omega⟩
  rcases hb with⟨h3,h4⟩|⟨h3,h4⟩
  ·rw[h4,e1];exact hp
  ·have:=h2.2.2.2.1;omega
 cases hr:cw (ai s 2 1) (ai s 6 4) tz b with
 | false=>
  refine .inr (.inr ⟨BL hr,?_⟩);cases hu:iT s with
  | false=>rfl
  | true=>have:=(key hu).1;rw[this]at hr;cases hr
 | true=>
  by_cases he:bK (ai s 2 1) (ai s 6 4) tz b=s
  ·exact .inl ⟨l8 hr,he,hr,he⟩
  ·refine .inr (.inl ⟨l8 hr,he,?_⟩)
   cases hu:iT s with
   | false=>rfl
   | true=>exact absurd (key hu).2 he
theorem iH(s:ByteArray)(p k:Nat):ai s p k<256 ^ k:=by
 unfold ai;refine Nat.lt_of_lt_of_le (Be.Np _) (Nat.pow_le_pow_right (by decide) ?_);rw[List.length_take];omega
theorem qH{a b:ByteArray}(h:a≠b):(a.toList==b.toList)=false:=by
 rw[abY,abY,beq_eq_false_iff_ne];exact fun e=>h (jA e)
theorem OC(s:ByteArray)(w:AI)(h:s.size≠512):aag prog 212 #[.string s] w (dG s w):=by
 have q:((s.size:Int) != 512)=true:=by simp;omega
 have HU:=sh (JQ h);clear h;go_enter func212,ntmps212
 go_wp2_with fail
 exact abT (v:= .tuple #[.agg #[.int .i64 0,.int .i64 0,.int .i64 0,.string ⟨#[]⟩],.int .i64 4]) (by simp[acN,results212,go_sem]) rfl (jB HU.out (by first|exact(IN _ _).alloc (AS _) _|exact((IN _ _).alloc (AS _) _).drew))
theorem OD(s:ByteArray)(w:AI)(h:s.size=512)(hp:eV s ⟨#[82,66]⟩=false):aag prog 212 #[.string s] w (dG s w):=by
 have q:((s.size:Int) != 512)=false:=by simp;omega
 have HU:=sh (Ov hp);have HP:=sh fun W=>gq s ⟨#[82,66]⟩ W (by omega) (by rw[h];decide);rw[hp]at HP;clear h hp;go_enter func212,ntmps212
 go_wp2_with (first|(go_at_call 210;refine(HP.out _).mono ?_;rintro e w' ⟨rfl,rfl⟩)|fail)
 exact abT (v:= .tuple #[.agg #[.int .i64 0,.int .i64 0,.int .i64 0,.string ⟨#[]⟩],.int .i64 4]) (by simp[acN,results212,go_sem]) rfl (jB HU.out (by first|exact(IN _ _).alloc (AS _) _|exact((IN _ _).alloc (AS _) _).drew))
theorem aO.zf{w:AI}(h:aO w){p:Addr}(hp:0≠p.block)(u:Value):aO (w.setCell p u):=fun k hk=>(World.cell?_of_block (Below.heap_setCell w p u _ hp)).trans (h k hk)
theorem OE(s:ByteArray)(w:AI)(hr:aO w)(h:s.size=512)(hp:eV s ⟨#[82,66]⟩=true):aag prog 212 #[.string s] w (dG s w):=by
 have q:((s.size:Int) != 512)=false:=by simp;omega
 have HP:=sh fun W=>gq s ⟨#[82,66]⟩ W (by omega) (by rw[h];decide);rw[hp]at HP;have xK:=fun W=>at_any s 2 1 W (by omega) (by decide) (by decide) (by omega);have TG:=fun W=>at_any s 6 4 W (by omega) (by decide) (by decide) (by omega);have TH:=fun W=>at_any s 10 8 W (by omega) (by decide) (by decide) (by omega);have TI:=fun W=>at_any s 4 2 W (by omega) (by decide) (by decide) (by omega);have l1:=iH s 2 1;have l2:=iH s 6 4;have l4:=iH s 4 2;rw[aeB _ ⟨by omega,by omega⟩]at xK TG TI;have aU:=Bk.new w 126 #[.int .i64 0,.int .i64 0,.int .i64 0,.string ⟨#[]⟩];have kI:No w.heap.size w (w.alloc (.cells #[.int .i64 0,.int .i64 0,.int .i64 0,.string ⟨#[]⟩] 126)):=(IN _ _).alloc (AS _) _;have lS:=hr.below kI;obtain⟨b,Iu⟩:∃b:ByteArray,ai s 4 2<=488/\b=s.extract 24 (24+ai s 4 2)\/488<ai s 4 2/\b=⟨#[]⟩:=by
  by_cases hl:ai s 4 2<=488
  ·exact⟨_,.inl ⟨hl,rfl⟩⟩
  ·exact⟨_,.inr ⟨by omega,rfl⟩⟩
 obtain⟨tz,Wa⟩:∃tz:Int,tz=wrap64 (ai s 10 8):=⟨_,rfl⟩;rw[<-Wa]at TH;have HU:=Fs Wa Iu;have Dj:=fun(W:AI) (hW:aO W)=>BM (ai s 2 1) (ai s 6 4) tz b W hW;have hpk:∃(ps:ByteArray) (pe:Int),bK (ai s 2 1) (ai s 6 4) tz b=ps/\ji (ai s 2 1) (ai s 6 4) tz b=pe:=⟨_,_,rfl,rfl⟩;obtain⟨ps,pe,Eg,Tl⟩:=hpk;unfold sP at Dj;rw[Eg,Tl]at Dj HU;clear Eg Tl Wa;generalize ai s 2 1=k at *;generalize ai s 6 4=n at *;generalize ai s 4 2=l at *;have bh:=sh (show ∀W,aag prog 211 #[.string s,.int .i64 2,.int .i64 1] W (dF (k:Int) W) from xK);have bz:=sh (show ∀W,aag prog 211 #[.string s,.int .i64 6,.int .i64 4] W (dF (n:Int) W) from TG);have dt:=sh (show ∀W,aag prog 211 #[.string s,.int .i64 10,.int .i64 8] W (dF tz W) from TH);have fx:=sh (show ∀W,aag prog 211 #[.string s,.int .i64 4,.int .i64 2] W (dF (l:Int) W) from TI);have HK:=sh Dj;have HUU:=sh HU;have qL:=sh aU;have kR:=sh kI;have rN:=sh lS;clear xK TG TH TI Dj aU kI lS hp HU l1 l2 l4 hr;have O0:(0:Int)<=24+(l:Int):=by omega
 have hlq:(decide ((l:Int)<=488)=true/\l<=488/\b=s.extract 24 (24+l))\/(decide ((l:Int)<=488)=false/\488<l/\b=⟨#[]⟩):=by
  rcases Iu with⟨h1,h2⟩|⟨h1,h2⟩
  ·exact .inl ⟨by simp;omega,h1,h2⟩
  ·exact .inr ⟨by simp;omega,h1,h2⟩
 clear Iu;have fu:(pe=4/\Hid (iT s=false))\/(pe=0/\(ps.toList==s.toList)=false/\Hid (iT s=false))\/(pe=0/\ps=s/\Hid (gO s (k:Int) (n:Int) tz b)):=by
  rcases HUU.out with⟨h1,h2,h3⟩|⟨h1,h2,h3⟩|⟨h1,h2⟩
  ·exact .inr (.inr ⟨h1,h2,h3⟩)
  ·exact .inr (.inl ⟨h1,qH h2,h3⟩)
  ·exact .inl ⟨h1,h2⟩
 clear HUU;rcases fu with⟨rfl,Uu⟩|⟨rfl,qps,Uu⟩|⟨rfl,rfl,Sa⟩;all_goals rcases hlq with⟨ql,hl,rfl⟩|⟨ql,hl,rfl⟩
 all_goals
  go_enter func212,ntmps212
  go_wp2_with (first|(go_at_call 210;refine(HP.out _).mono ?_;rintro e w' ⟨rfl,rfl⟩)|fail)
  refine(bh.out _).mono ?_;rintro e w1 ⟨rfl,ar⟩;have X1:=sh (kR.out.trans (ar.mono kR.out.size));have K1:=sh (af qL.out ar);have R1:=sh (rN.out.below ar);clear ar;go_wp2_with fail
  refine(bz.out _).mono ?_;rintro e w2 ⟨rfl,az⟩;have X2:=sh (X1.out.trans (az.mono X1.out.size));have K2:=sh (af K1.out az);have R2:=sh (R1.out.below az);clear az;go_wp2_with fail
  refine(dt.out _).mono ?_;rintro e w3 ⟨rfl,aQ⟩;have X3:=sh (X2.out.trans (aQ.mono X2.out.size));have K3:=sh (af K2.out aQ);have R3:=sh (R2.out.below aQ);clear aQ;go_wp2_with fail
  refine(fx.out _).mono ?_;rintro e w4 ⟨rfl,b7⟩;have Tb:=Bk.new w3 126 #[.int .i64 (k:Int),.int .i64 (n:Int),.int .i64 tz,.string ⟨#[]⟩];have X4:=sh ((X3.out.alloc X3.out.size (.cells #[.int .i64 (k:Int),.int .i64 (n:Int),.int .i64 tz,.string ⟨#[]⟩] 126)).trans (b7.mono (by have:=X3.out.size;simp;omega)));have K4:=sh (af (K3.out.alloc _) b7);have N4:=sh (af Tb b7);have R4:=sh ((R3.out.below ((IN _ _).alloc (AS _) _)).below b7);obtain⟨d0,d1,d2,d3⟩:=N4.out.four;have f3:=N4.out.frozen 3;clear b7 Tb;have mZ:=X3.out.size;have bL:w.heap.size<w3.heap.size:=K3.out.lt;have AW:0<w3.heap.size:=R3.out.lt;go_wp2_with fail
  first
   | (refine(HK.out _ (R4.out.zf (by simp;omega) _)).mono ?_
      rintro e w6 ⟨rfl,gS⟩;have X6:=sh ((X4.out.setCell (p:=⟨w3.heap.size,3,none⟩) (by simp;omega) _).trans (gS.mono (by have:=X4.out.size;simp[World.setCell];omega)));have K6:=sh (af (K4.out.zf (p:=⟨w3.heap.size,3,none⟩) (by simp;omega) _) gS);have N6:=sh (af (N4.out.put 3 _) gS))
   | (refine(HK.out _ R4.out).mono ?_
      rintro e w6 ⟨rfl,gS⟩;have X6:=sh (X4.out.trans (gS.mono X4.out.size));have K6:=sh (af K4.out gS);have N6:=sh (af N4.out gS))
   | fail
  clear gS d0 d1 d2 d3 f3;obtain⟨c0,c1,c2,c3⟩:=K6.out.four;have g0:=K6.out.frozen 0;have g1:=K6.out.frozen 1;have g2:=K6.out.frozen 2;have g3:=K6.out.frozen 3;obtain⟨d0,d1,d2,d3⟩:=N6.out.four;go_wp2_with fail
  first
   | exact abT (v:= .tuple #[.agg #[.int .i64 0,.int .i64 0,.int .i64 0,.string ⟨#[]⟩],.int .i64 4]) (by simp[acN,results212,go_sem, *]) rfl (jB Uu.out (by repeat (first|exact X6.out|refine aeR ?_ (by simp) _)))
   | exact abT (v:= .tuple #[.agg #[.int .i64 (k:Int),.int .i64 (n:Int),.int .i64 tz,.string _],.int .i64 0]) (by simp[acN,results212,go_sem, *]) rfl (vS Sa.out (by repeat (first|exact X6.out|refine aeR ?_ (by simp) _)))
   | (trace_state;fail)
theorem Fu(s:ByteArray)(w:AI)(hr:aO w):aag prog 212 #[.string s] w (dG s w):=by
 by_cases h:s.size=512
 ·cases hp:eV s ⟨#[82,66]⟩with
  | false=>exact OD s w h hp
  | true=>exact OE s w hr h hp
 ·exact OC s w h
abbrev jg (t r f p l:Int):Value:= .agg #[.int .i64 t,.int .i64 r,.int .i64 f,.int .i64 p,.int .i64 l]
theorem JX(n lo hi:Int)(q:Bool)(w:AI)(HE:Hid ((decide (lo<=n)&&decide (n<=hi))=q)):aag prog 230 #[.int .i64 n,.int .i64 lo,.int .i64 hi] w (xX q w):=by
 have fu:(q=true/\lo<=n/\n<=hi)\/(q=false/\lo<=n/\decide (n<=hi)=false)\/(q=false/\n<lo):=by
  have:=HE.out;cases q
  ·simp at this
   by_cases h1:lo<=n
   ·exact .inr (.inl ⟨rfl,h1,by simp;exact this h1⟩)
   ·exact .inr (.inr ⟨rfl,by omega⟩)
  ·simp at this
   exact .inl ⟨rfl,this.1,this.2⟩
 clear HE;rcases fu with⟨rfl,h1,h2⟩|⟨rfl,h1,h2⟩|⟨rfl,h1⟩;all_goals
  go_enter func230,ntmps230
  go_wp2_with fail
  go_ret
  exact⟨rfl,rfl⟩
theorem iM(n lo hi:Int)(w:AI):aag prog 230 #[.int .i64 n,.int .i64 lo,.int .i64 hi] w (xX (decide (lo<=n)&&decide (n<=hi)) w):=JX n lo hi _ w (show _=_ from rfl)
theorem B7(t r f p l:Int):cP t r f p l=((decide (0<=t)&&decide (t<=1099511627776))&&(decide (2<=l)&&decide (l<=512))&&(decide (1<=p)&&decide (p<=l))&&(decide (0<=r)&&decide (r<=p-1))&&(decide (0<=f)&&decide (f<=p-1))):=by
 unfold cP;rw[Bool.eq_iff_iff];simp only[abM,decide_eq_true_eq];omega
theorem BU(t r f p l:Int)(w:AI):aag prog 174 #[jg t r f p l] w (gb (cP t r f p l) w):=by
 have h5:=B7 t r f p l;have H1:=fun W=>iM t 0 1099511627776 W;have H2:=fun W=>iM l 2 512 W;have H3:=fun W=>iM p 1 l W;have H4:=fun W=>iM r 0 (p-1) W;have H5:=fun W=>iM f 0 (p-1) W;have hp:(decide (1<=p)&&decide (p<=l))=true->(decide (2<=l)&&decide (l<=512))=true->1<=p/\p<=512:=by
  simp only[abM,decide_eq_true_eq];omega
 generalize cP t r f p l=q at *;generalize (decide (0<=t)&&decide (t<=1099511627776))=x1 at *;generalize (decide (2<=l)&&decide (l<=512))=x2 at *;generalize (decide (1<=p)&&decide (p<=l))=x3 at *;generalize (decide (0<=r)&&decide (r<=p-1))=x4 at *;generalize (decide (0<=f)&&decide (f<=p-1))=x5 at *;have HQ:=sh h5;clear h5;have kI:No w.heap.size w (w.alloc (.cells #[.int .i64 t,.int .i64 r,.int .i64 f,.int .i64 p,.int .i64 l] 40)):=(IN _ _).alloc (AS _) _;have HB:=sh kI;have G1:=sh H1;have G2:=sh H2;have G3:=sh H3;have G4:=sh H4;have G5:=sh H5;have fu:x1=false\/(x1=true/\x2=false)\/(x1=true/\x2=true/\x3=false)\/(x1=true/\x2=true/\x3=true/\x4=false)\/(x1=true/\x2=true/\x3=true/\x4=true):=by
  cases x1<;>cases x2<;>cases x3<;>cases x4<;>simp
 clear kI H1 H2 H3 H4 H5;rcases fu with rfl|⟨rfl,rfl⟩|⟨rfl,rfl,rfl⟩|⟨rfl,rfl,rfl,rfl⟩|⟨rfl,rfl,rfl,rfl⟩;all_goals
  have HP:Hid (1<=p/\p<=512)\/True:=by first|exact .inl (hp rfl rfl)|exact .inr trivial
  first|(obtain⟨AU,qY⟩:=hp rfl rfl)|skip
  clear HP hp;go_enter func174,ntmps174
  go_wp2_with (first
   | (go_at_call 230;(with_reducible refine(G1.out _).mono ?_);rintro e w' ⟨rfl,rfl⟩)
   | (go_at_call 230;(with_reducible refine(G2.out _).mono ?_);rintro e w' ⟨rfl,rfl⟩)
   | (go_at_call 230;(with_reducible refine(G3.out _).mono ?_);rintro e w' ⟨rfl,rfl⟩)
   | (go_at_call 230;(with_reducible refine(G4.out _).mono ?_);rintro e w' ⟨rfl,rfl⟩)
   | (go_at_call 230;(with_reducible refine(G5.out _).mono ?_);rintro e w' ⟨rfl,rfl⟩)
   | fail)
  go_ret
  exact dZ (by rw[HQ.out];first|rfl|(cases x2<;>cases x3<;>cases x4<;>cases x5<;>rfl)|(cases x3<;>cases x4<;>cases x5<;>rfl)|(cases x4<;>cases x5<;>rfl)|(cases x5<;>rfl)) HB.out
def pS (t r f p l:Int) (w:AI) (e:Ending) (w':AI):Prop:=e= .returned (.tuple #[.string (dq t r f p l),.int .i64 (kN t r f p l)])/\No w.heap.size w w'
theorem Y4(t r f p l:Nat)(ht:t<=1099511627776)(hr:r<512)(hf:f<512)(hp:p<=512)(hl:l<=512):Fits [(t,8),(r,4),(f,4),(p,4),(l,4)]:=by
 intro x hx;simp only[List.mem_cons,List.not_mem_nil,or_false]at hx;rcases hx with rfl|rfl|rfl|rfl|rfl<;>refine⟨by simp,by simp,?_,?_⟩<;>simp<;>omega
theorem ED{t r f p l:Nat}(hr:cP t r f p l=true){hd ls:ByteArray}(h1:hd=⟨(bE t r f p l).toArray⟩)(h2:ls=⟨(Be.low (Crc.sum (bE t r f p l)) 4).toArray⟩):
  dq t r f p l=hd++ls++bw 92/\kN t r f p l=0:=by
 refine⟨?_,je hr⟩;subst h1 h2;rw[jf hr];apply jA;rw[aS,aS,fH];rfl
theorem qw(t r f p l:Int)(w:AI)(bc:aO w):aag prog 117 #[jg t r f p l] w (pS t r f p l w):=by
 have HR:=fun W:AI=>BU t r f p l W;have kI:No w.heap.size w (w.alloc (.cells #[.int .i64 t,.int .i64 r,.int .i64 f,.int .i64 p,.int .i64 l] 40)):=(IN _ _).alloc (AS _) _;have aU:=Bk.new w 40 #[.int .i64 t,.int .i64 r,.int .i64 f,.int .i64 p,.int .i64 l];have lS:=bc.below kI;cases hq:cP t r f p l with
 | false=>
  rw[hq]at HR;have H1:=sh HR;have HS:=sh (show dq t r f p l=⟨#[]⟩/\kN t r f p l=4 from ⟨ru hq,rr hq⟩);clear hq HR;go_enter func117,ntmps117
  go_wp2_with (first
   | (go_at_call 174;refine(H1.out _).mono ?_;rintro e w2 ⟨rfl,az⟩)
   | fail)
  go_ret2
  exact⟨by rw[HS.out.1,HS.out.2];rfl,kI.trans (az.mono kI.size)⟩
 | true=>
  rw[hq]at HR;have H1:=sh HR;obtain⟨h1,h2,h3,h4,h5,h6,h7,h8,h9,gd⟩:=kA hq;obtain⟨tn,rfl⟩:=ach (show 0<=t by omega);obtain⟨rn,rfl⟩:=ach (show 0<=r by omega);obtain⟨fn,rfl⟩:=ach (show 0<=f by omega);obtain⟨pn,rfl⟩:=ach (show 0<=p by omega);obtain⟨ln,rfl⟩:=ach (show 0<=l by omega);have gf:=Y4 tn rn fn pn ln (by omega) (by omega) (by omega) (by omega) (by omega);have OK:=fun W:AI=>sz ⟨#[82,79,76,76,66,79,79,75]⟩ W.heap.size 5 [(tn,8),(rn,4),(fn,4),(pn,4),(ln,4)] _ rfl (by simp) (by decide) (Gy W tn rn fn pn ln 8 4 4 4 4 268) gf;have Qx:(⟨#[82,79,76,76,66,79,79,75]⟩++⟨(lays [(tn,8),(rn,4),(fn,4),(pn,4),(ln,4)]).toArray⟩:ByteArray)=⟨(bE tn rn fn pn ln).toArray⟩:=by
   apply jA;rw[aS];rfl
  rw[Qx]at OK;have hhs:(⟨(bE tn rn fn pn ln).toArray⟩:ByteArray).size=32:=by rw[cA,o5]
  have Us:=fun(W:AI) (hW:aO W)=>GO ⟨(bE tn rn fn pn ln).toArray⟩ W (by rw[hhs];unfold maxLen;omega) hW;rw[show (⟨(bE tn rn fn pn ln).toArray⟩:ByteArray).data.toList=bE tn rn fn pn ln from rfl]at Us;have fF:=Og (bE tn rn fn pn ln);have HPT:=fun hd ls=>@ED tn rn fn pn ln hq hd ls;have pE:=HPT _ _ rfl rfl;clear HPT;generalize Crc.sum (bE tn rn fn pn ln)=sm at *;generalize (⟨(bE tn rn fn pn ln).toArray⟩:ByteArray)=hd at *;have Dd:=fun W:AI=>sz hd W.heap.size 1 [(sm,4)] _ rfl (by simp) (by omega) (Gx W sm 4 268) (wF sm fF);have Mj:lays [(sm,4)]=Be.low sm 4:=by unfold lays;simp
  rw[Mj]at Dd;have S9:(⟨(Be.low sm 4).toArray⟩:ByteArray).size=4:=by rw[cA,Be.aq]
  generalize (⟨(Be.low sm 4).toArray⟩:ByteArray)=ls at *;have hlc:(hd++ls:ByteArray).size=36:=by rw[ByteArray.size_append];omega
  have HF:=fun W:AI=>td (hd++ls) 128 W (by omega) (by decide);rw[hlc]at HF;generalize hd++ls=hl at *;have uL:=sh (show ∀W,aag prog 176 #[.string hl,.int .i64 128] W (gP (hl++bw 92) W) from HF);have T6:=sh (show ∀W:AI,aag prog 175 #[.string ⟨#[82,79,76,76,66,79,79,75]⟩,.slice (some ⟨W.heap.size,0,none⟩) 5 5] (W.alloc (.cells #[.int .i64 (tn:Int),.int .i64 8,.int .i64 (rn:Int),.int .i64 4,.int .i64 (fn:Int),.int .i64 4,.int .i64 (pn:Int),.int .i64 4,.int .i64 (ln:Int),.int .i64 4] 268))
   (gP hd (W.alloc (.cells #[.int .i64 (tn:Int),.int .i64 8,.int .i64 (rn:Int),.int .i64 4,.int .i64 (fn:Int),.int .i64 4,.int .i64 (pn:Int),.int .i64 4,.int .i64 (ln:Int),.int .i64 4] 268))) from OK)
  have T7:=sh (show ∀W:AI,aag prog 175 #[.string hd,.slice (some ⟨W.heap.size,0,none⟩) 1 1] (W.alloc (.cells #[.int .i64 (sm:Int),.int .i64 4] 268))
   (gP hl (W.alloc (.cells #[.int .i64 (sm:Int),.int .i64 4] 268))) from Dd)
  have Dl:=sh Us;have qL:=sh aU;have rN:=sh lS;have kR:=sh kI;have j9:=sh pE;clear OK Dd Us HF Qx Mj aU lS kI bc hq HR pE gf hlc S9 hhs;go_enter func117,ntmps117
  go_wp2_with fail
  refine(H1.out _).mono ?_;rintro e w2 ⟨rfl,az⟩;obtain⟨z0,z1,z2,z3,z4⟩:=(af qL.out az).oH;have X2:=sh (kR.out.trans (az.mono kR.out.size));have R2:=sh (rN.out.below az);clear az;go_wp2_with fail
  (with_reducible refine(T6.out _).mono ?_)
  rintro e w3 ⟨rfl,aQ⟩;have U5:No w2.heap.size w2 w3:=((IN w2.heap.size w2).alloc (AS _) _).trans (aQ.mono (by simp));have X3:=sh (X2.out.trans (U5.mono X2.out.size));have R3:=sh (R2.out.below U5);clear aQ U5 z0 z1 z2 z3 z4;go_wp2_with (first
   | (go_at_call 177;refine(Dl.out _ R3.out).mono ?_;rintro e w' ⟨rfl,rfl⟩)
   | (go_at_call 175;(with_reducible refine(T7.out _).mono ?_);rintro e w5 ⟨rfl,dO⟩;have X5:=sh ((X3.out.alloc X3.out.size (.cells #[.int .i64 (sm:Int),.int .i64 4] 268)).trans (dO.mono (by have:=X3.out.size;simp;omega)));clear dO)
   | (go_at_call 176;refine(uL.out _).mono ?_;rintro e w6 ⟨rfl,gS⟩)
   | fail)
  go_ret2
  exact⟨by rw[j9.out.1,j9.out.2];rfl,X5.out.trans (gS.mono X5.out.size)⟩
theorem abJ{x y:ByteArray}(h:¬ x=y):(x.toList==y.toList)=false:=qH h
def YW (x:Bool) (w:AI) (e:Ending) (w':AI):Prop:=e= .returned (.bool x)/\∃n,w'=w.drewN n
theorem GI{x b:Bool}{w w':AI}(h:x=b)(hw:∃n,w'=w.drewN n):YW x w (.returned (.bool b)) w':=by
 subst h;exact⟨rfl,hw⟩
theorem JK(ss tt:List ByteArray)(k:Nat)(h1:k<ss.length)(h2:k<tt.length)(h:ss.take k=tt.take k)(he:ss[k]=tt[k]):ss.take (k+1)=tt.take (k+1):=by
 rw[aaT h1,aaT h2,h,he]
theorem Hv(ss tt:List ByteArray)(k:Nat)(h1:k<ss.length)(h2:k<tt.length)(he:¬ ss[k]=tt[k]):¬ ss=tt:=by
 rintro rfl;exact he rfl
theorem Lg(ss tt:List ByteArray)(k:Nat)(h1:ss.length<=k)(hl:ss.length=tt.length)(h:ss.take k=tt.take k):ss=tt:=by
 rw[abI h1,abI (by omega)]at h;exact h
theorem Fb(w:AI)(A B:Option Addr)(c d:Nat)(ss tt:List ByteArray)(hs:ss.length<=1000000)(_ht:tt.length<=1000000)
  (ha:Sl w A (ss.map acH)) (hb:Sl w B (tt.map acH)):
  aag prog 38 #[.slice A ss.length c,.slice B tt.length d] w (YW (decide (ss=tt)) w):=by
 by_cases hl:ss.length=tt.length
 ·have h1:((ss.length:Int) != tt.length)=false:=by simp[hl]
  have HL:=sh hl;clear hl;go_enter func38,ntmps38
  go_wp2_with fail
  go_loopw [5] (fun i wr=>∃k:Nat,k<=ss.length/\i= .int .i64 k/\Hid (ss.take k=tt.take k)/\∃nq,wr=w.drewN nq) (fun i _=>ss.length-(intOf i).toNat)
  case atStart=>exact⟨0,Nat.zero_le _,rfl,rfl,0,rfl⟩
  case round=>
   obtain⟨k,hk,rfl,HT,nq,rfl⟩:=hrel;by_cases aI:k<ss.length
   ·have lN:k<tt.length:=by rw[<-HL.out];exact aI
    obtain⟨x,hx⟩:∃x,x=ss[k]:=⟨_,rfl⟩;obtain⟨y,hy⟩:∃y,y=tt[k]:=⟨_,rfl⟩;obtain⟨b1,o1,rfl,ar,rW⟩:=ha k (.string x) (by rw[acz,aaG aI,hx];rfl);obtain⟨b2,o2,rfl,az,CR⟩:=hb k (.string y) (by rw[acz,aaG lN,hy];rfl);have HX:=sh hx;have HY:=sh hy;clear hx hy;by_cases Kp:x=y
    ·have h5:(x.toList==y.toList)=true:=by simp[Kp]
     have HE:=sh (JK ss tt k aI lN HT.out (by rw[<-HX.out,<-HY.out];exact Kp));clear Kp;go_wp2_with fail
     go_quiet (fail)
     go_wp2_with fail
     go_roundw
     case rel=>exact⟨k+1,by omega,by go_num,HE,_,rfl⟩
     case measure=>simp[intOf];omega
    ·have h5:(x.toList==y.toList)=false:=abJ Kp
     have HE:=sh (decide_eq_false (Hv ss tt k aI lN (by rw[<-HX.out,<-HY.out];exact Kp)));clear Kp;go_wp2_with fail
     go_quiet (fail)
     go_wp2_with fail
     go_ret
     exact GI HE.out ⟨_,World.drewN_drewN _ _ _⟩
   ·have HE:=sh (decide_eq_true (Lg ss tt k (by omega) HL.out HT.out))
    go_wp2_with fail
    go_ret
    exact GI HE.out ⟨_,rfl⟩
 ·have h1:((ss.length:Int) != tt.length)=true:=by simp;omega
  have h2:¬ ss=tt:=fun e=>hl (by rw[e]);have h3:decide (ss=tt)=false:=by simp[h2]
  rw[h3];clear hl h2 h3;go_enter func38,ntmps38
  go_wp2_with fail
  go_ret
  exact⟨rfl,0,rfl⟩
end Go.Proofs.YtjbcbnemdhbhbaaGreatDoor
