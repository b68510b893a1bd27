/- The statement AuditListsCardSaid: rollbooklaw12.AuditLists returns true for every input, and its arguments read as before, where the listed variables hold what the text lays in them (tied). -/
import Derived.Test.YtjbcbnemdhbhbaaGreatDoorB49
import Derived.Test.YtjbcbnemdhbhbaaGreatDoorB40
import Derived.Test.YtjbcbnemdhbhbaaGreatDoorB45
import Derived.Test.YtjbcbnemdhbhbaaGreatDoorB46
import Derived.Test.YtjbcbnemdhbhbaaGreatDoorB23
import Derived.Test.YtjbcbnemdhbhbaaGreatDoorB48
import Derived.Test.YtjbcbnemdhbhbaaGreatDoorB39
import Derived.Test.YtjbcbnemdhbhbaaGreatDoorCards
import Derived.Test.YtjbcbnemdhbhbaaGreatDoorB8
import Derived.Test.YtjbcbnemdhbhbaaGreatDoorB50
import Derived.Shelf.Vars
set_option maxRecDepth 100000
set_option linter.unusedVariables false
set_option linter.unusedSimpArgs false
set_option maxHeartbeats 40000000
open Go renaming Calls→aag,Value→IS,World→AI
open Go.Lib renaming hid→sh
open Go.RowKit renaming Below→No
open Go.RowKit.Below renaming refl→IN
open Go.Value renaming string→acH
open Go.World.ownsRow renaming lt→abr
open List renaming length_map→aae,mem_cons→IT,mem_map→abO,mem_singleton→By
open Option.some renaming inj→adW
namespace Go.Proofs.YtjbcbnemdhbhbaaGreatDoor
open Go.Proofs.Tryz
open Go.RowKit
theorem NR{F:Forest}{σ :ag}(h:F.Ok σ):PE F.rows:=by
 have eW:∀n,∀y∈(F.tr n).L,y.cell.key.size<=120/\(⟨y.val.toArray⟩:ByteArray).size<=4000:=fun n y hy=>by
  have wO:=(h.each n).nE y hy;have e1:(⟨y.val.toArray⟩:ByteArray).size=y.val.length:=by simp[ByteArray.size]
  rw[e1];have h9:=wO.1;constructor
  ·unfold Nd.aY at h9
   split at h9<;> · simp at h9;omega
  ·rcases wO.2 with⟨g1,-,g2⟩|⟨g1,-,g2⟩
   ·unfold Nd.aY at h9
    rw[if_pos g1]at h9;have e2:y.cell.val.data.toList.length=y.cell.val.size:=Array.length_toList;rw[g2];simp at h9;omega
   ·unfold Nd.aY at h9
    rw[if_neg g1]at h9;simp at h9;omega
 intro r hr;unfold Forest.rows at hr;rcases List.mem_append.1 hr with hr|hr
 ·obtain⟨x,hx,rfl⟩:=abO.1 hr
  exact⟨by show eE.size<=_;decide,eW _ x hx⟩
 ·obtain⟨x,hx,rfl⟩:=abO.1 hr
  exact⟨by show eI.size<=_;decide,eW _ x hx⟩
structure zn (w0:AI) (z sp:Nat) (rv:IS) (R:List Tl3) (W:AI):Prop where
 at_:∃d Sd D σ Fo txn aa limit w,C6 w d Sd D σ Fo txn aa limit sp 0 ⟨some (txn:Int),none,none,none⟩ W/\vV D d.P d.fr d.m7 σ Fo txn aa limit/\Fo.Dt/\Fo.rows=R/\txn<=1000/\sp∉d.blocks/\d.r<z/\w0.heap.size<=d.r/\(∀g,rv.ownBlock=some g->g≠d.r)
 len:R.length<=30
 own:eD W w0.heap.size rv R
 below:No w0.heap.size w0 W
 max:fA w0
 spz:sp<z
 sp0:w0.heap.size<=sp
 ap:∀g,rv.ownBlock=some g->g≠sp
 z:z<=W.heap.size
theorem zn.under{w0:AI}{z sp:Nat}{rv:IS}{R:List Tl3}{W W':AI}(h:zn w0 z sp rv R W)(hb:No W.heap.size W W'):zn w0 z sp rv R W':=by
 obtain⟨⟨d,Sd,D,σ,Fo,txn,aa,limit,w,h1,h2⟩,h3,h4,h5,h6,h7,h8,h9,gd⟩:=h;exact⟨⟨d,Sd,D,σ,Fo,txn,aa,limit,w,h1.below hb,h2⟩,h3,h4.below hb,h5.trans (hb.mono h5.size),h6,h7,h8,h9,Nat.le_trans gd hb.size⟩
def CM (z:Nat) (v:IS) (l:List ByteArray) (W:AI):Prop:=W.ownsRow z 9 1 v l.length (jX l)
theorem CM.under{z:Nat}{v:IS}{l:List ByteArray}{W W':AI}(h:CM z v l W)(hb:No W.heap.size W W'):CM z v l W':=(ah.ae hb []).own h (by simp)
theorem CM.off{z:Nat}{v:IS}{l:List ByteArray}{W W':AI}{U:List Nat}(h:CM z v l W)(ho:ah U W W')(hU:∀x∈U,x<z):CM z v l W':=ho.own h (fun g hg hm=>by have h1:=(abr h g hg).1;have h2:=hU g hm;omega)
theorem CM.row{z:Nat}{A:Option Addr}{n c:Nat}{l:List ByteArray}{W:AI}(h:CM z (.slice A n c) l W):n=l.length/\Sl W A (l.map acH):=by
 refine⟨?_,?_⟩
 ·obtain⟨_,_,hv,-,-⟩:=bg h
  injection hv
 ·have:=Sl.eG h
  unfold jX at this;exact this
theorem CM.form{z:Nat}{v:IS}{l:List ByteArray}{W:AI}(h:CM z v l W):∃A c,v= .slice A l.length c:=by
 obtain⟨A,c,hv,-,-⟩:=bg h;exact⟨A,c,hv⟩
theorem PN{w0:AI}{b n P V g c:Nat}{R:List Tl3}{W:AI}(h:RP w0 b n P V (.slice (some ⟨g,0,none⟩) R.length c) R W)(hn:n<=1000)(hf:jF P V)(hm:fA w0):
  aag prog 15 #[.pointer (some ⟨b,0,none⟩)] W (fun e w'=>∃sp,e= .returned (.tuple #[.pointer (some ⟨sp,0,none⟩),.int .i64 0])/\zn w0 w'.heap.size sp (.slice (some ⟨g,0,none⟩) R.length c) R w'):=by
 obtain⟨d,Sd,D,σ,Fo,aa,rfl,h2,h3,h4,h5,h6,h7⟩:=h;have hp:=h3.plain;have AW:R.length<=30:=by
  rw[<-h5,Forest.Cd];have:=h4.size;have:=hf.1;omega
 have qh:0≠d.r:=fun e=>by
  have h1:=h3.row 0 (by omega);have h2:=h3.db.rd.cell 0;rw[<-e]at h2;exact absurd (h1.symm.trans h2) (by simp[St.cells])
 refine(Im h3 h2 hn).mono ?_;rintro e w' ⟨sp,rfl,F3,qo⟩;have alS:=h3.db.old d.r (by simp[Di.blocks]);have Gg:w0.heap.size<=d.r:=(h6.new d.r (by simp[Di.blocks])).resolve_left (Ne.symm qh);have jr:∀x,(Value.slice (some ⟨g,0,none⟩) R.length c).ownBlock=some x->x≠d.r:=fun x hx e=>h6.ap x hx (by rw[e];simp[Di.blocks]);have Xr:=h6.go (X':=[]) F3.off (fun x hx=> .inl (by rw[By]at hx;subst hx;simp[Di.blocks])) (fun x hx=>(by cases hx));have yo:No w0.heap.size w0 w':=⟨Xr.off.os,Xr.off.tape,Xr.off.output,Xr.off.size,fun i hi=>by
  by_cases e:i=0
  ·subst e;exact(F3.off.block _ h3.row.lt (by simpa using qh)).trans h7
  ·exact Xr.off.block i hi (by simpa using e)⟩
 have Ek:=Bk.lt F3.snap;refine⟨sp,rfl,⟨d,Sd,D,σ,Fo,n,aa,200,W,F3,hp,h4.two,h5,hn,fun hm=>by have:=h3.db.old sp hm;omega,?_,Gg,jr⟩,AW,Xr.own,yo,hm,Ek,?_,fun x hx e=> ?_,Nat.le_refl _⟩
 ·have:=F3.off.size;omega
 ·have:=h6.off.size;omega
 ·have h9:=(abr h6.own x hx).2
  omega
theorem Hj{w0:AI}{z sp:Nat}{rv:IS}{R:List Tl3}{W:AI}(h:zn w0 z sp rv R W):aag prog 35 #[.pointer (some ⟨sp,0,none⟩)] W (fun e w'=>∃v,e= .returned (.tuple #[v,.int .i64 0])/\CM z v (namesTo R R.length) w'/\No W.heap.size W w'):=by
 obtain⟨⟨d,Sd,D,σ,Fo,txn,aa,limit,w,h1,h2,h3,h4,h5,h6,h7⟩,-,-,-,-,-,-,-,hz⟩:=h;have Ta:=h2.ok.oZ;have oj:=h3.len h2.ok;refine(sS (h1.on h2 h5) (by omega)).mono ?_;rintro e w' ⟨hb,v,rfl,ho⟩;refine⟨v,rfl,?_,hb⟩;unfold CM;rw[<-h4,EE h2.ok h2.R h3];have h9:=l6 ho hz;rw[aae];have e9:jX (Fo.main.L.map (·.cell.key))=ek Fo.main.L:=by unfold jX ek;rw[List.map_map];rfl
 rw[e9];exact h9
theorem Ll{w0:AI}{z sp:Nat}{rv:IS}{R:List Tl3}{W:AI}(h:zn w0 z sp rv R W)(most:Int):aag prog 36 #[.pointer (some ⟨sp,0,none⟩),.int .i64 most] W (fun e w'=>∃v,e= .returned (.tuple #[v,.int .i64 0])/\CM z v ((R.take most.toNat).map aR) w'/\No W.heap.size W w'):=by
 obtain⟨⟨d,Sd,D,σ,Fo,txn,aa,limit,w,h1,h2,h3,h4,h5,h6,h7⟩,hl,-,kI,hm,-,-,-,hz⟩:=h;have Ta:=h2.ok.oZ;have oj:=h3.len h2.ok;have hR:=xB h2.ok h2.R h3;refine(Nc (h1.on h2 h5) (hm.below kI hm.lt) most (by omega) (by rw[hR,h4];omega)).mono ?_;rintro e w' ⟨hb,v,rfl,ho⟩;refine⟨v,rfl,?_,hb⟩;unfold CM;rw[hR,h4]at ho;have h9:=l6 ho hz;rw[aae];have e9:jX ((R.take most.toNat).map aR)=kB (R.take most.toNat):=by unfold jX kB;rw[List.map_map];rfl
 rw[e9];exact h9
theorem PR{w0:AI}{z sp:Nat}{rv:IS}{R:List Tl3}{W:AI}(h:zn w0 z sp rv R W):aag prog 37 #[.pointer (some ⟨sp,0,none⟩)] W (fun e w'=>e= .returned (.tuple #[.int .u32 (nZ R:Nat),.int .i64 0])/\No W.heap.size W w'):=by
 obtain⟨⟨d,Sd,D,σ,Fo,txn,aa,limit,w,h1,h2,h3,h4,h5,h6,h7⟩,hl,-,kI,hm,-,-,-,hz⟩:=h;have Ta:=h2.ok.oZ;have oj:=h3.len h2.ok;have hR:=xB h2.ok h2.R h3;refine(Lh (h1.on h2 h5) (hm.below kI hm.lt) (by omega) (by rw[hR,h4];omega)).mono ?_;rintro e w' ⟨hb,rfl⟩;exact⟨by rw[hR,h4],hb⟩
structure u9 (w0:AI) (sp:Nat) (rv:IS) (R:List Tl3) (W:AI):Prop where
 over:∃b i m pv,iV W sp b i m pv true
 len:R.length<=30
 fit:PE R
 own:eD W w0.heap.size rv R
 below:No w0.heap.size w0 W
theorem u9.under{w0:AI}{sp:Nat}{rv:IS}{R:List Tl3}{W W':AI}(h:u9 w0 sp rv R W)(hb:No W.heap.size W W'):u9 w0 sp rv R W':=by
 obtain⟨⟨b,i,m,pv,h1⟩,h2,h3,h4,h5⟩:=h;exact⟨⟨b,i,m,pv,af h1 hb⟩,h2,h3,h4.below hb,h5.trans (hb.mono h5.size)⟩
theorem Hi{w0:AI}{z sp:Nat}{rv:IS}{R:List Tl3}{W:AI}(h:zn w0 z sp rv R W):aag prog 18 #[.pointer (some ⟨sp,0,none⟩)] W (fun e w'=>e= .returned (.int .i64 0)/\u9 w0 sp rv R w'/\∀v l,CM z v l W->CM z v l w'):=by
 obtain⟨⟨d,Sd,D,σ,Fo,txn,aa,limit,w,h1,h2,h3,h4,h5,h6,h7,h8,h9⟩,hl,ho,kI,hm,pK,jw,oo,hz⟩:=h;have Xq:(⟨some (txn:Int),none,none,none⟩:St).leave 0=(St.empty,0):=rfl;refine(Ch h1.db h1.snap (fun hm=>h6 (by simpa[Di.blocks]using hm))).mono ?_;rintro e w' ⟨rfl,bS,gI,wR⟩;have au:eD w' w0.heap.size rv R:=bS.own ho (fun g hg hm=>by
  rcases IT.1 hm with rfl|hm
  ·exact oo _ hg rfl
  ·rw[By]at hm;exact h9 g hg hm)
 refine⟨rfl,⟨⟨_,_,_,_,wR⟩,hl,by rw[<-h4];exact NR h2.ok,au,kI.trans (bS.below kI.size (fun x hx=> ?_))⟩,fun v l hk=>hk.off bS (fun x hx=> ?_)⟩
 ·rcases IT.1 hx with rfl|hx
  ·exact jw
  ·rw[By]at hx;subst hx;exact h8
 ·rcases IT.1 hx with rfl|hx
  ·exact pK
  ·rw[By]at hx;subst hx;exact h7
theorem Hg{w0:AI}{sp:Nat}{rv:IS}{R:List Tl3}{W:AI}(h:u9 w0 sp rv R W):aag prog 35 #[.pointer (some ⟨sp,0,none⟩)] W (fun e w'=>e= .returned (.tuple #[.slice none 0 0,.int .i64 12])/\No W.heap.size W w'):=by
 obtain⟨⟨b,i,m,pv,h1⟩,-⟩:=h;refine(qM h1).mono ?_;rintro e w' ⟨rfl,rfl⟩;exact⟨rfl,IN _ _⟩
theorem Lj{w0:AI}{sp:Nat}{rv:IS}{R:List Tl3}{W:AI}(h:u9 w0 sp rv R W)(most:Int):aag prog 36 #[.pointer (some ⟨sp,0,none⟩),.int .i64 most] W (fun e w'=>e= .returned (.tuple #[.slice none 0 0,.int .i64 12])/\No W.heap.size W w'):=by
 obtain⟨⟨b,i,m,pv,h1⟩,-⟩:=h;exact I6 most h1
theorem PQ{w0:AI}{sp:Nat}{rv:IS}{R:List Tl3}{W:AI}(h:u9 w0 sp rv R W):aag prog 37 #[.pointer (some ⟨sp,0,none⟩)] W (fun e w'=>e= .returned (.tuple #[.int .u32 0,.int .i64 12])/\No W.heap.size W w'):=by
 obtain⟨⟨b,i,m,pv,h1⟩,-⟩:=h;exact Oh h1
theorem Dy{w0:AI}{sp n c:Nat}{A:Option Addr}{R:List Tl3}{W:AI}(h:u9 w0 sp (.slice A n c) R W):aag prog 32 #[.slice A n c] W (fun e w'=>∃A' c',e= .returned (.slice A' (namesTo R R.length).length c')/\Sl w' A' ((namesTo R R.length).map acH)/\No W.heap.size W w'):=by
 obtain⟨-,hl,-,ho,-⟩:=h;refine(E3 ho (by omega)).mono ?_;rintro e w' ⟨g,c',rfl,hs⟩;exact⟨_,c',rfl,Sl.eG hs.own,hs.below⟩
theorem Hh{w0:AI}{sp n c:Nat}{A:Option Addr}{R:List Tl3}{W:AI}(h:u9 w0 sp (.slice A n c) R W)(most:Int):aag prog 39 #[.slice A n c,.int .i64 most] W (fun e w'=>∃A' c',e= .returned (.slice A' ((R.take most.toNat).map aR).length c')/\Sl w' A' (((R.take most.toNat).map aR).map acH)/\No W.heap.size W w'):=by
 obtain⟨-,hl,hf,ho,-⟩:=h;refine(B8 (most:=most) ho (by omega) hf).mono ?_;rintro e w' ⟨g,m,c',rfl,rfl,hs⟩;exact⟨_,c',rfl,Sl.eG hs.own,hs.below⟩
theorem Lk{w0:AI}{sp n c:Nat}{A:Option Addr}{R:List Tl3}{W:AI}(h:u9 w0 sp (.slice A n c) R W):aag prog 40 #[.slice A n c] W (fun e w'=>e= .returned (.int .u32 (nZ R:Nat))/\No W.heap.size W w'):=by
 obtain⟨-,hl,hf,ho,-⟩:=h;exact E9 ho (by omega) hf
theorem xq{W:AI}{A B:Option Addr}{c d n:Nat}{ss:List ByteArray}(hl:n=ss.length)(hs:ss.length<=1000000)(ha:Sl W A (ss.map acH))(hb:Sl W B (ss.map acH)):aag prog 38 #[.slice A n c,.slice B n d] W (fun e w'=>e= .returned (.bool true)/\No W.heap.size W w'):=by
 subst hl;refine(Fb W A B c d ss ss hs hs ha hb).mono ?_;rintro e w' ⟨rfl,n,rfl⟩;exact⟨by simp,below_drewN (IN _ _) n⟩
theorem rP{A:Option Addr}{c0:Nat}{l:List Ac}(first:Int)(w:AI)(h:Sl w A (lG l))(hc:c0<=maxLen)(hl:l.length<=c0)(cZ:∀a∈l,a.key.size<=maxLen/\a.val.size<=maxLen)(hr:aO w)(hm:fA w):aag prog 8 #[.slice A l.length c0,.int .i64 first] w (Holds w):=by
 have HA:=sh (Du w hr);have HFE:=sh fun(W:AI) (hb:No w.heap.size w W)=>Qe (h.below hb) hc hl (fun a ha=>(cZ a ha).2);have Sn:=sh fun(W:AI) (hb:No w.heap.size w W) (hf:ed (l.take 80)<=60)=>CF (hr.below hb) (h.below hb) hc hl cZ hf;have HM:=sh hm;clear h hc cZ hr hm;go_enter func8,ntmps8
 go_wp2_with fail
 refine HA.out.mono ?_;rintro e w1 ⟨rfl,ar⟩;have bh:=sh ar;have WQ:=sh (HFE.out w1 ar);have WU:=sh (HM.out.below ar HM.out.lt);clear ar;by_cases hf:ed (l.take 80)<=60
 ·rw[decide_eq_true hf]at WQ
  have PD:=sh (Sn.out w1 bh.out hf);go_wp2_with fail
  refine WQ.out.mono ?_;rintro e w2 ⟨rfl,rfl⟩;go_wp2_with fail
  refine PD.out.mono ?_;rintro e w3 ⟨b,n,P,V,g,c,R,rfl,gf,hn,hs⟩;have xR:=sh (PN hs (by omega) gf WU.out);clear gf hn hs;obtain⟨rn,Gg⟩:∃rn,rn=R.length:=⟨_,rfl⟩;rw[<-Gg]at xR |-;have W6:=sh Gg;clear Gg;go_wp2_with fail
  refine xR.out.mono ?_;rintro e w4 ⟨sp,rfl,hS⟩;obtain⟨z,hz⟩:∃z,z=w4.heap.size:=⟨_,rfl⟩;rw[<-hz]at hS;have uM:=sh hS;have HN:=sh (Hj hS);clear hS hz xR PD;go_wp2_with fail
  refine HN.out.mono ?_;rintro e w5 ⟨v1,rfl,dw,dO⟩;obtain⟨A1,c1,rfl⟩:=dw.form;have FC:=sh dw;obtain⟨n1,gJ⟩:∃n1,n1=(namesTo R R.length).length:=⟨_,rfl⟩;rw[<-gJ]at FC |-;have dD:=sh gJ;have HS5:=sh (uM.out.under dO);have HL:=sh (Ll HS5.out first);clear gJ dw dO uM HN;go_wp2_with fail
  refine HL.out.mono ?_;rintro e w6 ⟨v2,rfl,bO,gS⟩;obtain⟨A2,c2,rfl⟩:=bO.form;have sf:=sh bO;obtain⟨n2,jv⟩:∃n2,n2=((R.take first.toNat).map aR).length:=⟨_,rfl⟩;rw[<-jv]at sf |-;have fY:=sh jv;have Un:=sh (HS5.out.under gS);have XX:=sh (FC.out.under gS);have Dl:=sh (PR Un.out);obtain⟨q,hq⟩:∃q,q=nZ R:=⟨_,rfl⟩;rw[<-hq]at Dl;have HQ:=sh hq;clear jv bO gS HS5 HL FC hq;go_wp2_with fail
  refine Dl.out.mono ?_;rintro e w7 ⟨rfl,yn⟩;have HS7:=sh (Un.out.under yn);have XY:=sh (XX.out.under yn);have XZ:=sh (sf.out.under yn);have HC:=sh (Hi HS7.out);clear yn Un Dl XX sf;go_wp2_with fail
  refine HC.out.mono ?_;rintro e w8 ⟨rfl,he8,kJ⟩;have HE8:=sh he8;have X7:=sh (kJ _ _ XY.out);have X8:=sh (kJ _ _ XZ.out);have HN8:=sh (Hg he8);clear he8 kJ HS7 HC XY XZ;go_wp2_with fail
  refine HN8.out.mono ?_;rintro e w9 ⟨rfl,jt⟩;have Pj:=sh (HE8.out.under jt);have X9:=sh (X7.out.under jt);have Ya:=sh (X8.out.under jt);have HL9:=sh (Lj Pj.out first);clear jt HE8 HN8 X7 X8;go_wp2_with fail
  refine HL9.out.mono ?_;rintro e XE ⟨rfl,Ao⟩;have TR:=sh (Pj.out.under Ao);have RU:=sh (X9.out.under Ao);have RV:=sh (Ya.out.under Ao);have YG:=sh (PQ TR.out);clear Ao Pj HL9 X9 Ya;go_wp2_with fail
  refine YG.out.mono ?_;rintro e w11 ⟨rfl,Qk⟩;have TS:=sh (TR.out.under Qk);have RW:=sh (RU.out.under Qk);have RX:=sh (RV.out.under Qk);have Uh:=sh (Dy TS.out);rw[<-dD.out]at Uh;clear Qk TR YG RU RV;go_wp2_with fail
  refine Uh.out.mono ?_;rintro e w12 ⟨A3,c3,rfl,fF,Ql⟩;have TT:=sh (TS.out.under Ql);have RY:=sh (RW.out.under Ql);have RZ:=sh (RX.out.under Ql);have hlen:=TT.out.len;have hnt:=ry R R.length;have YH:=sh (xq (c:=c1) (d:=c3) dD.out (by omega) RY.out.row.2 fF);clear Ql fF hlen hnt TS Uh RW RX;go_wp2_with fail
  refine YH.out.mono ?_;rintro e w13 ⟨rfl,U2⟩;have TU:=sh (TT.out.under U2);have R6:=sh (RZ.out.under U2);have Ui:=sh (Hh TU.out first);rw[<-fY.out]at Ui;clear U2 TT YH RY RZ;go_wp2_with fail
  refine Ui.out.mono ?_;rintro e w14 ⟨A4,c4,rfl,fF,U4⟩;have TV:=sh (TU.out.under U4);have R7:=sh (R6.out.under U4);have hlen:=TV.out.len;have YH:=sh (xq (c:=c2) (d:=c4) fY.out (by rw[aae,List.length_take];omega) R7.out.row.2 fF);clear U4 fF hlen TU Ui R6;go_wp2_with fail
  refine YH.out.mono ?_;rintro e w15 ⟨rfl,Zx⟩;have TW:=sh (TV.out.under Zx);have Uj:=sh (Lk TW.out);rw[<-HQ.out]at Uj;clear Zx TV YH R7;go_wp2_with fail
  refine Uj.out.mono ?_;rintro e w16 ⟨rfl,Zy⟩;have ada:=sh (TW.out.under Zy);clear Zy TW Uj;go_wp2_with fail
  go_ret
  exact⟨rfl,bh.out.trans (ada.out.below.mono bh.out.size)⟩
 ·rw[decide_eq_false hf]at WQ
  go_wp2_with fail
  refine WQ.out.mono ?_;rintro e w2 ⟨rfl,rfl⟩;go_wp2_with fail
  go_ret
  exact⟨rfl,bh.out⟩
end Go.Proofs.YtjbcbnemdhbhbaaGreatDoor
namespace Go.Proofs.YtjbcbnemdhbhbaaGreatDoor.auditLists
open Go.Proofs.Tryz
open Go.ChangeShapes Go.WideShapes Go.ChangeAt Go.RowKit
open Go.ChangeMaps (open_string shut_string)
variable {H:Type} {enc:TypeId×IS->H}
theorem maxOf{W:AI}(h:W.ShapedOpen prog):fA W:=
 cell_of_shapedOpen_int h (t:=3) (zero:= #[.int .i64 0]) (of_decide_eq_true (by kernel_rfl)) (by kernel_rfl) rfl (by kernel_rfl) (by kernel_rfl) underlying3
theorem OG{a:Assume}{C:Checked}{os:Os}{f:FuncId}{fn:Func}{s:ChangeSpec}{conds:List PathCond}{apart fresh handsOn again:Bool}{X:AI->Array IS->Prop}
  (hX:∀(w w':AI) (args:Array IS),w.heap=w'.heap->X w args->X w' args)
  (own:ownKnob C.prog.godebug=none) (started:os.Started) (Wm:C.prog.inits.idxOf? f=none) (Xj:C.prog.funcs[f]? =some fn)
  (witness:∃(w:AI) (tape:Tape) (i:Input),w.os=os/\(w.forCall tape i).Shaped C.prog/\i.vars=[]/\Input.okWide C.prog (w.forCall tape i) .any w.heap.size f i/\
   ((s.pre enc C.prog fn conds apart (w.forCall tape i).memory i.args/\X (w.forCall tape i).memory i.args)/\sizedMet enc C.prog fn (OpenSpec.ofChange s) apart (w.forCall tape i).memory i.args)/\a.holds C.prog (lone (Frame.enter C.prog f i.args .normal) [] (w.forCall tape i)))
  (Lz:∀(W:AI) (base:Nat) (args:Array IS) (ds gs:List (DataW H)) (before:List MemPlace),
   (∀(j:Nat) t v,fn.params[j]? =some t->args[j]? =some v->Value.okWide C.prog W .any base t v)->
   DataW.Whole enc C.prog fn.params.toList s.vars apart W args.toList ds gs before->X W args->W.ShapedOpen C.prog->
   aag C.prog f args W fun e W'=>∃v,e= .returned v/\s.post enc C.prog fn apart fresh handsOn again W args v W'):
  ReturnsInHanded a C os f .any (fun w args=>(s.pre enc C.prog fn conds apart w args/\X w args)/\sizedMet enc C.prog fn (OpenSpec.ofChange s) apart w args) (s.post enc C.prog fn apart fresh handsOn again):=by
 refine returnsInHanded_of_calls own started Wm witness ?_;intro w tape i _ hsh _ fi afG _;obtain⟨_,_,_,fn',ae8,_,_,_,_,yy⟩:=fi;obtain rfl:fn'=fn:=adW (ae8.symm.trans Xj);obtain⟨⟨⟨ds,gs,before,hw,_⟩,hx⟩,_⟩:=afG;have hw':=DataW.Whole.of_heap (w':=w.forCall tape i) (by rfl) hw;refine(Lz (w.forCall tape i) w.heap.size i.args ds gs before yy hw' (hX _ _ _ (by rfl) hx) hsh).mono fun e W' ⟨v,he,hp⟩=> ?_;subst he;exact ChangeSpec.post_blind hp
theorem lifted(os:Os)(started:os.Started)(H:Type)(enc:TypeId×IS->H):
  ReturnsInHanded {} checked os 8 .any (fun w args=>(Rows.auditListsSpec.pre enc prog f8 [] false w args/\laidMetH prog pB w)/\sizedMet enc prog f8 (OpenSpec.ofChange Rows.auditListsSpec) false w args) (Rows.auditListsSpec.post enc prog f8 false true false false):=by
 refine OG (C:=checked) (X:=fun w _=>laidMetH prog pB w) (fun _ _ _ hh h=>h.of_heap hh) agn started (by kernel_rfl) func8
  (ChangeSpec.witness_shaped (enc:=enc) (C:=checked) (os:=os) (X:=fun w _=>laidMetH prog pB w) false (World.laidAll prog os pB) #[.slice none 0 0,.int .i64 0] 8 (World.laidAll_os _ _ _) (World.shaped_of_ZipB (by kernel_rfl) (by kernel_rfl)) (by kernel_rfl) (by kernel_rfl) (by kernel_rfl) (by rw[MakeChecks.laidMetH_plain _ _ _ (by kernel_rfl)];exact laidMet_laidAll _ (by kernel_rfl) (by kernel_rfl))) ?_
 intro W base args ds gs before Tv hW hL hS;have yy:∀(j:Nat) t v,f8.params[j]? =some t->args[j]? =some v->Value.okWide prog W .any base t v:=Tv;have hW':=hW;obtain⟨p,q,Y6,hV,rfl,Z6,cg⟩:=hW;have hA:DataW.TrodAll enc prog W 0 (fun _=>true) true f8.params.toList args.toList ds p:=Y6;rw[params8]at hA yy;obtain⟨v0,vs0,d0,ds0,p0,q0,ahL,rfl,rfl,h0,r0⟩:=trodAll_cons hA;obtain⟨v1,vs1,d1,ds1,p1,q1,rfl,rfl,rfl,h1,r1⟩:=trodAll_cons r0;obtain⟨rfl,rfl,rfl⟩:=trodAll_nil r1;obtain rfl:args= #[v0,v1]:=by cases args;simp_all
 obtain⟨rfl,rfl⟩:=trodVars_none hV;have k0:=h0;have lt0:∀x∈p0,x.block<W.heap.size:=by obtain⟨m,hm⟩:=k0;exact DataW.trod_lt m _ _ _ hm
 obtain⟨A0,xs0,akr,rfl,cl0,ll0,sz0,sl0⟩:=EK (yy 0 64 v0 rfl rfl) h0;have k1:=h1;have XC:∀x∈p1,x.block<W.heap.size:=by obtain⟨m,hm⟩:=k1;exact DataW.trod_lt m _ _ _ hm
 obtain⟨a1,rfl,rfl,rfl,w1⟩:=open_int underlying3 (yy 1 3 v1 rfl rfl) h1;clear Y6 Tv;refine(rP a1 W sl0 cl0 ll0 sz0 (Rm hL) (maxOf hS)).mono fun e W' ⟨he,bel⟩=> ?_;subst he;exact⟨_,rfl,_,_,_,[],_,[],hW',trodAll_mk1 (shut_bool underlying4 _),(trodAll_cons_mk (Below.trod Bv (by kernel_rfl) (of_decide_eq_true (by kernel_rfl)) k0 bel lt0) (trodAll_cons_mk (Below.trod Bv (by kernel_rfl) (of_decide_eq_true (by kernel_rfl)) k1 bel XC) trodAll_mk0)),rfl,bel.frame _,fun h=>by cases h⟩
end Go.Proofs.YtjbcbnemdhbhbaaGreatDoor.auditLists
namespace Go.Proofs.YtjbcbnemdhbhbaaGreatDoor.auditLists
open Go.Proofs.Tryz
open Go.ChangeShapes Go.WideShapes Go.ChangeAt Go.RowKit
open Go.ChangeMaps (open_string shut_string)
theorem over:Rows.AuditListsSaid:=by
 refine OpenClaim.holds_of_wide 8 f8 ?a1 ?a2 ?a3 ?a4 ?a5 ?a6 ?a7 ⟨?b1,?b2,?b3,?b4,?b5⟩ ?c1 ?c2 ?c3 ?c4 ?c5 ?d1 func8 ?d2 (of_decide_eq_true ?d3) ?d4 (fun os started H enc _=>lifted os started H enc)
 case d4=>as_aux_lemma=>(unfold Func.isWrapper;rw[if_neg (by decide +kernel)];exact⟨rfl,rfl⟩)
 all_goals as_aux_lemma=>kernel_rfl
theorem proved:Rows.AuditListsCardSaid:=
 Claim7.holds_tied_plain_at .later [] [.data,.data,.pinned] true Rows.auditListsCard.stood.harness false
  over (fun _ h=>by cases h) (by kernel_rfl) (fun _ h=>by cases h) auditLists_row_tie rfl ⟨rfl,rfl⟩ (by kernel_rfl) rfl
  (fun f fn hf Xj=>by
   obtain rfl:f=8:=adW ((show prog.funcNamed "rollbook/rollbooklaw12.AuditLists" = some 8 by kernel_rfl).symm.trans hf) |>.symm;obtain rfl:fn=f8:=(adW (func8.symm.trans Xj)).symm;exact⟨by kernel_rfl,fun j t ht=>by
    rw[params8]at ht;have hm:t∈[64,3]:=by simpa using Array.mem_of_getElem? ht
    have eF:([64,3].all fun u=> !prog.wantsStandIn u)=true:=by kernel_rfl
    exact(show prog.wantsStandIn t=false by simpa using List.all_eq_true.1 eF t hm)⟩)
  (by kernel_rfl)
#print axioms proved
end Go.Proofs.YtjbcbnemdhbhbaaGreatDoor.auditLists
