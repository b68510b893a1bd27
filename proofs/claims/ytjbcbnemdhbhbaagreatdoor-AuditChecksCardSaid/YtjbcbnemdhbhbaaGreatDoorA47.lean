import Derived.Test.YtjbcbnemdhbhbaaGreatDoorA45
set_option maxRecDepth 100000
set_option linter.unusedVariables false
set_option linter.unusedSimpArgs false
set_option maxHeartbeats 40000000
open Go renaming World→AI,maxLen→abj
open Go.Lib renaming hid→sh
open Go.RowKit renaming Below→IT
open Go.RowKit.Below renaming refl→BY
open List renaming mem_append→By,mem_map→abK
open Nat renaming le_refl→AS,zero_le→abi
namespace Go.Proofs.YtjbcbnemdhbhbaaGreatDoor
open Go.Proofs.Tryz
open Go.RowKit
def Lk (l:List Ac) (j P V:Nat):Prop:=2*P<=ef (l.take j)/\P+V<=ef (l.take j)
theorem Lk.fits{l:List Ac}{j P V:Nat}(h:Lk l j P V)(hj:j<=80)(hl:ef (l.take 80)<=60):jK P V:=by
 have:=DT l hj;obtain⟨h1,h2⟩:=h;exact⟨by omega,by omega⟩
theorem Lk.put{l:List Ac}{j P V:Nat}(h:Lk l j P V)(hj:j<l.length)(hg:l[j].gone=false)(hv:l[j].val.size<=1200):Lk l (j+1) (P+1) (V+Tr.pieces l[j].val.size):=by
 obtain⟨h1,h2⟩:=h;unfold Lk;rw[nR hj];have h3:=Cn hv;unfold Ac.cost;rw[hg,if_neg (by simp)];omega
theorem Lk.next{l:List Ac}{j P V:Nat}(h:Lk l j P V)(hj:j<l.length):Lk l (j+1) P V:=by
 obtain⟨h1,h2⟩:=h;unfold Lk;rw[nR hj];omega
theorem Bk.agn{w w':AI}{x z:Nat}{t:TypeId}{cs:Array Value}(h:Bk w x t cs)(hu:∃U,ah U w w'/\∀y∈U,y<z)(hz:z<=x):Bk w' x t cs:=by
 obtain⟨U,h1,h2⟩:=hu;exact h1.bk h (fun hm=>by have:=h2 x hm;omega)
def lB (w:AI) (e:Ending) (w':AI):Prop:=∃(b n P V g c:Nat) (R:List Tl3),e= .returned (.tuple #[.pointer (some ⟨b,0,none⟩),.slice (some ⟨g,0,none⟩) R.length c,.bool true])/\jK P V/\n<=100/\Hn w b n P V (.slice (some ⟨g,0,none⟩) R.length c) R w'
def WAt (w:AI) (b t n P V nr g c:Nat) (l:List Ac) (j:Nat) (R:List Tl3) (W:AI):Prop:=pI w W.heap.size t b n P V nr (.slice (some ⟨g,0,none⟩) R.length c) R R W/\Lk l j P V
theorem yf{w0:AI}{z t b n P V nr:Nat}{rv:Value}{R RF:List Tl3}{W:AI}(h:pI w0 z t b n P V nr rv R RF W)(hf:jK P V):RF.length<=30:=by
 obtain⟨E,S,σ,k,Fo,P0,V0,n0,a,d,v,h1,h2,h3,h4,h5,h6,h7,h8,h9,fu,zM,oc,kT⟩:=h;have g1:=fu.size;have g2:=fu.ns;have g3:=hf.1;rw[<-zM,Forest.CF];omega
theorem FB{w0:AI}{z t b n P V nr:Nat}{rv:Value}{R RF:List Tl3}{W:AI}(h:pI w0 z t b n P V nr rv R RF W):∀r∈RF,r.name.size<=1000000/\r.key.size<=1000000:=by
 obtain⟨E,S,σ,k,Fo,P0,V0,n0,a,d,v,h1,h2,h3,h4,h5,h6,h7,h8,h9,fu,zM,oc,kT⟩:=h;have eV:∀n,∀e∈(Fo.tr n).L,e.cell.key.size<=120:=fun n e he=>by
  have h9:=((h9.wr.ok.each n).nV e he).1;unfold Nd.bQ at h9;split at h9<;> · simp at h9;omega
 intro r hr;rw[<-zM]at hr;unfold Forest.rows at hr;rcases By.1 hr with hr|hr
 ·obtain⟨x,hx,rfl⟩:=abK.1 hr
  exact⟨by show eH.size<=_;decide,by show x.cell.key.size<=_;have:=eV _ x hx;omega⟩
 ·obtain⟨x,hx,rfl⟩:=abK.1 hr
  exact⟨by show eL.size<=_;decide,by show x.cell.key.size<=_;have:=eV _ x hx;omega⟩
def Sm (z:Nat) (W W':AI):Prop:=∃U,ah U W W'/\∀y∈U,y<z
theorem Sm.bk{z x:Nat}{W W':AI}{t:TypeId}{cs:Array Value}(h:Sm z W W')(hk:Bk W x t cs)(hz:z<=x):Bk W' x t cs:=hk.agn h hz
theorem Sm.af{z:Nat}{W W':AI}(h:IT W.heap.size W W'):Sm z W W':=⟨[],ah.af h [],by simp⟩
theorem Sm.trans{z:Nat}{W W' W'':AI}(h:Sm z W W')(k:Sm z W' W''):Sm z W W'':=by
 obtain⟨U,h1,h2⟩:=h;obtain⟨V,k1,k2⟩:=k;exact⟨U++V,(h1.mono (fun g hg=> .inl (by simp[hg]))).trans (k1.mono (fun g hg=> .inl (by simp[hg]))),fun y hy=>(By.1 hy).elim (h2 y) (k2 y)⟩
theorem C2{w:AI}(hr:aS w){A:Option Addr}{c0:Nat}{l:List Ac}(h:Sl w A (lL l))(hc:c0<=abj)(hl:l.length<=c0)(cZ:∀a∈l,a.key.size<=abj/\a.val.size<=abj)(hf:ef (l.take 80)<=60):
  Calls prog 30 #[.slice A l.length c0] w (lB w):=by
 have MV:0<w.heap.size:=hr.lt;have HBE:=sh fun(W:AI) (hb:IT w.heap.size w W)=>DH 200 ⟨by omega,by omega⟩ W (hr.below hb);have HA:=sh h;have HZ:=sh cZ;have HF:=sh hf;have rV:=sh hr;have Ef:c0<=9223372036854775807:=by unfold abj at hc;omega
 clear h hc cZ hf hr;go_enter func30,ntmps30
 go_wp2_with fail
 refine(HBE.out w (BY _ _)).mono ?_;rintro e w1 ⟨b,q,r,f,g0,Sf,Sd,rfl,hfa,ar,oX⟩;have HF0:=sh (Qg (rv:= .slice (some ⟨w1.heap.size,0,none⟩) 0 0) rV.out hfa ar oX ((BY _ w1).alloc (AS _) (.cells #[] 143)) (World.ownsRow_lit w1 #[] 0 (AS _) (by unfold abj;omega) rfl));have bh:=sh (tM HF0.out (by omega) ⟨by omega,by omega⟩);clear hfa ar oX;go_wp2_with fail
 refine bh.out.mono ?_;rintro e w2 ⟨t0,rfl,kd⟩;have jO:=sh kd;clear kd;go_wp2_with fail
 go_loopw [6,7,8,9] (fun rv tv ev iv wr=>∃(j g c:Nat) (R:List Tl3) (t n P V nr:Nat),iv= .int .i64 j/\j<=l.length/\j<=80/\rv= .slice (some ⟨g,0,none⟩) R.length c/\tv= .pointer (some ⟨t,0,none⟩)/\ev= .int .i64 0/\nr<=j/\n<=j+1/\Hid (WAt w b t n P V nr g c l j R wr)) (fun _ _ _ iv _=>80-(intOf iv).toNat)
 case atStart=>exact⟨0,_,0,[],t0,1,0,0,0,rfl,abi _,by omega,rfl,rfl,rfl,AS _,AS _,sh ⟨jO.out,⟨abi _,abi _⟩⟩⟩
 case round=>
  obtain⟨j,g,c,R,t,n,P,V,nr,rfl,hj,Xq,rfl,rfl,rfl,nk,hn,HS⟩:=hrel;have T4:=sh (HS.out.2.fits Xq HF.out);by_cases aH:j<l.length
  ·have z1: decide ((j:Int)<(l.length:Int))=true:=decide_eq_true (by omega)
   by_cases qs:j<80
   ·have z2:decide ((j:Int)<80)=true:=decide_eq_true (by omega)
    have fJ:Sl wr A (lL l):=HA.out.below HS.out.1.all;obtain⟨ab,ao,rfl,oU,q0,q1,q2,q3,q4⟩:=Gb fJ j aH;have Dm:=HZ.out _ (List.getElem_mem aH);have hfj:=(HS.out.2.next aH).fits (by omega) HF.out;have hpu:=HS.out.2.put aH;have oo:=HS.out.2.next aH;obtain⟨x,hx⟩:∃x,x=l[j]:=⟨_,rfl⟩;rw[<-hx]at q0 q1 q2 q3 q4 Dm hpu;obtain⟨xn,xk,xv,xg,xf⟩:=x;simp only at q0 q1 q2 q3 q4 Dm hpu;have W9:=sh hpu;have nA:=sh oo;have HFJ:=sh hfj;have ia:xk.size<=9223372036854775807:=by have:=Dm.1;unfold abj at this;omega
    have Wk:xv.size<=9223372036854775807:=by have:=Dm.2;unfold abj at this;omega
    have ZA:IT wr.heap.size wr (wr.alloc (.cells #[.int .i64 xn,.string xk,.string xv,.bool xg,.bool xf] 137)):=(BY _ wr).alloc (AS _) _;have HSX:=sh (HS.out.1.below ZA);have HX:=sh (Bk.new wr 137 #[.int .i64 xn,.string xk,.string xv,.bool xg,.bool xf]);clear fJ Dm hfj hpu oo hx ZA;have fh:(decide ((xk.size:Int)<1)=true/\xk.size<1)\/(decide ((xk.size:Int)<1)=false/\decide ((120:Int)<(xk.size:Int))=true/\1<=xk.size)\/(decide ((xk.size:Int)<1)=false/\decide ((120:Int)<(xk.size:Int))=false/\decide ((1200:Int)<(xv.size:Int))=true/\1<=xk.size)\/
      (decide ((xk.size:Int)<1)=false/\decide ((120:Int)<(xk.size:Int))=false/\decide ((1200:Int)<(xv.size:Int))=false/\1<=xk.size/\xk.size<=120/\xv.size<=1200):=by
     by_cases h1:xk.size<1
     ·exact .inl ⟨decide_eq_true (by omega),h1⟩
     ·by_cases h2:120<xk.size
      ·exact .inr (.inl ⟨decide_eq_false (by omega),decide_eq_true (by omega),by omega⟩)
      ·by_cases h3:1200<xv.size
       ·exact .inr (.inr (.inl ⟨decide_eq_false (by omega),decide_eq_false (by omega),decide_eq_true (by omega),by omega⟩))
       ·exact .inr (.inr (.inr ⟨decide_eq_false (by omega),decide_eq_false (by omega),decide_eq_false (by omega),by omega,by omega,by omega⟩))
    rcases fh with⟨z3,-⟩|⟨z3,z4,-⟩|⟨z3,z4,z5,-⟩|⟨z3,z4,z5,dy,bR,BO⟩
    case inr.inr.inr=>
     have Se:Hid ((xf=true/\True)\/(xf=false/\((j:Int)==((l.length:Int)-1))=true/\True)\/(xf=false/\((j:Int)==((l.length:Int)-1))=false/\((j:Int)==79)=true/\True)\/(xf=false/\((j:Int)==((l.length:Int)-1))=false/\((j:Int)==79)=false)):=by
      show _\/_;cases xf with
      | true=>exact .inl ⟨rfl,trivial⟩
      | false=>
       cases h1:((j:Int)==((l.length:Int)-1))with
       | true=>exact .inr (.inl ⟨rfl,rfl,trivial⟩)
       | false=>
        cases h2:((j:Int)==79)with
        | true=>exact .inr (.inr (.inl ⟨rfl,rfl,rfl,trivial⟩))
        | false=>exact .inr (.inr (.inr ⟨rfl,rfl,rfl⟩))
     have Ym:=sh fun(W:AI)=>Ic xn W;have bD:=sh (show ∀W,Sm wr.heap.size (wr.alloc (.cells #[.int .i64 xn,.string xk,.string xv,.bool xg,.bool xf] 137)) W->W.cell? ⟨wr.heap.size,0,none⟩=some (.int .i64 xn)/\W.cell? ⟨wr.heap.size,1,none⟩=some (.string xk)/\W.cell? ⟨wr.heap.size,2,none⟩=some (.string xv) from fun W hW=>by
      have hk:=hW.bk HX.out (AS _);exact⟨hk.cell 0,hk.cell 1,hk.cell 2⟩)
     obtain⟨nm,sr⟩:∃nm,nm=lC xn:=⟨_,rfl⟩;have VK:=DL xn;rw[<-sr]at Ym VK;have gP:=sh VK;have hXl:=HX.out.lt;generalize UX:wr.alloc (.cells #[.int .i64 xn,.string xk,.string xv,.bool xg,.bool xf] 137)=W1 at HSX HX bD hXl;have Um:=sh (show Sm wr.heap.size W1 W1.drew from Sm.af (BY _ _).drew);have XK:=sh ((BY W1.heap.size W1).drew);clear sr VK;cases xg with
     | true=>
      have WU:=sh fun(W:AI) (hb:IT W1.heap.size W1 W)=>UD (HSX.out.below hb) (by omega) nm xk gP.out T4.out;subst UX;go_wp2_with fail
      go_region_held3 (fun W=>W.cell? ⟨wr.heap.size,0,none⟩=some (.int .i64 xn)/\W.cell? ⟨wr.heap.size,1,none⟩=some (.string xk)) (first|(refine(fun h=>⟨h.1,h.2.1⟩) (bD.out _ ?_);with_reducible (first|exact Um.out|exact bR.out))|fail) (first
       | (go_at_call 82;(with_reducible refine(Ym.out _).mono ?_);rintro e wN ⟨rfl,rfl⟩)
       | (go_at_call 81;(with_reducible refine(WU.out _ XK.out).mono ?_);rintro e w2 ⟨ok,rfl,nr2,alW,kd,M1⟩;have jO:=sh kd;have bR:=sh (Um.out.trans M1);clear kd M1)
       | fail)
      go_wp2_with fail
      have YA:=sh (vf (jO.out.own.below (BY w2.heap.size w2).drew) (by have:=yf HS.out.1 T4.out;omega) nm xk);have KM:=sh ((BY w2.heap.size w2).drew);have K9:=sh (bR.out.trans (Sm.af KM.out));go_wp2_with fail
      go_region_held3 (fun W=>W.cell? ⟨wr.heap.size,0,none⟩=some (.int .i64 xn)/\W.cell? ⟨wr.heap.size,1,none⟩=some (.string xk)) (first|(refine(fun h=>⟨h.1,h.2.1⟩) (bD.out _ ?_);with_reducible (first|exact K9.out|exact cO.out))|fail) (first
       | (go_at_call 82;(with_reducible refine(Ym.out _).mono ?_);rintro e wN ⟨rfl,rfl⟩)
       | (go_at_call 83;(with_reducible refine YA.out.mono ?_);rintro e w3 ⟨aN,g3,c3,rfl,ax⟩;have cO:=sh (K9.out.trans (Sm.af aN));have du:=sh (KM.out.trans aN);have im:=sh ax;clear aN ax)
       | fail)
      obtain⟨R4,Zn⟩:∃R4,R4=Tl3.del nm xk R:=⟨_,rfl⟩;have Pu:=jO.out.rows du.out im.out;rw[<-Zn]at Pu |-;have vN:=sh Pu;have KX:=nA;have PM:=HFJ;have Us:=sh (cO.out.bk HX.out (AS _));obtain⟨P4,Zm⟩:∃P4,P4=P:=⟨_,rfl⟩;obtain⟨V4,Zt⟩:∃V4,V4=V:=⟨_,rfl⟩;rw[<-Zm,<-Zt]at vN KX PM;obtain⟨Ru,MF⟩:∃Ru,Ru=nr2:=⟨_,rfl⟩;have aaD:Ru<=j+1:=by omega
      rw[<-MF]at vN;generalize w3=W4 at vN Us |-;generalize g3=g4 at vN |-;generalize c3=c4 at vN |-;clear Zn Zm Zt MF;have dO:=Us.out;have y4:W4.cell? ⟨wr.heap.size,4,none⟩=some (.bool xf):=dO.cell 4;have lx4:=dO.lt;clear dO;rcases Se.out with⟨rfl,-⟩|⟨rfl,z5,-⟩|⟨rfl,z5,z6,-⟩|⟨rfl,z5,z6⟩
      case inr.inr.inr=>
       go_wp2_with fail
       go_roundw
       case rel=>exact⟨j+1,g4,c4,R4,t,n,P4,V4,Ru,by go_num,by omega,by omega,rfl,rfl,rfl,by omega,by omega,sh ⟨vN.out.top,KX.out⟩⟩
       case measure=>simp[intOf];omega
      all_goals
       have Ae:=sh (mC MV vN.out (by omega) PM.out);go_wp2_with fail
       refine Ae.out.mono ?_;rintro e w5 ⟨rfl,Dh⟩;have Dw:=sh (tM Dh (by omega) PM.out);clear Dh;go_wp2_with fail
       refine Dw.out.mono ?_;rintro e w6 ⟨t6,rfl,Pv⟩;have HS6:=sh Pv;clear Pv;go_wp2_with fail
       go_roundw
       case rel=>exact⟨j+1,g4,c4,R4,t6,n+1,P4,V4,0,by go_num,by omega,by omega,rfl,rfl,rfl,by omega,by omega,sh ⟨HS6.out,KX.out⟩⟩
       case measure=>simp[intOf];omega
     | false=>
      have hrp:=W9.out rfl BO;have Z2:=hrp.fits (by omega) HF.out;have HRP:=sh hrp;have HFP:=sh Z2;have WU:=sh fun(W:AI) (hb:IT W1.heap.size W1 W)=>UE (HSX.out.below hb) (by omega) nm xk xv gP.out dy bR BO Z2;clear hrp Z2;subst UX;go_wp2_with fail
      go_region_held3 (fun W=>W.cell? ⟨wr.heap.size,0,none⟩=some (.int .i64 xn)/\W.cell? ⟨wr.heap.size,1,none⟩=some (.string xk)/\W.cell? ⟨wr.heap.size,2,none⟩=some (.string xv)) (first|(refine bD.out _ ?_;with_reducible (first|exact Um.out|exact bR.out))|fail) (first
       | (go_at_call 82;(with_reducible refine(Ym.out _).mono ?_);rintro e wN ⟨rfl,rfl⟩)
       | (go_at_call 12;(with_reducible refine(WU.out _ XK.out).mono ?_);rintro e w2 ⟨rfl,kd,M1⟩;have jO:=sh kd;have bR:=sh (Um.out.trans M1);clear kd M1)
       | fail)
      go_wp2_with fail
      have YA:=sh (FA (jO.out.own.below (BY w2.heap.size w2).drew) (by have:=yf HS.out.1 T4.out;omega) (FB HS.out.1) ⟨nm,xk,xv⟩);have KM:=sh ((BY w2.heap.size w2).drew);have K9:=sh (bR.out.trans (Sm.af KM.out));go_wp2_with fail
      go_region_held3 (fun W=>W.cell? ⟨wr.heap.size,0,none⟩=some (.int .i64 xn)/\W.cell? ⟨wr.heap.size,1,none⟩=some (.string xk)/\W.cell? ⟨wr.heap.size,2,none⟩=some (.string xv)) (first|(refine bD.out _ ?_;with_reducible (first|exact K9.out|exact cO.out))|fail) (first
       | (go_at_call 82;(with_reducible refine(Ym.out _).mono ?_);rintro e wN ⟨rfl,rfl⟩)
       | (go_at_call 84;(with_reducible refine YA.out.mono ?_);rintro e w3 ⟨aN,g3,c3,rfl,ax⟩;have cO:=sh (K9.out.trans (Sm.af aN));have du:=sh (KM.out.trans aN);have im:=sh ax;clear aN ax)
       | fail)
      obtain⟨R4,Zn⟩:∃R4,R4=Tl3.put ⟨nm,xk,xv⟩ R:=⟨_,rfl⟩;have Pu:=jO.out.rows du.out im.out;rw[<-Zn]at Pu |-;have vN:=sh Pu;have KX:=HRP;have PM:=HFP;have Us:=sh (cO.out.bk HX.out (AS _));obtain⟨P4,Zm⟩:∃P4,P4=P+1:=⟨_,rfl⟩;obtain⟨V4,Zt⟩:∃V4,V4=V+Tr.pieces xv.size:=⟨_,rfl⟩;rw[<-Zm,<-Zt]at vN KX PM;obtain⟨Ru,MF⟩:∃Ru,Ru=nr+1:=⟨_,rfl⟩;have aaD:Ru<=j+1:=by omega
      rw[<-MF]at vN;generalize w3=W4 at vN Us |-;generalize g3=g4 at vN |-;generalize c3=c4 at vN |-;clear Zn Zm Zt MF;have dO:=Us.out;have y4:W4.cell? ⟨wr.heap.size,4,none⟩=some (.bool xf):=dO.cell 4;have lx4:=dO.lt;clear dO;rcases Se.out with⟨rfl,-⟩|⟨rfl,z5,-⟩|⟨rfl,z5,z6,-⟩|⟨rfl,z5,z6⟩
      case inr.inr.inr=>
       go_wp2_with fail
       go_roundw
       case rel=>exact⟨j+1,g4,c4,R4,t,n,P4,V4,Ru,by go_num,by omega,by omega,rfl,rfl,rfl,by omega,by omega,sh ⟨vN.out.top,KX.out⟩⟩
       case measure=>simp[intOf];omega
      all_goals
       have Ae:=sh (mC MV vN.out (by omega) PM.out);go_wp2_with fail
       refine Ae.out.mono ?_;rintro e w5 ⟨rfl,Dh⟩;have Dw:=sh (tM Dh (by omega) PM.out);clear Dh;go_wp2_with fail
       refine Dw.out.mono ?_;rintro e w6 ⟨t6,rfl,Pv⟩;have HS6:=sh Pv;clear Pv;go_wp2_with fail
       go_roundw
       case rel=>exact⟨j+1,g4,c4,R4,t6,n+1,P4,V4,0,by go_num,by omega,by omega,rfl,rfl,rfl,by omega,by omega,sh ⟨HS6.out,KX.out⟩⟩
       case measure=>simp[intOf];omega
    all_goals
     have sJ:=sh (show WAt w b t n P V nr g c l (j+1) R (wr.alloc (.cells #[.int .i64 xn,.string xk,.string xv,.bool xg,.bool xf] 137)) from ⟨HSX.out.top,nA.out⟩);go_wp2_with fail
     go_roundw
     case rel=>exact⟨j+1,g,c,R,t,n,P,V,nr,by go_num,by omega,by omega,rfl,rfl,rfl,by omega,by omega,sJ⟩
     case measure=>simp[intOf];omega
   ·have z2:decide ((j:Int)<80)=false:=decide_eq_false (by omega)
    have Ae:=sh (mC MV HS.out.1 (by omega) T4.out);clear HS;go_wp2_with fail
    refine Ae.out.mono ?_;rintro e w5 ⟨rfl,Dh⟩;have HE:=sh (show lB w (.returned (.tuple #[.pointer (some ⟨b,0,none⟩),.slice (some ⟨g,0,none⟩) R.length c,.bool true])) w5 from ⟨b,n+1,P,V,g,c,R,rfl,T4.out,by omega,Dh⟩);clear Dh;go_wp2_with fail
    go_ret3
    exact HE.out
  ·have z1:decide ((j:Int)<(l.length:Int))=false:=decide_eq_false (by omega)
   have Ae:=sh (mC MV HS.out.1 (by omega) T4.out);clear HS;go_wp2_with fail
   refine Ae.out.mono ?_;rintro e w5 ⟨rfl,Dh⟩;have HE:=sh (show lB w (.returned (.tuple #[.pointer (some ⟨b,0,none⟩),.slice (some ⟨g,0,none⟩) R.length c,.bool true])) w5 from ⟨b,n+1,P,V,g,c,R,rfl,T4.out,by omega,Dh⟩);clear Dh;go_wp2_with fail
   go_ret3
   exact HE.out
end Go.Proofs.YtjbcbnemdhbhbaaGreatDoor
