import Derived.Test.YtjbcbnemdhbhbaaGreatDoorB47
import Derived.Test.YtjbcbnemdhbhbaaGreatDoorB50
set_option maxRecDepth 100000
set_option linter.unusedVariables false
set_option linter.unusedSimpArgs false
set_option maxHeartbeats 40000000
open Go renaming World→AI,maxLen→abi
open Go.Lib renaming hid→sh
open Go.RowKit renaming Below→No
open Go.RowKit.Below renaming refl→IN
open List renaming mem_append→AT,mem_map→abO
open Nat renaming le_refl→AS,zero_le→abc
namespace Go.Proofs.YtjbcbnemdhbhbaaGreatDoor
open Go.Proofs.Tryz
open Go.RowKit
def KZ (l:List Ac) (j P V:Nat):Prop:=2*P<=ed (l.take j)/\P+V<=ed (l.take j)
theorem KZ.fits{l:List Ac}{j P V:Nat}(h:KZ l j P V)(hj:j<=80)(hl:ed (l.take 80)<=60):jF P V:=by
 have:=DE l hj;obtain⟨h1,h2⟩:=h;exact⟨by omega,by omega⟩
theorem KZ.put{l:List Ac}{j P V:Nat}(h:KZ l j P V)(hj:j<l.length)(hg:l[j].gone=false)(hv:l[j].val.size<=1200):KZ l (j+1) (P+1) (V+Tr.pieces l[j].val.size):=by
 obtain⟨h1,h2⟩:=h;unfold KZ;rw[nA hj];have h3:=BO hv;unfold Ac.cost;rw[hg,if_neg (by simp)];omega
theorem KZ.next{l:List Ac}{j P V:Nat}(h:KZ l j P V)(hj:j<l.length):KZ l (j+1) P V:=by
 obtain⟨h1,h2⟩:=h;unfold KZ;rw[nA hj];omega
theorem Bk.agm{w w':AI}{x z:Nat}{t:TypeId}{cs:Array Value}(h:Bk w x t cs)(hu:∃U,ah U w w'/\∀y∈U,y<z)(hz:z<=x):Bk w' x t cs:=by
 obtain⟨U,h1,h2⟩:=hu;exact h1.bk h (fun hm=>by have:=h2 x hm;omega)
def ly (w:AI) (e:Ending) (w':AI):Prop:=∃(b n P V g c:Nat) (R:List Tl3),e= .returned (.tuple #[.pointer (some ⟨b,0,none⟩),.slice (some ⟨g,0,none⟩) R.length c,.bool true])/\jF P V/\n<=100/\RP w b n P V (.slice (some ⟨g,0,none⟩) R.length c) R w'
def WAt (w:AI) (b t n P V nr g c:Nat) (l:List Ac) (j:Nat) (R:List Tl3) (W:AI):Prop:=pD w W.heap.size t b n P V nr (.slice (some ⟨g,0,none⟩) R.length c) R R W/\KZ l j P V
theorem xo{w0:AI}{z t b n P V nr:Nat}{rv:Value}{R RF:List Tl3}{W:AI}(h:pD w0 z t b n P V nr rv R RF W)(hf:jF P V):RF.length<=30:=by
 obtain⟨E,S,σ,k,Fo,P0,V0,n0,a,d,v,h1,h2,h3,h4,h5,h6,h7,h8,h9,gd,CQ,oK,mW⟩:=h;have g1:=gd.size;have g2:=gd.ns;have g3:=hf.1;rw[<-CQ,Forest.Cd];omega
theorem E8{w0:AI}{z t b n P V nr:Nat}{rv:Value}{R RF:List Tl3}{W:AI}(h:pD w0 z t b n P V nr rv R RF W):∀r∈RF,r.name.size<=1000000/\r.key.size<=1000000:=by
 obtain⟨E,S,σ,k,Fo,P0,V0,n0,a,d,v,h1,h2,h3,h4,h5,h6,h7,h8,h9,gd,CQ,oK,mW⟩:=h;have gC:∀n,∀e∈(Fo.tr n).L,e.cell.key.size<=120:=fun n e he=>by
  have h9:=((h9.wr.ok.each n).nE e he).1;unfold Nd.aY at h9;split at h9<;> · simp at h9;omega
 intro r hr;rw[<-CQ]at hr;unfold Forest.rows at hr;rcases AT.1 hr with hr|hr
 ·obtain⟨x,hx,rfl⟩:=abO.1 hr
  exact⟨by show eE.size<=_;decide,by show x.cell.key.size<=_;have:=gC _ x hx;omega⟩
 ·obtain⟨x,hx,rfl⟩:=abO.1 hr
  exact⟨by show eI.size<=_;decide,by show x.cell.key.size<=_;have:=gC _ x hx;omega⟩
def Sm (z:Nat) (W W':AI):Prop:=∃U,ah U W W'/\∀y∈U,y<z
theorem Sm.bk{z x:Nat}{W W':AI}{t:TypeId}{cs:Array Value}(h:Sm z W W')(hk:Bk W x t cs)(hz:z<=x):Bk W' x t cs:=hk.agm h hz
theorem Sm.ae{z:Nat}{W W':AI}(h:No W.heap.size W W'):Sm z W W':=⟨[],ah.ae h [],by simp⟩
theorem Sm.trans{z:Nat}{W W' W'':AI}(h:Sm z W W')(k:Sm z W' W''):Sm z W W'':=by
 obtain⟨U,h1,h2⟩:=h;obtain⟨V,k1,k2⟩:=k;exact⟨U++V,(h1.mono (fun g hg=> .inl (by simp[hg]))).trans (k1.mono (fun g hg=> .inl (by simp[hg]))),fun y hy=>(AT.1 hy).elim (h2 y) (k2 y)⟩
theorem CF{w:AI}(hr:aO w){A:Option Addr}{c0:Nat}{l:List Ac}(h:Sl w A (lG l))(hc:c0<=abi)(hl:l.length<=c0)(cZ:∀a∈l,a.key.size<=abi/\a.val.size<=abi)(hf:ed (l.take 80)<=60):
  Calls prog 30 #[.slice A l.length c0] w (ly w):=by
 have AW:0<w.heap.size:=hr.lt;have HBE:=sh fun(W:AI) (hb:No w.heap.size w W)=>Dv 200 ⟨by omega,by omega⟩ W (hr.below hb);have HA:=sh h;have HZ:=sh cZ;have HF:=sh hf;have rN:=sh hr;have CR:c0<=9223372036854775807:=by unfold abi at hc;omega
 clear h hc cZ hf hr;go_enter func30,ntmps30
 go_wp2_with fail
 refine(HBE.out w (IN _ _)).mono ?_;rintro e w1 ⟨b,q,r,f,g0,Sf,Sd,rfl,hfa,ar,oO⟩;have HF0:=sh (PO (rv:= .slice (some ⟨w1.heap.size,0,none⟩) 0 0) rN.out hfa ar oO ((IN _ w1).alloc (AS _) (.cells #[] 143)) (World.ownsRow_lit w1 #[] 0 (AS _) (by unfold abi;omega) rfl));have bh:=sh (sU HF0.out (by omega) ⟨by omega,by omega⟩);clear hfa ar oO;go_wp2_with fail
 refine bh.out.mono ?_;rintro e w2 ⟨t0,rfl,jw⟩;have j9:=sh jw;clear jw;go_wp2_with fail
 go_loopw [6,7,8,9] (fun rv tv ev iv wr=>∃(j g c:Nat) (R:List Tl3) (t n P V nr:Nat),iv= .int .i64 j/\j<=l.length/\j<=80/\rv= .slice (some ⟨g,0,none⟩) R.length c/\tv= .pointer (some ⟨t,0,none⟩)/\ev= .int .i64 0/\nr<=j/\n<=j+1/\Hid (WAt w b t n P V nr g c l j R wr)) (fun _ _ _ iv _=>80-(intOf iv).toNat)
 case atStart=>exact⟨0,_,0,[],t0,1,0,0,0,rfl,abc _,by omega,rfl,rfl,rfl,AS _,AS _,sh ⟨j9.out,⟨abc _,abc _⟩⟩⟩
 case round=>
  obtain⟨j,g,c,R,t,n,P,V,nr,rfl,hj,hj2,rfl,rfl,rfl,nR,hn,HS⟩:=hrel;have TZ:=sh (HS.out.2.fits hj2 HF.out);by_cases aI:j<l.length
  ·have z1: decide ((j:Int)<(l.length:Int))=true:=decide_eq_true (by omega)
   by_cases lN:j<80
   ·have z2:decide ((j:Int)<80)=true:=decide_eq_true (by omega)
    have fF:Sl wr A (lG l):=HA.out.below HS.out.1.all;obtain⟨ab,ao,rfl,oL,q0,q1,q2,q3,q4⟩:=FN fF j aI;have CZ:=HZ.out _ (List.getElem_mem aI);have hfj:=(HS.out.2.next aI).fits (by omega) HF.out;have hpu:=HS.out.2.put aI;have pI:=HS.out.2.next aI;obtain⟨x,hx⟩:∃x,x=l[j]:=⟨_,rfl⟩;rw[<-hx]at q0 q1 q2 q3 q4 CZ hpu;obtain⟨xn,xk,xv,xg,xf⟩:=x;simp only at q0 q1 q2 q3 q4 CZ hpu;have WZ:=sh hpu;have oc:=sh pI;have HFJ:=sh hfj;have jb:xk.size<=9223372036854775807:=by have:=CZ.1;unfold abi at this;omega
    have Wc:xv.size<=9223372036854775807:=by have:=CZ.2;unfold abi at this;omega
    have ZA:No wr.heap.size wr (wr.alloc (.cells #[.int .i64 xn,.string xk,.string xv,.bool xg,.bool xf] 137)):=(IN _ wr).alloc (AS _) _;have HSX:=sh (HS.out.1.below ZA);have HX:=sh (Bk.new wr 137 #[.int .i64 xn,.string xk,.string xv,.bool xg,.bool xf]);clear fF CZ hfj hpu pI hx ZA;have fj:(decide ((xk.size:Int)<1)=true/\xk.size<1)\/(decide ((xk.size:Int)<1)=false/\decide ((120:Int)<(xk.size:Int))=true/\1<=xk.size)\/(decide ((xk.size:Int)<1)=false/\decide ((120:Int)<(xk.size:Int))=false/\decide ((1200:Int)<(xv.size:Int))=true/\1<=xk.size)\/
      (decide ((xk.size:Int)<1)=false/\decide ((120:Int)<(xk.size:Int))=false/\decide ((1200:Int)<(xv.size:Int))=false/\1<=xk.size/\xk.size<=120/\xv.size<=1200):=by
     by_cases h1:xk.size<1
     ·exact .inl ⟨decide_eq_true (by omega),h1⟩
     ·by_cases h2:120<xk.size
      ·exact .inr (.inl ⟨decide_eq_false (by omega),decide_eq_true (by omega),by omega⟩)
      ·by_cases h3:1200<xv.size
       ·exact .inr (.inr (.inl ⟨decide_eq_false (by omega),decide_eq_false (by omega),decide_eq_true (by omega),by omega⟩))
       ·exact .inr (.inr (.inr ⟨decide_eq_false (by omega),decide_eq_false (by omega),decide_eq_false (by omega),by omega,by omega,by omega⟩))
    rcases fj with⟨z3,-⟩|⟨z3,z4,-⟩|⟨z3,z4,z5,-⟩|⟨z3,z4,z5,dw,bO,Bh⟩
    case inr.inr.inr=>
     have Sh:Hid ((xf=true/\True)\/(xf=false/\((j:Int)==((l.length:Int)-1))=true/\True)\/(xf=false/\((j:Int)==((l.length:Int)-1))=false/\((j:Int)==79)=true/\True)\/(xf=false/\((j:Int)==((l.length:Int)-1))=false/\((j:Int)==79)=false)):=by
      show _\/_;cases xf with
      | true=>exact .inl ⟨rfl,trivial⟩
      | false=>
       cases h1:((j:Int)==((l.length:Int)-1))with
       | true=>exact .inr (.inl ⟨rfl,rfl,trivial⟩)
       | false=>
        cases h2:((j:Int)==79)with
        | true=>exact .inr (.inr (.inl ⟨rfl,rfl,rfl,trivial⟩))
        | false=>exact .inr (.inr (.inr ⟨rfl,rfl,rfl⟩))
     have Ym:=sh fun(W:AI)=>Hf xn W;have bH:=sh (show ∀W,Sm wr.heap.size (wr.alloc (.cells #[.int .i64 xn,.string xk,.string xv,.bool xg,.bool xf] 137)) W->W.cell? ⟨wr.heap.size,0,none⟩=some (.int .i64 xn)/\W.cell? ⟨wr.heap.size,1,none⟩=some (.string xk)/\W.cell? ⟨wr.heap.size,2,none⟩=some (.string xv) from fun W hW=>by
      have hk:=hW.bk HX.out (AS _);exact⟨hk.cell 0,hk.cell 1,hk.cell 2⟩)
     obtain⟨nm,qj⟩:∃nm,nm=lA xn:=⟨_,rfl⟩;have VH:=Dw xn;rw[<-qj]at Ym VH;have fY:=sh VH;have hXl:=HX.out.lt;generalize U0:wr.alloc (.cells #[.int .i64 xn,.string xk,.string xv,.bool xg,.bool xf] 137)=W1 at HSX HX bH hXl;have Up:=sh (show Sm wr.heap.size W1 W1.drew from Sm.ae (IN _ _).drew);have XM:=sh ((IN W1.heap.size W1).drew);clear qj VH;cases xg with
     | true=>
      have WN:=sh fun(W:AI) (hb:No W1.heap.size W1 W)=>UH (HSX.out.below hb) (by omega) nm xk fY.out TZ.out;subst U0;go_wp2_with fail
      go_region_held3 (fun W=>W.cell? ⟨wr.heap.size,0,none⟩=some (.int .i64 xn)/\W.cell? ⟨wr.heap.size,1,none⟩=some (.string xk)) (first|(refine(fun h=>⟨h.1,h.2.1⟩) (bH.out _ ?_);with_reducible (first|exact Up.out|exact bO.out))|fail) (first
       | (go_at_call 82;(with_reducible refine(Ym.out _).mono ?_);rintro e wN ⟨rfl,rfl⟩)
       | (go_at_call 81;(with_reducible refine(WN.out _ XM.out).mono ?_);rintro e w2 ⟨ok,rfl,nr2,alH,jw,MI⟩;have j9:=sh jw;have bO:=sh (Up.out.trans MI);clear jw MI)
       | fail)
      go_wp2_with fail
      have YA:=sh (uo (j9.out.own.below (IN w2.heap.size w2).drew) (by have:=xo HS.out.1 TZ.out;omega) nm xk);have KA:=sh ((IN w2.heap.size w2).drew);have KQ:=sh (bO.out.trans (Sm.ae KA.out));go_wp2_with fail
      go_region_held3 (fun W=>W.cell? ⟨wr.heap.size,0,none⟩=some (.int .i64 xn)/\W.cell? ⟨wr.heap.size,1,none⟩=some (.string xk)) (first|(refine(fun h=>⟨h.1,h.2.1⟩) (bH.out _ ?_);with_reducible (first|exact KQ.out|exact dx.out))|fail) (first
       | (go_at_call 82;(with_reducible refine(Ym.out _).mono ?_);rintro e wN ⟨rfl,rfl⟩)
       | (go_at_call 83;(with_reducible refine YA.out.mono ?_);rintro e w3 ⟨aQ,g3,c3,rfl,aw⟩;have dx:=sh (KQ.out.trans (Sm.ae aQ));have dt:=sh (KA.out.trans aQ);have jZ:=sh aw;clear aQ aw)
       | fail)
      obtain⟨R4,Zm⟩:∃R4,R4=Tl3.del nm xk R:=⟨_,rfl⟩;have IU:=j9.out.rows dt.out jZ.out;rw[<-Zm]at IU |-;have uM:=sh IU;have KL:=oc;have Pm:=HFJ;have Uv:=sh (dx.out.bk HX.out (AS _));obtain⟨P4,Zl⟩:∃P4,P4=P:=⟨_,rfl⟩;obtain⟨V4,Zr⟩:∃V4,V4=V:=⟨_,rfl⟩;rw[<-Zl,<-Zr]at uM KL Pm;obtain⟨Rj,Ms⟩:∃Rj,Rj=nr2:=⟨_,rfl⟩;have aaD:Rj<=j+1:=by omega
      rw[<-Ms]at uM;generalize w3=W4 at uM Uv |-;generalize g3=g4 at uM |-;generalize c3=c4 at uM |-;clear Zm Zl Zr Ms;have fE:=Uv.out;have y4:W4.cell? ⟨wr.heap.size,4,none⟩=some (.bool xf):=fE.cell 4;have lx4:=fE.lt;clear fE;rcases Sh.out with⟨rfl,-⟩|⟨rfl,z5,-⟩|⟨rfl,z5,z6,-⟩|⟨rfl,z5,z6⟩
      case inr.inr.inr=>
       go_wp2_with fail
       go_roundw
       case rel=>exact⟨j+1,g4,c4,R4,t,n,P4,V4,Rj,by go_num,by omega,by omega,rfl,rfl,rfl,by omega,by omega,sh ⟨uM.out.top,KL.out⟩⟩
       case measure=>simp[intOf];omega
      all_goals
       have zr:=sh (mu AW uM.out (by omega) Pm.out);go_wp2_with fail
       refine zr.out.mono ?_;rintro e w5 ⟨rfl,Kl⟩;have C8:=sh (sU Kl (by omega) Pm.out);clear Kl;go_wp2_with fail
       refine C8.out.mono ?_;rintro e w6 ⟨t6,rfl,XA⟩;have Un:=sh XA;clear XA;go_wp2_with fail
       go_roundw
       case rel=>exact⟨j+1,g4,c4,R4,t6,n+1,P4,V4,0,by go_num,by omega,by omega,rfl,rfl,rfl,by omega,by omega,sh ⟨Un.out,KL.out⟩⟩
       case measure=>simp[intOf];omega
     | false=>
      have hrp:=WZ.out rfl Bh;have Z2:=hrp.fits (by omega) HF.out;have HRP:=sh hrp;have HFP:=sh Z2;have WN:=sh fun(W:AI) (hb:No W1.heap.size W1 W)=>UI (HSX.out.below hb) (by omega) nm xk xv fY.out dw bO Bh Z2;clear hrp Z2;subst U0;go_wp2_with fail
      go_region_held3 (fun W=>W.cell? ⟨wr.heap.size,0,none⟩=some (.int .i64 xn)/\W.cell? ⟨wr.heap.size,1,none⟩=some (.string xk)/\W.cell? ⟨wr.heap.size,2,none⟩=some (.string xv)) (first|(refine bH.out _ ?_;with_reducible (first|exact Up.out|exact bO.out))|fail) (first
       | (go_at_call 82;(with_reducible refine(Ym.out _).mono ?_);rintro e wN ⟨rfl,rfl⟩)
       | (go_at_call 12;(with_reducible refine(WN.out _ XM.out).mono ?_);rintro e w2 ⟨rfl,jw,MI⟩;have j9:=sh jw;have bO:=sh (Up.out.trans MI);clear jw MI)
       | fail)
      go_wp2_with fail
      have YA:=sh (E7 (j9.out.own.below (IN w2.heap.size w2).drew) (by have:=xo HS.out.1 TZ.out;omega) (E8 HS.out.1) ⟨nm,xk,xv⟩);have KA:=sh ((IN w2.heap.size w2).drew);have KQ:=sh (bO.out.trans (Sm.ae KA.out));go_wp2_with fail
      go_region_held3 (fun W=>W.cell? ⟨wr.heap.size,0,none⟩=some (.int .i64 xn)/\W.cell? ⟨wr.heap.size,1,none⟩=some (.string xk)/\W.cell? ⟨wr.heap.size,2,none⟩=some (.string xv)) (first|(refine bH.out _ ?_;with_reducible (first|exact KQ.out|exact dx.out))|fail) (first
       | (go_at_call 82;(with_reducible refine(Ym.out _).mono ?_);rintro e wN ⟨rfl,rfl⟩)
       | (go_at_call 84;(with_reducible refine YA.out.mono ?_);rintro e w3 ⟨aQ,g3,c3,rfl,aw⟩;have dx:=sh (KQ.out.trans (Sm.ae aQ));have dt:=sh (KA.out.trans aQ);have jZ:=sh aw;clear aQ aw)
       | fail)
      obtain⟨R4,Zm⟩:∃R4,R4=Tl3.put ⟨nm,xk,xv⟩ R:=⟨_,rfl⟩;have IU:=j9.out.rows dt.out jZ.out;rw[<-Zm]at IU |-;have uM:=sh IU;have KL:=HRP;have Pm:=HFP;have Uv:=sh (dx.out.bk HX.out (AS _));obtain⟨P4,Zl⟩:∃P4,P4=P+1:=⟨_,rfl⟩;obtain⟨V4,Zr⟩:∃V4,V4=V+Tr.pieces xv.size:=⟨_,rfl⟩;rw[<-Zl,<-Zr]at uM KL Pm;obtain⟨Rj,Ms⟩:∃Rj,Rj=nr+1:=⟨_,rfl⟩;have aaD:Rj<=j+1:=by omega
      rw[<-Ms]at uM;generalize w3=W4 at uM Uv |-;generalize g3=g4 at uM |-;generalize c3=c4 at uM |-;clear Zm Zl Zr Ms;have fE:=Uv.out;have y4:W4.cell? ⟨wr.heap.size,4,none⟩=some (.bool xf):=fE.cell 4;have lx4:=fE.lt;clear fE;rcases Sh.out with⟨rfl,-⟩|⟨rfl,z5,-⟩|⟨rfl,z5,z6,-⟩|⟨rfl,z5,z6⟩
      case inr.inr.inr=>
       go_wp2_with fail
       go_roundw
       case rel=>exact⟨j+1,g4,c4,R4,t,n,P4,V4,Rj,by go_num,by omega,by omega,rfl,rfl,rfl,by omega,by omega,sh ⟨uM.out.top,KL.out⟩⟩
       case measure=>simp[intOf];omega
      all_goals
       have zr:=sh (mu AW uM.out (by omega) Pm.out);go_wp2_with fail
       refine zr.out.mono ?_;rintro e w5 ⟨rfl,Kl⟩;have C8:=sh (sU Kl (by omega) Pm.out);clear Kl;go_wp2_with fail
       refine C8.out.mono ?_;rintro e w6 ⟨t6,rfl,XA⟩;have Un:=sh XA;clear XA;go_wp2_with fail
       go_roundw
       case rel=>exact⟨j+1,g4,c4,R4,t6,n+1,P4,V4,0,by go_num,by omega,by omega,rfl,rfl,rfl,by omega,by omega,sh ⟨Un.out,KL.out⟩⟩
       case measure=>simp[intOf];omega
    all_goals
     have xR:=sh (show WAt w b t n P V nr g c l (j+1) R (wr.alloc (.cells #[.int .i64 xn,.string xk,.string xv,.bool xg,.bool xf] 137)) from ⟨HSX.out.top,oc.out⟩);go_wp2_with fail
     go_roundw
     case rel=>exact⟨j+1,g,c,R,t,n,P,V,nr,by go_num,by omega,by omega,rfl,rfl,rfl,by omega,by omega,xR⟩
     case measure=>simp[intOf];omega
   ·have z2:decide ((j:Int)<80)=false:=decide_eq_false (by omega)
    have zr:=sh (mu AW HS.out.1 (by omega) TZ.out);clear HS;go_wp2_with fail
    refine zr.out.mono ?_;rintro e w5 ⟨rfl,Kl⟩;have HE:=sh (show ly w (.returned (.tuple #[.pointer (some ⟨b,0,none⟩),.slice (some ⟨g,0,none⟩) R.length c,.bool true])) w5 from ⟨b,n+1,P,V,g,c,R,rfl,TZ.out,by omega,Kl⟩);clear Kl;go_wp2_with fail
    go_ret3
    exact HE.out
  ·have z1:decide ((j:Int)<(l.length:Int))=false:=decide_eq_false (by omega)
   have zr:=sh (mu AW HS.out.1 (by omega) TZ.out);clear HS;go_wp2_with fail
   refine zr.out.mono ?_;rintro e w5 ⟨rfl,Kl⟩;have HE:=sh (show ly w (.returned (.tuple #[.pointer (some ⟨b,0,none⟩),.slice (some ⟨g,0,none⟩) R.length c,.bool true])) w5 from ⟨b,n+1,P,V,g,c,R,rfl,TZ.out,by omega,Kl⟩);clear Kl;go_wp2_with fail
   go_ret3
   exact HE.out
end Go.Proofs.YtjbcbnemdhbhbaaGreatDoor
