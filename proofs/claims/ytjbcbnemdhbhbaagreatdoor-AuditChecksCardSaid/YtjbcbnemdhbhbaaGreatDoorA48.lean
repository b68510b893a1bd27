import Derived.Test.YtjbcbnemdhbhbaaGreatDoorA46
import Derived.Test.YtjbcbnemdhbhbaaGreatDoorA47
set_option maxRecDepth 100000
set_option linter.unusedVariables false
set_option linter.unusedSimpArgs false
set_option maxHeartbeats 40000000
open Go renaming Calls→aaf,World→AI
open Go.Instr renaming field→agF
open Go.Lib renaming hid→sh
open Go.RowKit renaming Below→IT
open Go.RowKit.Below renaming refl→BY
open List renaming length_map→IS
namespace Go.Proofs.YtjbcbnemdhbhbaaGreatDoor
open Go.Proofs.Tryz
open Go.RowKit
theorem Qo{w:AI}{d:Di}(h:fs w d):aaf prog 22 #[.pointer (some ⟨d.b,0,none⟩)] w (tE (vo d.s.live) w):=by
 obtain⟨b,q,r,f,g,T,Sf,P,s,fr,pv,gW,wv⟩:=d;have c1:w.cell? ⟨b,1,none⟩=some (.pointer (some ⟨r,0,none⟩)):=h.top.cell 1;have lb:b<w.heap.size:=h.top.lt;have HA:=sh (B5 r s w h.rd);clear h;simp only at HA |-;go_enter func22,ntmps22
 go_wp2_with fail
 refine HA.out.mono ?_;rintro e w1 ⟨v,rfl,h1,h2⟩;have HE:=sh (show tE (vo s.live) w (.returned v) w1 from ⟨v,rfl,h1,h2⟩);clear h1 h2;go_wp2_with fail
 go_ret
 exact HE.out
theorem Jm:vo St.empty.live=[]:=by simp[St.live,St.liveK,St.empty,vo]
def Ss (txn aa live free trees keys:Nat):Array Value:= #[.int .i64 txn,.int .i64 ((aa-1:Nat):Int),.int .i64 (live:Nat),.int .i64 (free:Nat),.int .i64 0,.int .i64 0,.int .i64 (trees:Nat),.int .i64 (keys:Nat)]
structure AuC (w0:AI) (b:Nat) (rv:Value) (R:List Tl3) (txn aa free trees:Nat) (rr ff ll:Int) (W:AI):Prop where
 eF:∀W',IT W.heap.size W W'->aaf prog 14 #[.pointer (some ⟨b,0,none⟩)] W' (xb ⟨txn,rr,ff,aa,ll⟩ W')
 LZ:∀W',IT W.heap.size W W'->aaf prog 21 #[.pointer (some ⟨b,0,none⟩)] W' (fun e w'=>IT W'.heap.size W' w'/\∃(A:Option Addr) (c:Nat),e= .returned (.slice A free c))
 abz:∀W',IT W.heap.size W W'->aaf prog 22 #[.pointer (some ⟨b,0,none⟩)] W' (fun e w'=>IT W'.heap.size W' w'/\∃(A:Option Addr) (c:Nat),e= .returned (.slice A 0 c))
 names:∀W',IT W.heap.size W W'->aaf prog 32 #[rv] W' (fun e w'=>IT W'.heap.size W' w'/\∃(A:Option Addr) (c:Nat),e= .returned (.slice A trees c))
 below:IT w0.heap.size w0 W
theorem Ls{w0:AI}{b n P V g c:Nat}{R:List Tl3}{W:AI}(h:Hn w0 b n P V (.slice (some ⟨g,0,none⟩) R.length c) R W)(hn:n<=1000)(hf:jK P V):
  aaf prog 31 #[.pointer (some ⟨b,0,none⟩)] W (fun e w'=>∃(txn aa live free trees:Nat) (rr ff ll:Int),e= .returned (.tuple #[.agg (Ss txn aa live free trees R.length),.int .i64 0])/\live+free+1=aa/\aa<=200/\AuC w0 b (.slice (some ⟨g,0,none⟩) R.length c) R txn aa free trees rr ff ll w'):=by
 obtain⟨d,Sd,D,σ,Fo,aa,rfl,h2,h3,h4,h5,h6,h7⟩:=h;have hp:=h3.plain;have hR:=J0 hp.ok hp.R h4.two;have MV:R.length<=30:=by
  rw[<-h5,Forest.CF];have:=h4.size;have:=hf.1;omega
 have GC:=hp.ok.B8;have pR:=h4.two.len hp.ok;have hlen:=hp.perm.length_eq;rw[uT]at hlen;simp only[List.length_append,Fr.pg,IS]at hlen;have eW:=hp.one;refine(DI h3 h2 hn (by rw[hR,h5];omega) (by omega)).mono ?_;rintro e w' ⟨rfl,bB,fw⟩;have Mz:=E4 hp.ok hp.R h4.two;rw[h5]at Mz;have qY:0≠d.r:=fun e=>by
  have h1:=h3.row 0 (by omega);have h2:=h3.db.rd.cell 0;rw[<-e]at h2;exact absurd (h1.symm.trans h2) (by simp[St.cells])
 have Xs:=h6.go (X':=[]) bB (fun x hx=> .inl (by rw[List.mem_singleton]at hx;subst hx;simp[Di.blocks])) (fun x hx=>(by cases hx));have hm:d.P.m=⟨n,Fo.main.root,(d.gW.headD 0:Nat),aa,200⟩:=hp.m;have yX:IT w0.heap.size w0 w':=⟨Xs.off.os,Xs.off.tape,Xs.off.output,Xs.off.size,fun i hi=>by
  by_cases e:i=0
  ·subst e;exact(bB.block _ h3.row.lt (by simpa using qY)).trans h7
  ·exact Xs.off.block i hi (by simpa using e)⟩
 refine⟨n,aa,Fo.aa.length+d.gW.length,d.fr.length,Fo.main.L.length,(Fo.main.root:Nat),(d.gW.headD 0:Nat),200,?_,by omega,eW.2,⟨fun W' hb=> ?_,fun W' hb=> ?_,fun W' hb=> ?_,fun W' hb=> ?_,yX⟩⟩
 ·rw[hR,h5];rfl
 ·have:=lI (fw.below hb)
  rw[hm]at this;exact this
 ·refine(Gf (fw.below hb) (by omega)).mono ?_
  rintro e w2 ⟨k1,A,c2,rfl,-⟩;exact⟨k1,A,c2,rfl⟩
 ·refine(Qo (fw.below hb)).mono ?_
  rintro e w2 ⟨v,rfl,k1,k2⟩;rw[h2,Jm]at k1;obtain⟨A,c2,rfl,-,-⟩:=aV k1;exact⟨k2,A,c2,rfl⟩
 ·refine(Fv (Xs.own.below hb) (by omega)).mono ?_
  rintro e w2 ⟨g2,c2,rfl,hs⟩;rw[Mz,IS];exact⟨hs.below,_,_,rfl⟩
theorem qe{A:Option Addr}{c0:Nat}{l:List Ac}(w:AI)(h:Sl w A (lL l))(hc:c0<=maxLen)(hl:l.length<=c0)(cZ:∀a∈l,a.key.size<=maxLen/\a.val.size<=maxLen)(hr:aS w):aaf prog 6 #[.slice A l.length c0] w (Holds w):=by
 have HA:=sh (DG w hr);have HFE:=sh fun(W:AI) (hb:IT w.heap.size w W)=>Qy (h.below hb) hc hl (fun a ha=>(cZ a ha).2);have DA:=sh fun(W:AI) (hb:IT w.heap.size w W) (hf:ef (l.take 80)<=60)=>C2 (hr.below hb) (h.below hb) hc hl cZ hf;clear h hc cZ hr;go_enter func6,ntmps6
 go_wp2_with fail
 refine HA.out.mono ?_;rintro e w1 ⟨rfl,ar⟩;have bh:=sh ar;have WX:=sh (HFE.out w1 ar);clear ar;by_cases hf:ef (l.take 80)<=60
 ·rw[decide_eq_true hf]at WX
  have F2:=sh (DA.out w1 bh.out hf);go_wp2_with fail
  refine WX.out.mono ?_;rintro e w2 ⟨rfl,rfl⟩;go_wp2_with fail
  refine F2.out.mono ?_;rintro e w3 ⟨b,n,P,V,g,c,R,rfl,gn,hn,hs⟩;have HCK:=sh (Ls hs (by omega) gn);clear gn hn hs;go_wp2_with fail
  refine HCK.out.mono ?_;rintro e w4 ⟨txn,aa,live,free,trees,rr,ff,ll,rfl,GA,ais,hC⟩;have HC:=sh hC;clear hC;unfold Ss;obtain⟨P1,US⟩:∃P1,P1=aa-1:=⟨_,rfl⟩;rw[<-US];have hwp:IntKind.i64.wrap ((aa:Int)-1)=(P1:Int):=by rw[show (aa:Int)-1=(P1:Int)by omega];exact wrap_i64 _ (by omega)
  have oZ:(aa:Int)-1=(P1:Int):=by omega
  have EK:IntKind.i64.wrap (P1:Int)=(P1:Int):=wrap_i64 _ (by omega);have Dj:IntKind.i64.wrap ((live:Int)+(free:Int))=(P1:Int):=by rw[show (live:Int)+(free:Int)=(P1:Int)by omega];exact wrap_i64 _ (by omega)
  have hlp:(live:Int)+(free:Int)=(P1:Int):=by omega
  have z1:((live:Int)+(free:Int)==(P1:Int))=true:=by rw[show (live:Int)+(free:Int)=(P1:Int)by omega];exact beq_self_eq_true _
  have Xt:∀W:AI,Sem.run prog (agF 40 (.agg #[.int .i64 txn,.int .i64 rr,.int .i64 ff,.int .i64 aa,.int .i64 ll]) 3) W= .ok (.int .i64 aa) W:=fun W=>by kernel_rfl
  have alQ:∀W:AI,Sem.run prog (agF 40 (.agg #[.int .i64 txn,.int .i64 rr,.int .i64 ff,.int .i64 aa,.int .i64 ll]) 0) W= .ok (.int .i64 txn) W:=fun W=>by kernel_rfl
  have HRK:=sh (show ∀W,IT (w4.alloc (.cells #[.int .i64 txn,.int .i64 (P1:Nat),.int .i64 (live:Nat),.int .i64 (free:Nat),.int .i64 0,.int .i64 0,.int .i64 (trees:Nat),.int .i64 (R.length:Nat)] 69)).heap.size (w4.alloc (.cells #[.int .i64 txn,.int .i64 (P1:Nat),.int .i64 (live:Nat),.int .i64 (free:Nat),.int .i64 0,.int .i64 0,.int .i64 (trees:Nat),.int .i64 (R.length:Nat)] 69)) W->Bk W w4.heap.size 69 #[.int .i64 txn,.int .i64 (P1:Nat),.int .i64 (live:Nat),.int .i64 (free:Nat),.int .i64 0,.int .i64 0,.int .i64 (trees:Nat),.int .i64 (R.length:Nat)] from fun W hW=>ae (Bk.new w4 _ _) hW);have mL:=sh (show IT w4.heap.size w4 (w4.alloc (.cells #[.int .i64 txn,.int .i64 (P1:Nat),.int .i64 (live:Nat),.int .i64 (free:Nat),.int .i64 0,.int .i64 0,.int .i64 (trees:Nat),.int .i64 (R.length:Nat)] 69)).drew from ((BY _ w4).alloc (Nat.le_refl _) _).drew);have rB:=sh (BY (w4.alloc (.cells #[.int .i64 txn,.int .i64 (P1:Nat),.int .i64 (live:Nat),.int .i64 (free:Nat),.int .i64 0,.int .i64 0,.int .i64 (trees:Nat),.int .i64 (R.length:Nat)] 69)).heap.size (w4.alloc (.cells #[.int .i64 txn,.int .i64 (P1:Nat),.int .i64 (live:Nat),.int .i64 (free:Nat),.int .i64 0,.int .i64 0,.int .i64 (trees:Nat),.int .i64 (R.length:Nat)] 69))).drew
  have kf:=sh (show ∀W,IT (w4.alloc (.cells #[.int .i64 txn,.int .i64 (P1:Nat),.int .i64 (live:Nat),.int .i64 (free:Nat),.int .i64 0,.int .i64 0,.int .i64 (trees:Nat),.int .i64 (R.length:Nat)] 69)).heap.size (w4.alloc (.cells #[.int .i64 txn,.int .i64 (P1:Nat),.int .i64 (live:Nat),.int .i64 (free:Nat),.int .i64 0,.int .i64 0,.int .i64 (trees:Nat),.int .i64 (R.length:Nat)] 69)) W->W.cell? ⟨w4.heap.size,0,none⟩=some (.int .i64 txn)/\W.cell? ⟨w4.heap.size,1,none⟩=some (.int .i64 (P1:Nat))/\W.cell? ⟨w4.heap.size,2,none⟩=some (.int .i64 (live:Nat))/\W.cell? ⟨w4.heap.size,3,none⟩=some (.int .i64 (free:Nat))/\W.cell? ⟨w4.heap.size,4,none⟩=some (.int .i64 0)/\W.cell? ⟨w4.heap.size,5,none⟩=some (.int .i64 0)/\W.cell? ⟨w4.heap.size,6,none⟩=some (.int .i64 (trees:Nat))/\W.cell? ⟨w4.heap.size,7,none⟩=some (.int .i64 (R.length:Nat))/\w4.heap.size<W.heap.size from fun W hW=>by
   have h9:=HRK.out W hW;obtain⟨a0,a1,a2,a3,a4,a5,a6,a7⟩:=h9.eight;exact⟨a0,a1,a2,a3,a4,a5,a6,a7,h9.lt⟩)
  clear US;go_wp2_with fail
  simp only[List.append_eq,List.cons_append,List.nil_append];go_region_held3 (fun W=>W.cell? ⟨w4.heap.size,0,none⟩=some (.int .i64 txn)/\W.cell? ⟨w4.heap.size,1,none⟩=some (.int .i64 (P1:Nat))/\W.cell? ⟨w4.heap.size,2,none⟩=some (.int .i64 (live:Nat))/\W.cell? ⟨w4.heap.size,3,none⟩=some (.int .i64 (free:Nat))/\W.cell? ⟨w4.heap.size,4,none⟩=some (.int .i64 0)/\W.cell? ⟨w4.heap.size,5,none⟩=some (.int .i64 0)/\W.cell? ⟨w4.heap.size,6,none⟩=some (.int .i64 (trees:Nat))/\W.cell? ⟨w4.heap.size,7,none⟩=some (.int .i64 (R.length:Nat))/\w4.heap.size<W.heap.size) (first|(refine kf.out _ ?_;with_reducible (first|exact rB.out|exact Dh.out|exact Pv.out|exact hs7.out|exact hs8.out|exact nu.out))|fail) (first
   | (go_at_call 14;(with_reducible refine(HC.out.eF _ mL.out).mono ?_);rintro e w5 ⟨rfl,cV⟩;have Dh:=sh (rB.out.trans (cV.mono rB.out.size));have rf:=sh (mL.out.trans (cV.mono mL.out.size));clear cV)
   | (go_at_call 14;(with_reducible refine(HC.out.eF _ rf.out).mono ?_);rintro e w6 ⟨rfl,ga⟩;have Pv:=sh (Dh.out.trans (ga.mono Dh.out.size));have rh:=sh (rf.out.trans (ga.mono rf.out.size));clear ga)
   | (go_at_call 21;(with_reducible refine(HC.out.LZ _ rh.out).mono ?_);rintro e w7 ⟨sS,A7,c7,rfl⟩;have hs7:=sh (Pv.out.trans (sS.mono Pv.out.size));have Bp:=sh (rh.out.trans (sS.mono rh.out.size));clear sS)
   | (go_at_call 32;(with_reducible refine(HC.out.names _ Bp.out).mono ?_);rintro e w8 ⟨ng,A8,c8,rfl⟩;have hs8:=sh (hs7.out.trans (ng.mono hs7.out.size));have Gy:=sh (Bp.out.trans (ng.mono Bp.out.size));clear ng)
   | (go_at_call 22;(with_reducible refine(HC.out.abz _ Gy.out).mono ?_);rintro e w9 ⟨sU,A9,c9,rfl⟩;have nu:=sh (hs8.out.trans (sU.mono hs8.out.size));have zR:=sh (Gy.out.trans (sU.mono Gy.out.size));clear sU)
   | fail)
  all_goals
   go_wp2_with fail
   go_ret
   exact⟨rfl,bh.out.trans ((HC.out.below.trans (zR.out.mono HC.out.below.size)).mono bh.out.size)⟩
 ·rw[decide_eq_false hf]at WX
  go_wp2_with fail
  refine WX.out.mono ?_;rintro e w2 ⟨rfl,rfl⟩;go_wp2_with fail
  go_ret
  exact⟨rfl,bh.out⟩
end Go.Proofs.YtjbcbnemdhbhbaaGreatDoor
