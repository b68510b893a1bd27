import Derived.Test.YtjbcbnemdhbhbaaGreatDoorA40
set_option maxRecDepth 100000
set_option linter.unusedVariables false
set_option linter.unusedSimpArgs false
set_option maxHeartbeats 40000000
open Go renaming World→AI
open Go.Lib renaming hid→sh
open Go.RowKit renaming Below→IT
open Go.RowKit.Below renaming refl→BY
open List renaming mem_cons→OF,mem_singleton→IN,nodup_cons→abJ
open Nat renaming le_trans→abw
namespace Go.Proofs.YtjbcbnemdhbhbaaGreatDoor
open Go.Proofs.Tryz
open Go.RowKit
abbrev jw (b:Nat) (m:aR) (f dm rm:Nat):Array Value:=
 #[.pointer (some ⟨b,0,none⟩),.int .i64 (m.t+1),.int .i64 (m.t+1),.int .i64 m.r,.int .i64 m.f,.int .i64 m.p,.int .i64 m.l,.pointer (some ⟨f,0,none⟩),.map (some dm),.slice none 0 0,.slice none 0 0,.map (some rm),.int .i64 0,.bool false]
structure KJ (d:Di) (w w':AI) (t f dm rm:Nat) (Sf:List Nat):Prop where
 cells:Bk w' t 103 (jw d.b d.P.m f dm rm)
 free:rT w' f Sf d.fr
 map:IMap prog 3 w' dm 0 (fun _=>none)
 roots:SMap prog 9 w' rm 0 (fun _=>none)
 db:fs w' { d with wv:= .pointer (some ⟨t,0,none⟩) }
 off:ah [d.b] w w'
 new:w.heap.size<=t/\w.heap.size<=dm/\w.heap.size<=rm/\∀b∈Sf,w.heap.size<=b
 nodup:(t::dm::Sf).Nodup
 rm:rm∉t::dm::Sf
abbrev M0:Obj:= .map #[] 0
theorem iq{w w3 Wx:AI}{d:Di}(h:fs w d)(aN:IT w.heap.size w w3)(Xi:IT w3.heap.size w3 Wx){f4 dm rm:Nat}{S4:List Nat}(uj:rT Wx f4 S4 d.fr)(Xg:∀b∈S4,w3.heap.size<=b)(hdm:IMap prog 3 Wx dm 0 (fun _=>none))(Dg:SMap prog 9 Wx rm 0 (fun _=>none))(SM:dm≠rm)(Gs:w3.heap.size<=dm)(MV:w3.heap.size<=rm)(SK:dm∉S4)(hrS:rm∉S4){t:Nat}(hte:Wx.heap.size=t):
  (∃Sf,KJ d w ((Wx.alloc (.cells (jw d.b d.P.m f4 dm rm) 103)).setCell ⟨d.b,4,none⟩ (.pointer (some ⟨t,0,none⟩))) t f4 dm rm Sf)/\
  ((Wx.alloc (.cells (jw d.b d.P.m f4 dm rm) 103)).setCell ⟨d.b,4,none⟩ (.pointer (some ⟨t,0,none⟩))).cell? ⟨d.b,4,none⟩=some (.pointer (some ⟨t,0,none⟩))/\d.b<((Wx.alloc (.cells (jw d.b d.P.m f4 dm rm) 103)).setCell ⟨d.b,4,none⟩ (.pointer (some ⟨t,0,none⟩))).heap.size:=by
 subst hte;have eE:IT w.heap.size w Wx:=aN.trans (Xi.mono aN.size);have zV:=aN.size;have sf:IT w.heap.size w (Wx.alloc (.cells (jw d.b d.P.m f4 dm rm) 103)):=eE.alloc eE.size _;have hold:=h.old;have afV:=ae h.top sf;have bB:ah [d.b] (Wx.alloc (.cells (jw d.b d.P.m f4 dm rm) 103)) ((Wx.alloc (.cells (jw d.b d.P.m f4 dm rm) 103)).setCell ⟨d.b,4,none⟩ (.pointer (some ⟨Wx.heap.size,0,none⟩))):=(ah.refl [d.b] _).setCell (p:=⟨d.b,4,none⟩) (.inl (by simp)) _;have VP:ah [d.b] Wx ((Wx.alloc (.cells (jw d.b d.P.m f4 dm rm) 103)).setCell ⟨d.b,4,none⟩ (.pointer (some ⟨Wx.heap.size,0,none⟩))):=((ah.refl [d.b] Wx).alloc _).trans bB;have fV:d.b<w.heap.size:=h.top.lt;obtain⟨Sf,t1,t2,t3⟩:=uj.tight;have Td:∀x,w3.heap.size<=x->x∉[d.b]:=fun x hx hm=>by rw[IN]at hm;omega
 have Bi:=Xi.size;refine⟨⟨Sf,bB.bk (Bk.new Wx _ _) (Td _ Bi),t3.off VP (fun b hb=>Td b (Xg b (t2 b hb))),hdm.off VP (Td _ Gs),Dg.off VP (Td _ MV),?_,(ah.af sf [d.b]).trans bB,⟨abw zV Bi,abw zV Gs,abw zV MV,fun b hb=>abw zV (Xg b (t2 b hb))⟩,?_,?_⟩,(afV.put 4 _).cell 4,?_⟩
 ·have fw:=h.below sf
  have gd:∀x,x∈d.T++(d.Sf++d.pv.ownBlock.toList)->x∉[d.b]:=fun x hx hm=>by rw[IN]at hm;subst hm;exact h.bo hx
  exact⟨fw.top.put 4 _,fw.pg.off bB (fun b hb=>gd b (by simp[hb])),bB.bk fw.rd (fun hm=>by rw[IN]at hm;exact(fw.rd.ne fw.top (by decide)) hm),fw.free.off bB (fun b hb=>gd b (by simp[hb])),bB.own fw.gW (fun b hb=>gd b (by simp[hb])),h.bo,h.ro⟩
 ·refine abJ.2 ⟨fun hm=> ?_,abJ.2 ⟨fun hm=>SK (t2 _ hm),t1⟩⟩
  rcases OF.1 hm with hm|hm
  ·have:=hdm.lt;omega
  ·have:=t3.old _ hm;omega
 ·intro hm
  rcases OF.1 hm with hm|hm
  ·have:=Dg.lt;omega
  ·rcases OF.1 hm with hm|hm
   ·exact SM hm.symm
   ·exact hrS (t2 _ hm)
 ·have:=sf.size
  simp at this |-;omega
def CY (W:AI) (a:Addr):Value:=(W.cell? a).getD (.bool false)
theorem CZ{W:AI}{a:Addr}{v:Value}(h:W.cell? a=some v):W.cell? a=some (CY W a):=by unfold CY;rw[h];rfl
theorem Below.more{a w:AI}(h:IT a.heap.size a w)(o:Obj):IT a.heap.size a (w.alloc o):=h.alloc h.size o
theorem Ie{w:AI}{d:Di}(h:fs w d)(hw:d.wv= .pointer none\/∃t cs,d.wv= .pointer (some ⟨t,0,none⟩)/\Bk w t 103 cs/\cs[13]? =some (.bool true))(hm:d.P.m.t<1099511627776)(ze:0<=d.P.m.t)(hl:d.fr.length<=1000):
  Calls prog 11 #[.pointer (some ⟨d.b,0,none⟩)] w (fun e w'=>∃t f dm rm Sf,e= .returned (.tuple #[.pointer (some ⟨t,0,none⟩),.int .i64 0])/\KJ d w w' t f dm rm Sf):=by
 have HM:=sh fun(W:AI) (hb:IT w.heap.size w W)=>lI (h.below hb);have HD:=sh h;have z1:decide ((1099511627776:Int)<=d.P.m.t)=false:=decide_eq_false (by omega);have hf0:=Nz;have c4:=h.top.cell 4;have c2:=h.top.cell 2;have lb:=h.top.lt;have sG:=sh fun(W:AI) (hb:IT w.heap.size w W)=>xw (h.free.below hb) (by omega);obtain⟨b,q,r,f,g,T,Sf,P,s,fr,pv,gW,wv⟩:=d;simp only at HM HD z1 c4 c2 lb sG hw hm ze |-;clear h hl;have kV:=@run_makeMap prog;have HL0:=sh ze;obtain⟨mt,hmt⟩:∃mt,mt=P.m.t:=⟨_,rfl⟩;have HMT:=sh hmt;have y1:IntKind.i64.wrap (P.m.t+1)=P.m.t+1:=by rw[IntKind.wrap_i64];omega
 clear hm ze hmt;have Ra:wv= .pointer none\/∃t0,wv= .pointer (some ⟨t0,0,none⟩)/\w.cell? ⟨t0,13,none⟩=some (.bool true)/\t0<w.heap.size:=by
  rcases hw with h|⟨t0,cs,h,ht,afT⟩
  ·exact .inl h
  ·exact .inr ⟨t0,h,(ht.cell 13).trans afT,ht.lt⟩
 clear hw;rcases Ra with rfl|⟨t0,rfl,q13,ltt⟩;all_goals
  go_enter func11,ntmps11
  go_wp2_with fail
  refine(HM.out _ (BY _ _)).mono ?_;rintro e w1 ⟨rfl,ar⟩;have bh:=sh ar;clear ar;go_wp2_with fail
  refine(HM.out _ bh.out).mono ?_;rintro e w2 ⟨rfl,aC⟩;have bm:=sh (bh.out.trans (aC.mono bh.out.size));clear aC;go_wp2_with fail
  have QU:=Bk.new w2 40 #[.int .i64 (P.m.t+1),.int .i64 P.m.r,.int .i64 P.m.f,.int .i64 P.m.p,.int .i64 P.m.l];have aN:IT w.heap.size w (w2.alloc (.cells #[.int .i64 (P.m.t+1),.int .i64 P.m.r,.int .i64 P.m.f,.int .i64 P.m.p,.int .i64 P.m.l] 40)):=bm.out.alloc bm.out.size _;have aas:w2.heap.size<(w2.alloc (.cells #[.int .i64 (P.m.t+1),.int .i64 P.m.r,.int .i64 P.m.f,.int .i64 P.m.p,.int .i64 P.m.l] 40)).heap.size:=by simp
  obtain⟨mb,aav⟩:∃mb,mb=w2.heap.size:=⟨_,rfl⟩;rw[<-aav]at QU aas |-;generalize w2.alloc (.cells #[.int .i64 (P.m.t+1),.int .i64 P.m.r,.int .i64 P.m.f,.int .i64 P.m.p,.int .i64 P.m.l] 40)=w3 at QU aN aas |-;have du:=sh aN;have lb3:=Nat.lt_of_lt_of_le lb aN.size;have fb4:w3.frozen? ⟨b,4,none⟩=false:=(ae HD.out.top aN).frozen 4;have bD:=sh (show ∀W,IT w3.heap.size w3 W->W.cell? ⟨mb,0,none⟩=some (.int .i64 (P.m.t+1))/\W.cell? ⟨mb,1,none⟩=some (.int .i64 P.m.r)/\W.cell? ⟨mb,2,none⟩=some (.int .i64 P.m.f)/\W.cell? ⟨mb,3,none⟩=some (.int .i64 P.m.p)/\W.cell? ⟨mb,4,none⟩=some (.int .i64 P.m.l)/\W.cell? ⟨b,2,none⟩=some (.pointer (some ⟨f,0,none⟩))/\W.frozen? ⟨b,4,none⟩=false/\W.cell? ⟨b,4,none⟩=some (CY W ⟨b,4,none⟩) from fun W hW=>by
   have k1:=ae QU hW;have k2:=ae (ae HD.out.top aN) hW;exact⟨k1.cell 0,k1.cell 1,k1.cell 2,k1.cell 3,k1.cell 4,k2.cell 2,k2.frozen 4,CZ (k2.cell 4)⟩)
  have hSb:∀W:AI,∀v:Value,IT w3.heap.size w3 W->(fun W=>W.cell? ⟨mb,0,none⟩=some (.int .i64 (P.m.t+1))/\W.cell? ⟨mb,1,none⟩=some (.int .i64 P.m.r)/\W.cell? ⟨mb,2,none⟩=some (.int .i64 P.m.f)/\W.cell? ⟨mb,3,none⟩=some (.int .i64 P.m.p)/\W.cell? ⟨mb,4,none⟩=some (.int .i64 P.m.l)/\W.cell? ⟨b,2,none⟩=some (.pointer (some ⟨f,0,none⟩))/\W.frozen? ⟨b,4,none⟩=false/\W.cell? ⟨b,4,none⟩=some (CY W ⟨b,4,none⟩)) (W.setCell ⟨b,4,none⟩ v):=fun W v hW=>by
   have k1:=ae QU hW;have k2:=ae (ae HD.out.top aN) hW;have bM:b≠mb:=k2.ne k1 (by decide);have k3:=k1.vV (p:=⟨b,4,none⟩) (fun e=>bM e.symm) v;have k4:=k2.put 4 v;exact⟨k3.cell 0,k3.cell 1,k3.cell 2,k3.cell 3,k3.cell 4,k4.cell 2,k4.frozen 4,CZ (k4.cell 4)⟩
  have YG:=sh hSb;have HFC:=sh fun(W:AI) (hW:IT w3.heap.size w3 W)=>sG.out W (du.out.trans (hW.mono du.out.size));clear aN aav QU c2 c4 fb4 hSb;go_region_held3 (fun W=>W.cell? ⟨mb,0,none⟩=some (.int .i64 (P.m.t+1))/\W.cell? ⟨mb,1,none⟩=some (.int .i64 P.m.r)/\W.cell? ⟨mb,2,none⟩=some (.int .i64 P.m.f)/\W.cell? ⟨mb,3,none⟩=some (.int .i64 P.m.p)/\W.cell? ⟨mb,4,none⟩=some (.int .i64 P.m.l)/\W.cell? ⟨b,2,none⟩=some (.pointer (some ⟨f,0,none⟩))/\W.frozen? ⟨b,4,none⟩=false/\W.cell? ⟨b,4,none⟩=some (CY W ⟨b,4,none⟩))
   ((first|(refine YG.out _ _ ?_;first|exact Below.more (Below.more (Below.more dO.out _) _) _|exact Below.more (Below.more dO.out _) _|exact Below.more dO.out _)|(refine bD.out _ ?_;first|exact dO.out|exact(BY _ _).drew|exact Below.more dO.out _|exact Below.more (Below.more dO.out _) _|exact Below.more (Below.more (Below.more dO.out _) _) _|exact Below.more (BY _ _).drew _|exact Below.more (Below.more (BY _ _).drew _) _)))
   (first
   | (go_at_call 44;refine(HFC.out _ (by first|exact(BY _ _).drew|exact Below.more (BY _ _).drew _|exact Below.more (Below.more (BY _ _).drew _) _)).mono ?_;rintro e w4 ⟨f4,S4,rfl,Ek,bT,kc⟩;have dO:=sh (show IT w3.heap.size w3 w4 from by first|exact(BY _ _).drew.trans (bT.mono (by simp))|exact(Below.more (BY _ _).drew _).trans (bT.mono (by simp))|exact(Below.more (Below.more (BY _ _).drew _) _).trans (bT.mono (by simp;omega))))
   | fail)
  all_goals
   rename_i hHeld9
   clear hHeld9;have hz4:=bT.size;simp at hz4;have Pf:=Ek.old;simp at kc;first
    | (have nj:=iq (Wx:=(w4.alloc M0).alloc M0) (t:=w4.heap.size+1+1) (dm:=w4.heap.size) (rm:=w4.heap.size+1) HD.out du.out (Below.more (Below.more dO.out _) _) (Ek.off (((ah.refl [] w4).alloc _).alloc _) (by simp)) (fun b hb=>by have:=kc b hb;omega) ((IMap.made w4 _ _).off ((ah.refl [] _).alloc _) (by simp)) (by have:=SMap.made (w4.alloc M0) prog 9;simpa using this) (by omega) (by omega) (by omega) (fun hs=>by have:=Pf _ hs;omega) (fun hs=>by have:=Pf _ hs;omega) (by first|rfl|simp);obtain⟨⟨YY,hB⟩,Kw,I3⟩:=nj;have Dw:=sh hB;clear hB;dsimp only[jw,M0]at Kw I3;go_wp2_with fail;go_ret2;exact⟨_,rfl,_,_,_,_,Dw.out⟩)
    | (have nj:=iq (Wx:=(w4.alloc M0).alloc M0) (t:=w4.heap.size+1+1) (dm:=w4.heap.size+1) (rm:=w4.heap.size) HD.out du.out (Below.more (Below.more dO.out _) _) (Ek.off (((ah.refl [] w4).alloc _).alloc _) (by simp)) (fun b hb=>by have:=kc b hb;omega) (by have:=IMap.made (w4.alloc M0) prog 3;simpa using this) ((SMap.made w4 _ _).off ((ah.refl [] _).alloc _) (by simp)) (by omega) (by omega) (by omega) (fun hs=>by have:=Pf _ hs;omega) (fun hs=>by have:=Pf _ hs;omega) (by first|rfl|simp);obtain⟨⟨YY,hB⟩,Kw,I3⟩:=nj;have Dw:=sh hB;clear hB;dsimp only[jw,M0]at Kw I3;go_wp2_with fail;go_ret2;exact⟨_,rfl,_,_,_,_,Dw.out⟩)
    | (have nj:=iq (Wx:=w4.alloc M0) (t:=w4.heap.size+1) (dm:=w3.heap.size) (rm:=w4.heap.size) HD.out du.out (Below.more dO.out _) (Ek.off ((ah.refl [] w4).alloc _) (by simp)) (fun b hb=>by have:=kc b hb;omega) (((show IMap prog 3 (w3.drew.alloc M0) w3.heap.size 0 (fun _=>none) from IMap.made w3.drew _ _).off (ah.af bT []) (by simp)).off ((ah.refl [] _).alloc _) (by simp)) (SMap.made w4 _ _) (by omega) (by omega) (by omega) (fun hs=>by have:=kc _ hs;omega) (fun hs=>by have:=Pf _ hs;omega) (by first|rfl|simp);obtain⟨⟨YY,hB⟩,Kw,I3⟩:=nj;have Dw:=sh hB;clear hB;dsimp only[jw,M0]at Kw I3;go_wp2_with fail;go_ret2;exact⟨_,rfl,_,_,_,_,Dw.out⟩)
    | (have nj:=iq (Wx:=w4.alloc M0) (t:=w4.heap.size+1) (dm:=w4.heap.size) (rm:=w3.heap.size) HD.out du.out (Below.more dO.out _) (Ek.off ((ah.refl [] w4).alloc _) (by simp)) (fun b hb=>by have:=kc b hb;omega) (IMap.made w4 _ _) (((show SMap prog 9 (w3.drew.alloc M0) w3.heap.size 0 (fun _=>none) from SMap.made w3.drew _ _).off (ah.af bT []) (by simp)).off ((ah.refl [] _).alloc _) (by simp)) (by omega) (by omega) (by omega) (fun hs=>by have:=Pf _ hs;omega) (fun hs=>by have:=kc _ hs;omega) (by first|rfl|simp);obtain⟨⟨YY,hB⟩,Kw,I3⟩:=nj;have Dw:=sh hB;clear hB;dsimp only[jw,M0]at Kw I3;go_wp2_with fail;go_ret2;exact⟨_,rfl,_,_,_,_,Dw.out⟩)
    | (have nj:=iq (Wx:=w4) (t:=w4.heap.size) (dm:=w3.heap.size) (rm:=w3.heap.size+1) HD.out du.out dO.out Ek (fun b hb=>by have:=kc b hb;omega) (((show IMap prog 3 (w3.drew.alloc M0) w3.heap.size 0 (fun _=>none) from IMap.made w3.drew _ _).off ((ah.refl [] _).alloc _) (by simp)).off (ah.af bT []) (by simp)) ((show SMap prog 9 ((w3.drew.alloc M0).alloc M0) (w3.heap.size+1) 0 (fun _=>none) from by have:=SMap.made (w3.drew.alloc M0) prog 9;simpa using this).off (ah.af bT []) (by simp)) (by omega) (by omega) (by omega) (fun hs=>by have:=kc _ hs;omega) (fun hs=>by have:=kc _ hs;omega) (by first|rfl|simp);obtain⟨⟨YY,hB⟩,Kw,I3⟩:=nj;have Dw:=sh hB;clear hB;dsimp only[jw,M0]at Kw I3;go_wp2_with fail;go_ret2;exact⟨_,rfl,_,_,_,_,Dw.out⟩)
    | (have nj:=iq (Wx:=w4) (t:=w4.heap.size) (dm:=w3.heap.size+1) (rm:=w3.heap.size) HD.out du.out dO.out Ek (fun b hb=>by have:=kc b hb;omega) ((show IMap prog 3 ((w3.drew.alloc M0).alloc M0) (w3.heap.size+1) 0 (fun _=>none) from by have:=IMap.made (w3.drew.alloc M0) prog 3;simpa using this).off (ah.af bT []) (by simp)) (((show SMap prog 9 (w3.drew.alloc M0) w3.heap.size 0 (fun _=>none) from SMap.made w3.drew _ _).off ((ah.refl [] _).alloc _) (by simp)).off (ah.af bT []) (by simp)) (by omega) (by omega) (by omega) (fun hs=>by have:=kc _ hs;omega) (fun hs=>by have:=kc _ hs;omega) (by first|rfl|simp);obtain⟨⟨YY,hB⟩,Kw,I3⟩:=nj;have Dw:=sh hB;clear hB;dsimp only[jw,M0]at Kw I3;go_wp2_with fail;go_ret2;exact⟨_,rfl,_,_,_,_,Dw.out⟩)
    | fail
end Go.Proofs.YtjbcbnemdhbhbaaGreatDoor
