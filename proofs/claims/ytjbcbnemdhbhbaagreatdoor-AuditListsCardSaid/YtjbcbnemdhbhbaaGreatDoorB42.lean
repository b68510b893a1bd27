import Derived.Test.YtjbcbnemdhbhbaaGreatDoorB40
import Derived.Test.YtjbcbnemdhbhbaaGreatDoorB41
set_option maxRecDepth 100000
set_option linter.unusedVariables false
set_option linter.unusedSimpArgs false
set_option maxHeartbeats 40000000
open Go renaming World→AI
open Go.Lib renaming hid→sh
open Go.RowKit renaming Below→No
open Go.RowKit.Below renaming refl→IN
open List renaming mem_cons→IT,mem_singleton→By,nodup_cons→abN
open Nat renaming le_trans→abE
namespace Go.Proofs.YtjbcbnemdhbhbaaGreatDoor
open Go.Proofs.Tryz
open Go.RowKit
abbrev jn (b:Nat) (m:aL) (f dm rm:Nat):Array Value:=
 #[.pointer (some ⟨b,0,none⟩),.int .i64 (m.t+1),.int .i64 (m.t+1),.int .i64 m.r,.int .i64 m.f,.int .i64 m.p,.int .i64 m.l,.pointer (some ⟨f,0,none⟩),.map (some dm),.slice none 0 0,.slice none 0 0,.map (some rm),.int .i64 0,.bool false]
structure Ku (d:Di) (w w':AI) (t f dm rm:Nat) (Sf:List Nat):Prop where
 cells:Bk w' t 103 (jn d.b d.P.m f dm rm)
 free:rK w' f Sf d.fr
 map:IMap prog 3 w' dm 0 (fun _=>none)
 roots:SMap prog 9 w' rm 0 (fun _=>none)
 db:gK w' { d with wv:= .pointer (some ⟨t,0,none⟩) }
 off:ah [d.b] w w'
 new:w.heap.size<=t/\w.heap.size<=dm/\w.heap.size<=rm/\∀b∈Sf,w.heap.size<=b
 nodup:(t::dm::Sf).Nodup
 rm:rm∉t::dm::Sf
abbrev M0:Obj:= .map #[] 0
theorem ig{w w3 Wx:AI}{d:Di}(h:gK w d)(aQ:No w.heap.size w w3)(Qn:No w3.heap.size w3 Wx){f4 dm rm:Nat}{S4:List Nat}(CU:rK Wx f4 S4 d.fr)(Xd:∀b∈S4,w3.heap.size<=b)(hdm:IMap prog 3 Wx dm 0 (fun _=>none))(CX:SMap prog 9 Wx rm 0 (fun _=>none))(SI:dm≠rm)(F4:w3.heap.size<=dm)(AW:w3.heap.size<=rm)(SH:dm∉S4)(hrS:rm∉S4){t:Nat}(hte:Wx.heap.size=t):
  (∃Sf,Ku d w ((Wx.alloc (.cells (jn d.b d.P.m f4 dm rm) 103)).setCell ⟨d.b,4,none⟩ (.pointer (some ⟨t,0,none⟩))) t f4 dm rm Sf)/\
  ((Wx.alloc (.cells (jn d.b d.P.m f4 dm rm) 103)).setCell ⟨d.b,4,none⟩ (.pointer (some ⟨t,0,none⟩))).cell? ⟨d.b,4,none⟩=some (.pointer (some ⟨t,0,none⟩))/\d.b<((Wx.alloc (.cells (jn d.b d.P.m f4 dm rm) 103)).setCell ⟨d.b,4,none⟩ (.pointer (some ⟨t,0,none⟩))).heap.size:=by
 subst hte;have eO:No w.heap.size w Wx:=aQ.trans (Qn.mono aQ.size);have oo:=aQ.size;have rV:No w.heap.size w (Wx.alloc (.cells (jn d.b d.P.m f4 dm rm) 103)):=eO.alloc eO.size _;have hold:=h.old;have afW:=af h.top rV;have bS:ah [d.b] (Wx.alloc (.cells (jn d.b d.P.m f4 dm rm) 103)) ((Wx.alloc (.cells (jn d.b d.P.m f4 dm rm) 103)).setCell ⟨d.b,4,none⟩ (.pointer (some ⟨Wx.heap.size,0,none⟩))):=(ah.refl [d.b] _).setCell (p:=⟨d.b,4,none⟩) (.inl (by simp)) _;have VM:ah [d.b] Wx ((Wx.alloc (.cells (jn d.b d.P.m f4 dm rm) 103)).setCell ⟨d.b,4,none⟩ (.pointer (some ⟨Wx.heap.size,0,none⟩))):=((ah.refl [d.b] Wx).alloc _).trans bS;have gH:d.b<w.heap.size:=h.top.lt;obtain⟨Sf,t1,t2,t3⟩:=CU.tight;have Xs:∀x,w3.heap.size<=x->x∉[d.b]:=fun x hx hm=>by rw[By]at hm;omega
 have Au:=Qn.size;refine⟨⟨Sf,bS.bk (Bk.new Wx _ _) (Xs _ Au),t3.off VM (fun b hb=>Xs b (Xd b (t2 b hb))),hdm.off VM (Xs _ F4),CX.off VM (Xs _ AW),?_,(ah.ae rV [d.b]).trans bS,⟨abE oo Au,abE oo F4,abE oo AW,fun b hb=>abE oo (Xd b (t2 b hb))⟩,?_,?_⟩,(afW.put 4 _).cell 4,?_⟩
 ·have gI:=h.below rV
  have iP:∀x,x∈d.T++(d.Sf++d.pv.ownBlock.toList)->x∉[d.b]:=fun x hx hm=>by rw[By]at hm;subst hm;exact h.bo hx
  exact⟨gI.top.put 4 _,gI.pg.off bS (fun b hb=>iP b (by simp[hb])),bS.bk gI.rd (fun hm=>by rw[By]at hm;exact(gI.rd.ne gI.top (by decide)) hm),gI.free.off bS (fun b hb=>iP b (by simp[hb])),bS.own gI.m7 (fun b hb=>iP b (by simp[hb])),h.bo,h.ro⟩
 ·refine abN.2 ⟨fun hm=> ?_,abN.2 ⟨fun hm=>SH (t2 _ hm),t1⟩⟩
  rcases IT.1 hm with hm|hm
  ·have:=hdm.lt;omega
  ·have:=t3.old _ hm;omega
 ·intro hm
  rcases IT.1 hm with hm|hm
  ·have:=CX.lt;omega
  ·rcases IT.1 hm with hm|hm
   ·exact SI hm.symm
   ·exact hrS (t2 _ hm)
 ·have:=rV.size
  simp at this |-;omega
def CA (W:AI) (a:Addr):Value:=(W.cell? a).getD (.bool false)
theorem CB{W:AI}{a:Addr}{v:Value}(h:W.cell? a=some v):W.cell? a=some (CA W a):=by unfold CA;rw[h];rfl
theorem Below.more{a w:AI}(h:No a.heap.size a w)(o:Obj):No a.heap.size a (w.alloc o):=h.alloc h.size o
theorem Hk{w:AI}{d:Di}(h:gK w d)(hw:d.wv= .pointer none\/∃t cs,d.wv= .pointer (some ⟨t,0,none⟩)/\Bk w t 103 cs/\cs[13]? =some (.bool true))(hm:d.P.m.t<1099511627776)(yw:0<=d.P.m.t)(hl:d.fr.length<=1000):
  Calls prog 11 #[.pointer (some ⟨d.b,0,none⟩)] w (fun e w'=>∃t f dm rm Sf,e= .returned (.tuple #[.pointer (some ⟨t,0,none⟩),.int .i64 0])/\Ku d w w' t f dm rm Sf):=by
 have HM:=sh fun(W:AI) (hb:No w.heap.size w W)=>sW (h.below hb);have HD:=sh h;have z1:decide ((1099511627776:Int)<=d.P.m.t)=false:=decide_eq_false (by omega);have hf0:=Nl;have c4:=h.top.cell 4;have c2:=h.top.cell 2;have lb:=h.top.lt;have zb:=sh fun(W:AI) (hb:No w.heap.size w W)=>wD (h.free.below hb) (by omega);obtain⟨b,q,r,f,g,T,Sf,P,s,fr,pv,m7,wv⟩:=d;simp only at HM HD z1 c4 c2 lb zb hw hm yw |-;clear h hl;have kL:=@run_makeMap prog;have HL0:=sh yw;obtain⟨mt,hmt⟩:∃mt,mt=P.m.t:=⟨_,rfl⟩;have HMT:=sh hmt;have y1:IntKind.i64.wrap (P.m.t+1)=P.m.t+1:=by rw[IntKind.wrap_i64];omega
 clear hm yw hmt;have QU:wv= .pointer none\/∃t0,wv= .pointer (some ⟨t0,0,none⟩)/\w.cell? ⟨t0,13,none⟩=some (.bool true)/\t0<w.heap.size:=by
  rcases hw with h|⟨t0,cs,h,ht,afV⟩
  ·exact .inl h
  ·exact .inr ⟨t0,h,(ht.cell 13).trans afV,ht.lt⟩
 clear hw;rcases QU with rfl|⟨t0,rfl,q13,ltt⟩;all_goals
  go_enter func11,ntmps11
  go_wp2_with fail
  refine(HM.out _ (IN _ _)).mono ?_;rintro e w1 ⟨rfl,ar⟩;have bh:=sh ar;clear ar;go_wp2_with fail
  refine(HM.out _ bh.out).mono ?_;rintro e w2 ⟨rfl,az⟩;have bz:=sh (bh.out.trans (az.mono bh.out.size));clear az;go_wp2_with fail
  have QC:=Bk.new w2 40 #[.int .i64 (P.m.t+1),.int .i64 P.m.r,.int .i64 P.m.f,.int .i64 P.m.p,.int .i64 P.m.l];have aQ:No w.heap.size w (w2.alloc (.cells #[.int .i64 (P.m.t+1),.int .i64 P.m.r,.int .i64 P.m.f,.int .i64 P.m.p,.int .i64 P.m.l] 40)):=bz.out.alloc bz.out.size _;have aar:w2.heap.size<(w2.alloc (.cells #[.int .i64 (P.m.t+1),.int .i64 P.m.r,.int .i64 P.m.f,.int .i64 P.m.p,.int .i64 P.m.l] 40)).heap.size:=by simp
  obtain⟨mb,aav⟩:∃mb,mb=w2.heap.size:=⟨_,rfl⟩;rw[<-aav]at QC aar |-;generalize w2.alloc (.cells #[.int .i64 (P.m.t+1),.int .i64 P.m.r,.int .i64 P.m.f,.int .i64 P.m.p,.int .i64 P.m.l] 40)=w3 at QC aQ aar |-;have dt:=sh aQ;have lb3:=Nat.lt_of_lt_of_le lb aQ.size;have fb4:w3.frozen? ⟨b,4,none⟩=false:=(af HD.out.top aQ).frozen 4;have bH:=sh (show ∀W,No w3.heap.size w3 W->W.cell? ⟨mb,0,none⟩=some (.int .i64 (P.m.t+1))/\W.cell? ⟨mb,1,none⟩=some (.int .i64 P.m.r)/\W.cell? ⟨mb,2,none⟩=some (.int .i64 P.m.f)/\W.cell? ⟨mb,3,none⟩=some (.int .i64 P.m.p)/\W.cell? ⟨mb,4,none⟩=some (.int .i64 P.m.l)/\W.cell? ⟨b,2,none⟩=some (.pointer (some ⟨f,0,none⟩))/\W.frozen? ⟨b,4,none⟩=false/\W.cell? ⟨b,4,none⟩=some (CA W ⟨b,4,none⟩) from fun W hW=>by
   have k1:=af QC hW;have k2:=af (af HD.out.top aQ) hW;exact⟨k1.cell 0,k1.cell 1,k1.cell 2,k1.cell 3,k1.cell 4,k2.cell 2,k2.frozen 4,CB (k2.cell 4)⟩)
  have hSb:∀W:AI,∀v:Value,No w3.heap.size w3 W->(fun W=>W.cell? ⟨mb,0,none⟩=some (.int .i64 (P.m.t+1))/\W.cell? ⟨mb,1,none⟩=some (.int .i64 P.m.r)/\W.cell? ⟨mb,2,none⟩=some (.int .i64 P.m.f)/\W.cell? ⟨mb,3,none⟩=some (.int .i64 P.m.p)/\W.cell? ⟨mb,4,none⟩=some (.int .i64 P.m.l)/\W.cell? ⟨b,2,none⟩=some (.pointer (some ⟨f,0,none⟩))/\W.frozen? ⟨b,4,none⟩=false/\W.cell? ⟨b,4,none⟩=some (CA W ⟨b,4,none⟩)) (W.setCell ⟨b,4,none⟩ v):=fun W v hW=>by
   have k1:=af QC hW;have k2:=af (af HD.out.top aQ) hW;have bL:b≠mb:=k2.ne k1 (by decide);have k3:=k1.zf (p:=⟨b,4,none⟩) (fun e=>bL e.symm) v;have k4:=k2.put 4 v;exact⟨k3.cell 0,k3.cell 1,k3.cell 2,k3.cell 3,k3.cell 4,k4.cell 2,k4.frozen 4,CB (k4.cell 4)⟩
  have Uo:=sh hSb;have HFC:=sh fun(W:AI) (hW:No w3.heap.size w3 W)=>zb.out W (dt.out.trans (hW.mono dt.out.size));clear aQ aav QC c2 c4 fb4 hSb;go_region_held3 (fun W=>W.cell? ⟨mb,0,none⟩=some (.int .i64 (P.m.t+1))/\W.cell? ⟨mb,1,none⟩=some (.int .i64 P.m.r)/\W.cell? ⟨mb,2,none⟩=some (.int .i64 P.m.f)/\W.cell? ⟨mb,3,none⟩=some (.int .i64 P.m.p)/\W.cell? ⟨mb,4,none⟩=some (.int .i64 P.m.l)/\W.cell? ⟨b,2,none⟩=some (.pointer (some ⟨f,0,none⟩))/\W.frozen? ⟨b,4,none⟩=false/\W.cell? ⟨b,4,none⟩=some (CA W ⟨b,4,none⟩))
   ((first|(refine Uo.out _ _ ?_;first|exact Below.more (Below.more (Below.more fE.out _) _) _|exact Below.more (Below.more fE.out _) _|exact Below.more fE.out _)|(refine bH.out _ ?_;first|exact fE.out|exact(IN _ _).drew|exact Below.more fE.out _|exact Below.more (Below.more fE.out _) _|exact Below.more (Below.more (Below.more fE.out _) _) _|exact Below.more (IN _ _).drew _|exact Below.more (Below.more (IN _ _).drew _) _)))
   (first
   | (go_at_call 44;refine(HFC.out _ (by first|exact(IN _ _).drew|exact Below.more (IN _ _).drew _|exact Below.more (Below.more (IN _ _).drew _) _)).mono ?_;rintro e w4 ⟨f4,S4,rfl,DZ,b7,j6⟩;have fE:=sh (show No w3.heap.size w3 w4 from by first|exact(IN _ _).drew.trans (b7.mono (by simp))|exact(Below.more (IN _ _).drew _).trans (b7.mono (by simp))|exact(Below.more (Below.more (IN _ _).drew _) _).trans (b7.mono (by simp;omega))))
   | fail)
  all_goals
   rename_i hHeld9
   clear hHeld9;have hz4:=b7.size;simp at hz4;have Xk:=DZ.old;simp at j6;first
    | (have mU:=ig (Wx:=(w4.alloc M0).alloc M0) (t:=w4.heap.size+1+1) (dm:=w4.heap.size) (rm:=w4.heap.size+1) HD.out dt.out (Below.more (Below.more fE.out _) _) (DZ.off (((ah.refl [] w4).alloc _).alloc _) (by simp)) (fun b hb=>by have:=j6 b hb;omega) ((IMap.made w4 _ _).off ((ah.refl [] _).alloc _) (by simp)) (by have:=SMap.made (w4.alloc M0) prog 9;simpa using this) (by omega) (by omega) (by omega) (fun hs=>by have:=Xk _ hs;omega) (fun hs=>by have:=Xk _ hs;omega) (by first|rfl|simp);obtain⟨⟨YX,hB⟩,Kf,Gb⟩:=mU;have C8:=sh hB;clear hB;dsimp only[jn,M0]at Kf Gb;go_wp2_with fail;go_ret2;exact⟨_,rfl,_,_,_,_,C8.out⟩)
    | (have mU:=ig (Wx:=(w4.alloc M0).alloc M0) (t:=w4.heap.size+1+1) (dm:=w4.heap.size+1) (rm:=w4.heap.size) HD.out dt.out (Below.more (Below.more fE.out _) _) (DZ.off (((ah.refl [] w4).alloc _).alloc _) (by simp)) (fun b hb=>by have:=j6 b hb;omega) (by have:=IMap.made (w4.alloc M0) prog 3;simpa using this) ((SMap.made w4 _ _).off ((ah.refl [] _).alloc _) (by simp)) (by omega) (by omega) (by omega) (fun hs=>by have:=Xk _ hs;omega) (fun hs=>by have:=Xk _ hs;omega) (by first|rfl|simp);obtain⟨⟨YX,hB⟩,Kf,Gb⟩:=mU;have C8:=sh hB;clear hB;dsimp only[jn,M0]at Kf Gb;go_wp2_with fail;go_ret2;exact⟨_,rfl,_,_,_,_,C8.out⟩)
    | (have mU:=ig (Wx:=w4.alloc M0) (t:=w4.heap.size+1) (dm:=w3.heap.size) (rm:=w4.heap.size) HD.out dt.out (Below.more fE.out _) (DZ.off ((ah.refl [] w4).alloc _) (by simp)) (fun b hb=>by have:=j6 b hb;omega) (((show IMap prog 3 (w3.drew.alloc M0) w3.heap.size 0 (fun _=>none) from IMap.made w3.drew _ _).off (ah.ae b7 []) (by simp)).off ((ah.refl [] _).alloc _) (by simp)) (SMap.made w4 _ _) (by omega) (by omega) (by omega) (fun hs=>by have:=j6 _ hs;omega) (fun hs=>by have:=Xk _ hs;omega) (by first|rfl|simp);obtain⟨⟨YX,hB⟩,Kf,Gb⟩:=mU;have C8:=sh hB;clear hB;dsimp only[jn,M0]at Kf Gb;go_wp2_with fail;go_ret2;exact⟨_,rfl,_,_,_,_,C8.out⟩)
    | (have mU:=ig (Wx:=w4.alloc M0) (t:=w4.heap.size+1) (dm:=w4.heap.size) (rm:=w3.heap.size) HD.out dt.out (Below.more fE.out _) (DZ.off ((ah.refl [] w4).alloc _) (by simp)) (fun b hb=>by have:=j6 b hb;omega) (IMap.made w4 _ _) (((show SMap prog 9 (w3.drew.alloc M0) w3.heap.size 0 (fun _=>none) from SMap.made w3.drew _ _).off (ah.ae b7 []) (by simp)).off ((ah.refl [] _).alloc _) (by simp)) (by omega) (by omega) (by omega) (fun hs=>by have:=Xk _ hs;omega) (fun hs=>by have:=j6 _ hs;omega) (by first|rfl|simp);obtain⟨⟨YX,hB⟩,Kf,Gb⟩:=mU;have C8:=sh hB;clear hB;dsimp only[jn,M0]at Kf Gb;go_wp2_with fail;go_ret2;exact⟨_,rfl,_,_,_,_,C8.out⟩)
    | (have mU:=ig (Wx:=w4) (t:=w4.heap.size) (dm:=w3.heap.size) (rm:=w3.heap.size+1) HD.out dt.out fE.out DZ (fun b hb=>by have:=j6 b hb;omega) (((show IMap prog 3 (w3.drew.alloc M0) w3.heap.size 0 (fun _=>none) from IMap.made w3.drew _ _).off ((ah.refl [] _).alloc _) (by simp)).off (ah.ae b7 []) (by simp)) ((show SMap prog 9 ((w3.drew.alloc M0).alloc M0) (w3.heap.size+1) 0 (fun _=>none) from by have:=SMap.made (w3.drew.alloc M0) prog 9;simpa using this).off (ah.ae b7 []) (by simp)) (by omega) (by omega) (by omega) (fun hs=>by have:=j6 _ hs;omega) (fun hs=>by have:=j6 _ hs;omega) (by first|rfl|simp);obtain⟨⟨YX,hB⟩,Kf,Gb⟩:=mU;have C8:=sh hB;clear hB;dsimp only[jn,M0]at Kf Gb;go_wp2_with fail;go_ret2;exact⟨_,rfl,_,_,_,_,C8.out⟩)
    | (have mU:=ig (Wx:=w4) (t:=w4.heap.size) (dm:=w3.heap.size+1) (rm:=w3.heap.size) HD.out dt.out fE.out DZ (fun b hb=>by have:=j6 b hb;omega) ((show IMap prog 3 ((w3.drew.alloc M0).alloc M0) (w3.heap.size+1) 0 (fun _=>none) from by have:=IMap.made (w3.drew.alloc M0) prog 3;simpa using this).off (ah.ae b7 []) (by simp)) (((show SMap prog 9 (w3.drew.alloc M0) w3.heap.size 0 (fun _=>none) from SMap.made w3.drew _ _).off ((ah.refl [] _).alloc _) (by simp)).off (ah.ae b7 []) (by simp)) (by omega) (by omega) (by omega) (fun hs=>by have:=j6 _ hs;omega) (fun hs=>by have:=j6 _ hs;omega) (by first|rfl|simp);obtain⟨⟨YX,hB⟩,Kf,Gb⟩:=mU;have C8:=sh hB;clear hB;dsimp only[jn,M0]at Kf Gb;go_wp2_with fail;go_ret2;exact⟨_,rfl,_,_,_,_,C8.out⟩)
    | fail
end Go.Proofs.YtjbcbnemdhbhbaaGreatDoor
