import Derived.Test.YtjbcbnemdhbhbaaGreatDoorA8
import Derived.Test.YtjbcbnemdhbhbaaGreatDoorA11
import Derived.Lib.Overlaps
set_option maxRecDepth 100000
set_option linter.unusedVariables false
set_option linter.unusedSimpArgs false
set_option maxHeartbeats 40000000
open Go.Lib renaming hid→sh
open Go.Value renaming ownBlock→aaT
open Go.World renaming shape?→agi
open List renaming append_assoc→aaa,length_append→AT,length_take→abx,take_take→aeh
namespace Go.Proofs.YtjbcbnemdhbhbaaGreatDoor
open Go.Proofs.Tryz
open Go.RowKit
theorem zl(g B b i cap:Nat)(l:List Ce)(c:Ce)(w:World)(h:ba w B (.slice (some ⟨g,0,none⟩) l.length cap) l)(hB:B<=w.heap.size)(hi:i<l.length)(sV:l.length<cap)(hl:l.length<=10000)(hc:Bk w b 170 #[.string c.key,.string c.val,.int .i64 c.over,.int .i64 c.size,.int .i64 c.child])(QQ:g≠b):
  Calls prog 107 #[.slice (some ⟨g,0,none⟩) l.length cap,.int .i64 i,.slice (some ⟨b,0,none⟩) 1 1] w (yK B (.slice (some ⟨g,0,none⟩) l.length cap) (kC l i c) w):=by
 have hF:∀(j:Nat) (u:Value),(aA l)[j]? =some u->w.cell? ⟨g,j,none⟩=some u:=fun j u hu=>by
  have:=h.as.flat rfl j u hu
  rwa [Nat.zero_add]at this
 have dY:(aA (l.take i)).length=i*5:=by rw[bC,abx];omega
 have pQ:(aA (l.drop i)).length=(l.length-i)*5:=by rw[bC,List.length_drop]
 obtain⟨-,qX⟩:=id h;rcases qX with⟨h0,-⟩|⟨g',DO,cur,h0,Xe,aT,rj,cI,fy,cW⟩
 ·cases h0
 injection h0 with e1 e2 e3;injection e1 with e1;injection e1 with e1 _;subst e1 e3;clear e2;have nB:=lt_of_block aT;have h5:c.eG.length=5:=rfl;have iV:(aA l).length=l.length*5:=bC l;obtain⟨v1,W1,ar,O5,nD,BG⟩:=kp g ((i+1)*5) (l.length-i) (cap-(i+1)) ⟨g,i*5,none⟩ (l.length+1-i) (cap-i) cur (aA (l.drop i)) w.drew (Bk.drew aT) (by rw[pQ,show Nat.min (l.length+1-i) (l.length-i)=l.length-i by show min _ _=_;omega]) (tR (n:=l.length) (W:=w.drew) hF (by omega)) (by rw[pQ,fy];omega) (dX _);obtain⟨v2,W2,aC,Ec,kd,lY⟩:=kp g (i*5) (l.length+1-i) (cap-i) ⟨b,0,none⟩ 1 1 _ c.eG W1 ar (by rw[show Nat.min 1 (l.length+1-i)=1 by show min 1 _=1;omega];rfl) (Av (O5.bk hc.drew (by simp;exact fun e=>QQ e.symm))) (by simp;rw[pQ,fy,h5];omega) (CU c);have bX:=sh (show ba W2 B (.slice (some ⟨g,0,none⟩) (kC l i c).length cap) (kC l i c)by
  refine⟨by rw[bC],.inr ⟨g,cap,_,rfl,Xe,aC,by rw[iF _ _ _ (by omega)];omega,cI,?_,?_⟩⟩
  ·simp;rw[pQ,fy,h5];omega
  ·rw[xO,iF _ _ _ (by omega)]
   have e0:cur.toList.length=cap*5:=by simp[fy]
   have e1:(cur.toList.take ((i+1)*5)++aA (l.drop i)++cur.toList.drop ((i+1)*5+(aA (l.drop i)).length)).toArray.toList=cur.toList.take ((i+1)*5)++(aA (l.drop i)++cur.toList.drop ((i+1)*5+(aA (l.drop i)).length)):=by simp
   have e2:(cur.toList.take ((i+1)*5)).length=(i+1)*5:=by rw[abx,e0];omega
   have e3:(cur.toList.take ((i+1)*5)).take (i*5)=aA (l.take i):=by
    rw[aeh,show min (i*5) ((i+1)*5)=i*5 by omega];have e4:cur.toList.take (i*5)=(cur.toList.take (l.length*5)).take (i*5):=by rw[aeh,show min (i*5) (l.length*5)=i*5 by omega]
    rw[e4,cW];have e5:aA l=aA (l.take i)++aA (l.drop i):=by rw[<-bP,List.take_append_drop]
    rw[e5];exact List.take_left' dY
   rw[e1];obtain⟨Z,hZ⟩:∃Z,Z=cur.toList.take ((i+1)*5):=⟨_,rfl⟩;obtain⟨Y,hY⟩:∃Y,Y=aA (l.drop i)++cur.toList.drop ((i+1)*5+(aA (l.drop i)).length):=⟨_,rfl⟩;rw[<-hZ]at e2 e3 |-;rw[<-hY];have e6:(Z++Y).take (i*5)=aA (l.take i):=by rw[List.take_append_of_le_length (by rw[e2];omega),e3]
   have e7:(Z++Y).drop (i*5+c.eG.length)=Y:=by rw[h5,show i*5+5=(i+1)*5 by omega,List.drop_left' e2]
   rw[e6,e7,hY];show List.take _ (aA (l.take i)++c.eG++(aA (l.drop i)++_))=_;rw[<-aaa (aA (l.take i)),<-aaa (aA (l.take i)++c.eG)];rw[show (l.length+1)*5=(aA (l.take i)++c.eG++aA (l.drop i)).length by rw[AT,AT,dY,h5,pQ];omega];exact List.take_left)
 have m6:=sh (show ah [g] w W2 from ((ah.refl [g] w).drew.trans O5).trans Ec);have F0:=sh BG;have gY:=sh lY;have oY:∀lb cb,(callFunc 164 #[.slice (some ⟨b,0,none⟩) 1 1,.slice (some ⟨g,(i+1)*5,none⟩) lb cb]).run prog w= .ok (.value (.bool false)) w:=fun lb cb=>by
  rw[run_callFunc_extern func164 (by kernel_rfl) (by kernel_rfl) (by kernel_rfl) (e:=Extern.SlicesOverlaps.overlaps #[174,174] #[4]) (by kernel_rfl),
   Lib.run_overlaps_apart w 174 4 170 underlying174 5 (fun _=>by kernel_rfl) ⟨b,0,none⟩ ⟨g,(i+1)*5,none⟩ 1 1 lb cb (fun e=>QQ e.symm) 170 170 5 cur.size (by unfold agi;rw[show w.heap[b]? =_ from hc];rfl) (by unfold agi;rw[aT]) (by rw[fy];omega) (hc.frozen 0) (hc.frozen 5)]
  rfl
 have zO:cap<=9223372036854775807:=by unfold maxLen at cI;omega
 have z1:((i:Int)==(l.length:Int))=false:=by rw[beq_eq_false_iff_ne];omega
 have z2:(i==l.length)=false:=by rw[beq_eq_false_iff_ne];omega
 have z3:¬ (cap=i):=by omega
 have z4:decide ((cap:Int)<(l.length:Int)+1)=false:=decide_eq_false (by omega);have Ra:IntKind.i64.wrap ((i:Int)+1)=(i:Int)+1:=IntWalk.i64_in _ (by omega);have z5:(l.length:Int)+1<=(cap:Int):=by omega
 have z6:l.length+1<=cap:=by omega
 have z7:¬ (cap=i+1):=by omega
 have z8:(i:Int)+1<=(l.length:Int)+1:=by omega
 have z9:(0:Int)<=(i:Int)+1:=by omega
 have z10:((i:Int)+1).toNat=i+1:=by omega
 have z11:i+1<=l.length+1:=by omega
 have z12:(i:Int)<=(l.length:Int)+1:=by omega
 have z13:(l.length:Int)<=(cap:Int):=by omega
 have HOV:=sh oY;have afC:=oY (l.length-i) (cap-(i+1));clear h hF aT fy cW cI hc dY pQ iV h5 ar O5 nD BG aC Ec kd lY oY;go_enter func107,ntmps107
 go_upto_region 15 with fail
 go_still_tail 8,(by kernel_rfl)
 change wpList _ _ _ _ _ w.drew
 refine bS rfl (.tmp 73) (.tmp 76) 174 174 rfl _ _ _ _ rfl rfl F0.out ?_
 go_upto_region 17 with(refine bS (o:=⟨some 82,_,_,_,_,_⟩) rfl (.tmp 80) (.tmp 81) 174 174 rfl _ _ _ _ rfl rfl gY.out ?_)
 go_wp2_with fail
 go_ret
 exact⟨[g],_,cap,by simp[aaT],m6.out,by rw[iF _ _ _ (by omega)];rfl,bX.out,fun x hx=> .inl hx⟩
theorem EO(A:Option Addr)(B b i cap:Nat)(l:List Ce)(c:Ce)(w:World)(h:ba w B (.slice A l.length cap) l)(hB:B<=w.heap.size)(hi:i<=l.length)(hl:l.length<=10000)(hc:Bk w b 170 #[.string c.key,.string c.val,.int .i64 c.over,.int .i64 c.size,.int .i64 c.child])(QQ:aaT (.slice A l.length cap)≠some b):
  Calls prog 107 #[.slice A l.length cap,.int .i64 i,.slice (some ⟨b,0,none⟩) 1 1] w (yK B (.slice A l.length cap) (kC l i c) w):=by
 by_cases he:i=l.length
 ·subst he
  have e:kC l l.length c=l++[c]:=by unfold kC;simp
  rw[e];exact EP A cap B b l c w h hB hl hc
 ·obtain⟨g,rfl,-,-,-,h1,-⟩:=h.full (by omega)
  have bM:g≠b:=fun e=>QQ (by rw[e];rfl);by_cases yY:cap=l.length
  ·subst yY
   exact BU g B b i l c w h hB (by omega) hl hc
  ·exact zl g B b i cap l c w h hB (by omega) (by omega) hl hc bM
end Go.Proofs.YtjbcbnemdhbhbaaGreatDoor
