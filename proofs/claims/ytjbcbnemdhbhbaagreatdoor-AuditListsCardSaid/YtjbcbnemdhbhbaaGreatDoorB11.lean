import Derived.Test.YtjbcbnemdhbhbaaGreatDoorB7
import Derived.Test.YtjbcbnemdhbhbaaGreatDoorB10
import Derived.Lib.Overlaps
set_option maxRecDepth 100000
set_option linter.unusedVariables false
set_option linter.unusedSimpArgs false
set_option maxHeartbeats 40000000
open Go.Lib renaming hid→sh
open Go.Value renaming ownBlock→aaU
open Go.World renaming shape?→aga
open List renaming append_assoc→OF,length_append→BY,length_take→abv,take_take→aeh
namespace Go.Proofs.YtjbcbnemdhbhbaaGreatDoor
open Go.Proofs.Tryz
open Go.RowKit
theorem yC(g B b i cap:Nat)(l:List Ce)(c:Ce)(w:World)(h:aZ w B (.slice (some ⟨g,0,none⟩) l.length cap) l)(hB:B<=w.heap.size)(hi:i<l.length)(rW:l.length<cap)(hl:l.length<=10000)(hc:Bk w b 170 #[.string c.key,.string c.val,.int .i64 c.over,.int .i64 c.size,.int .i64 c.child])(Qw:g≠b):
  Calls prog 107 #[.slice (some ⟨g,0,none⟩) l.length cap,.int .i64 i,.slice (some ⟨b,0,none⟩) 1 1] w (xZ B (.slice (some ⟨g,0,none⟩) l.length cap) (kq l i c) w):=by
 have hF:∀(j:Nat) (u:Value),(ay l)[j]? =some u->w.cell? ⟨g,j,none⟩=some u:=fun j u hu=>by
  have:=h.as.flat rfl j u hu
  rwa [Nat.zero_add]at this
 have ey:(ay (l.take i)).length=i*5:=by rw[bD,abv];omega
 have pG:(ay (l.drop i)).length=(l.length-i)*5:=by rw[bD,List.length_drop]
 obtain⟨-,qU⟩:=id h;rcases qU with⟨h0,-⟩|⟨g',DA,cur,h0,W9,aU,oh,dC,fu,cW⟩
 ·cases h0
 injection h0 with e1 e2 e3;injection e1 with e1;injection e1 with e1 _;subst e1 e3;clear e2;have pH:=lt_of_block aU;have h5:c.eH.length=5:=rfl;have gT:(ay l).length=l.length*5:=bD l;obtain⟨v1,W1,ar,OR,pK,AY⟩:=kf g ((i+1)*5) (l.length-i) (cap-(i+1)) ⟨g,i*5,none⟩ (l.length+1-i) (cap-i) cur (ay (l.drop i)) w.drew (Bk.drew aU) (by rw[pG,show Nat.min (l.length+1-i) (l.length-i)=l.length-i by show min _ _=_;omega]) (sY (n:=l.length) (W:=w.drew) hF (by omega)) (by rw[pG,fu];omega) (dW _);obtain⟨v2,W2,az,DT,jw,lT⟩:=kf g (i*5) (l.length+1-i) (cap-i) ⟨b,0,none⟩ 1 1 _ c.eH W1 ar (by rw[show Nat.min 1 (l.length+1-i)=1 by show min 1 _=1;omega];rfl) (zI (OR.bk hc.drew (by simp;exact fun e=>Qw e.symm))) (by simp;rw[pG,fu,h5];omega) (Cy c);have bV:=sh (show aZ W2 B (.slice (some ⟨g,0,none⟩) (kq l i c).length cap) (kq l i c)by
  refine⟨by rw[bD],.inr ⟨g,cap,_,rfl,W9,az,by rw[iA _ _ _ (by omega)];omega,dC,?_,?_⟩⟩
  ·simp;rw[pG,fu,h5];omega
  ·rw[wT,iA _ _ _ (by omega)]
   have e0:cur.toList.length=cap*5:=by simp[fu]
   have e1:(cur.toList.take ((i+1)*5)++ay (l.drop i)++cur.toList.drop ((i+1)*5+(ay (l.drop i)).length)).toArray.toList=cur.toList.take ((i+1)*5)++(ay (l.drop i)++cur.toList.drop ((i+1)*5+(ay (l.drop i)).length)):=by simp
   have e2:(cur.toList.take ((i+1)*5)).length=(i+1)*5:=by rw[abv,e0];omega
   have e3:(cur.toList.take ((i+1)*5)).take (i*5)=ay (l.take i):=by
    rw[aeh,show min (i*5) ((i+1)*5)=i*5 by omega];have e4:cur.toList.take (i*5)=(cur.toList.take (l.length*5)).take (i*5):=by rw[aeh,show min (i*5) (l.length*5)=i*5 by omega]
    rw[e4,cW];have e5:ay l=ay (l.take i)++ay (l.drop i):=by rw[<-bR,List.take_append_drop]
    rw[e5];exact List.take_left' ey
   rw[e1];obtain⟨Z,hZ⟩:∃Z,Z=cur.toList.take ((i+1)*5):=⟨_,rfl⟩;obtain⟨Y,hY⟩:∃Y,Y=ay (l.drop i)++cur.toList.drop ((i+1)*5+(ay (l.drop i)).length):=⟨_,rfl⟩;rw[<-hZ]at e2 e3 |-;rw[<-hY];have e6:(Z++Y).take (i*5)=ay (l.take i):=by rw[List.take_append_of_le_length (by rw[e2];omega),e3]
   have e7:(Z++Y).drop (i*5+c.eH.length)=Y:=by rw[h5,show i*5+5=(i+1)*5 by omega,List.drop_left' e2]
   rw[e6,e7,hY];show List.take _ (ay (l.take i)++c.eH++(ay (l.drop i)++_))=_;rw[<-OF (ay (l.take i)),<-OF (ay (l.take i)++c.eH)];rw[show (l.length+1)*5=(ay (l.take i)++c.eH++ay (l.drop i)).length by rw[BY,BY,ey,h5,pG];omega];exact List.take_left)
 have nk:=sh (show ah [g] w W2 from ((ah.refl [g] w).drew.trans OR).trans DT);have KK:=sh AY;have gM:=sh lT;have oQ:∀lb cb,(callFunc 164 #[.slice (some ⟨b,0,none⟩) 1 1,.slice (some ⟨g,(i+1)*5,none⟩) lb cb]).run prog w= .ok (.value (.bool false)) w:=fun lb cb=>by
  rw[run_callFunc_extern func164 (by kernel_rfl) (by kernel_rfl) (by kernel_rfl) (e:=Extern.SlicesOverlaps.overlaps #[174,174] #[4]) (by kernel_rfl),
   Lib.run_overlaps_apart w 174 4 170 underlying174 5 (fun _=>by kernel_rfl) ⟨b,0,none⟩ ⟨g,(i+1)*5,none⟩ 1 1 lb cb (fun e=>Qw e.symm) 170 170 5 cur.size (by unfold aga;rw[show w.heap[b]? =_ from hc];rfl) (by unfold aga;rw[aU]) (by rw[fu];omega) (hc.frozen 0) (hc.frozen 5)]
  rfl
 have CS:cap<=9223372036854775807:=by unfold maxLen at dC;omega
 have z1:((i:Int)==(l.length:Int))=false:=by rw[beq_eq_false_iff_ne];omega
 have z2:(i==l.length)=false:=by rw[beq_eq_false_iff_ne];omega
 have z3:¬ (cap=i):=by omega
 have z4:decide ((cap:Int)<(l.length:Int)+1)=false:=decide_eq_false (by omega);have QU:IntKind.i64.wrap ((i:Int)+1)=(i:Int)+1:=IntWalk.i64_in _ (by omega);have z5:(l.length:Int)+1<=(cap:Int):=by omega
 have z6:l.length+1<=cap:=by omega
 have z7:¬ (cap=i+1):=by omega
 have z8:(i:Int)+1<=(l.length:Int)+1:=by omega
 have z9:(0:Int)<=(i:Int)+1:=by omega
 have z10:((i:Int)+1).toNat=i+1:=by omega
 have z11:i+1<=l.length+1:=by omega
 have z12:(i:Int)<=(l.length:Int)+1:=by omega
 have z13:(l.length:Int)<=(cap:Int):=by omega
 have HOV:=sh oQ;have afE:=oQ (l.length-i) (cap-(i+1));clear h hF aU fu cW dC hc ey pG gT h5 ar OR pK AY az DT jw lT oQ;go_enter func107,ntmps107
 go_upto_region 15 with fail
 go_still_tail 8,(by kernel_rfl)
 change wpList _ _ _ _ _ w.drew
 refine bU rfl (.tmp 73) (.tmp 76) 174 174 rfl _ _ _ _ rfl rfl KK.out ?_
 go_upto_region 17 with(refine bU (o:=⟨some 82,_,_,_,_,_⟩) rfl (.tmp 80) (.tmp 81) 174 174 rfl _ _ _ _ rfl rfl gM.out ?_)
 go_wp2_with fail
 go_ret
 exact⟨[g],_,cap,by simp[aaU],nk.out,by rw[iA _ _ _ (by omega)];rfl,bV.out,fun x hx=> .inl hx⟩
theorem Er(A:Option Addr)(B b i cap:Nat)(l:List Ce)(c:Ce)(w:World)(h:aZ w B (.slice A l.length cap) l)(hB:B<=w.heap.size)(hi:i<=l.length)(hl:l.length<=10000)(hc:Bk w b 170 #[.string c.key,.string c.val,.int .i64 c.over,.int .i64 c.size,.int .i64 c.child])(Qw:aaU (.slice A l.length cap)≠some b):
  Calls prog 107 #[.slice A l.length cap,.int .i64 i,.slice (some ⟨b,0,none⟩) 1 1] w (xZ B (.slice A l.length cap) (kq l i c) w):=by
 by_cases he:i=l.length
 ·subst he
  have e:kq l l.length c=l++[c]:=by unfold kq;simp
  rw[e];exact Es A cap B b l c w h hB hl hc
 ·obtain⟨g,rfl,-,-,-,h1,-⟩:=h.full (by omega)
  have bL:g≠b:=fun e=>Qw (by rw[e];rfl);by_cases qg:cap=l.length
  ·subst qg
   exact Bo g B b i l c w h hB (by omega) hl hc
  ·exact yC g B b i cap l c w h hB (by omega) (by omega) hl hc bL
end Go.Proofs.YtjbcbnemdhbhbaaGreatDoor
