import Derived.Test.YtjbcbnemdhbhbaaGreatDoorB19
import Derived.Test.YtjbcbnemdhbhbaaGreatDoorB20
import Derived.Test.YtjbcbnemdhbhbaaGreatDoorB1
import Derived.Deep.RegionHeld3
set_option maxRecDepth 100000
set_option linter.unusedVariables false
set_option linter.unusedSimpArgs false
set_option maxHeartbeats 40000000
open Exists renaming intro→acD
open Go.IntKind renaming wrap_i64→acC
open Go.Lib renaming hid→sh
open Go.RowKit renaming Below→No
open Go.RowKit.Below renaming refl→IN
open List renaming map_append→abH,mem_singleton→By,take_succ_eq_append_getElem→aaT
open Nat renaming le_refl→AS
namespace Go.Proofs.YtjbcbnemdhbhbaaGreatDoor
open Go.Proofs.Tryz
open Go.RowKit
theorem L7(l:List (Nat×Nat)){i:Nat}(h:i<512):(ee l).toArray[i]? =some (.bool (decide (i∈Fr.pg l))):=by
 simp[ee,Fr.F6 l h]
theorem DY(l:List (Nat×Nat))(j:Nat)(hj:j<l.length):ee (l.take (j+1))=(ee (l.take j)).set l[j].2 (.bool true):=by
 unfold ee;rw[Fr.Az (l.take j) (l.take (j+1)) (p:=l[j].2) (fun i=>by rw[aaT hj];unfold Fr.pg;rw[abH,List.mem_append];simp)];rw[List.map_set]
theorem Qg{w:World}{A:Option Addr}{c:Nat}{l:List (Nat×Nat)}(next:Nat)(h:fX w A l)(hs:Fr.Sorted l)(hk:∀x∈l,Fr.ok x=true)(cg:(Fr.pg l).Nodup)(hl:l.length<=40)(hn:next<512):
  Calls prog 171 #[.int .i64 next,.slice A l.length c] w (fun e w'=>e= .returned (.bool true)/\No w.heap.size w w'):=by
 have HR:=sh h;have HS:=sh hs;have HK:=sh hk;have si:=sh cg;have z1:decide ((next:Int)<0)=false:=decide_eq_false (by omega);have z2:decide ((512:Int)<=(next:Int))=false:=decide_eq_false (by omega);have z2':decide (512<=next)=false:=decide_eq_false (by omega);obtain⟨n,oh⟩:∃n,n=l.length:=⟨_,rfl⟩;have HN:=sh oh;rw[<-oh]at hl |-;have z3:decide ((40:Int)<(n:Int))=false:=decide_eq_false (by omega);have z4:decide (40<n)=false:=decide_eq_false (by omega);have hz:Hid (∀W:World,Bk (W.alloc (.cells (Array.replicate 512 (.bool false)) 163)) W.heap.size 163 (ee []).toArray):=fun W=>by
  have e:Array.replicate 512 (Value.bool false)=(ee []).toArray:=by
   unfold ee;rw[Fr.AB,List.map_replicate];rfl
  rw[<-e];exact Bk.new W _ _
 clear h hs hk cg hn oh;go_enter func171,ntmps171
 go_upto_region 5 with fail
 go_loopw [21] (fun i wr=>∃j:Nat,i= .int .i64 j/\j<=n/\Hid (Bk wr w.heap.size 163 (ee (l.take j)).toArray/\No w.heap.size w wr)) (fun i _=>n-(intOf i).toNat)
 case atStart=>exact⟨0,rfl,Nat.zero_le _,sh ⟨hz.out w,(IN _ w).alloc (AS _) _⟩⟩
 case round=>
  obtain⟨j,rfl,hj,hI⟩:=hrel;by_cases aI:j<n
  ·
   have z5:decide ((j:Int)<(n:Int))=true:=decide_eq_true (by omega);have QB:j<l.length:=by have:=HN.out;omega
   have gH:=hI.out.2;obtain⟨b,o,hA,hb,O7,MO⟩:=(HR.out.below gH).at j QB;obtain⟨x,hx⟩:∃x,x=l[j]:=⟨_,rfl⟩;rw[<-hx]at O7 MO;have hxm:x∈l:=by rw[hx];exact List.getElem_mem QB
   have QY:=HK.out x hxm;have Ty:x.2<512:=by unfold Fr.ok at QY;simp at QY;omega
   have ey:l.take (j+1)=l.take j++[x]:=by rw[hx];exact aaT QB
   have qk:x.2∉Fr.pg (l.take j):=fun hm=>by
    have h1:(Fr.pg (l.take (j+1))).Nodup:=by
     refine List.Nodup.sublist ?_ si.out;unfold Fr.pg;exact(List.take_sublist _ _).map _
    rw[ey]at h1;unfold Fr.pg at h1 hm;rw[abH]at h1;exact(List.nodup_append.1 h1).2.2 _ hm x.2 (by simp) rfl
   have wR:=hI.out.1;have CT:=(wR.cell x.2).trans (L7 (l.take j) Ty);rw[decide_eq_false qk]at CT;have Z2:=wR.frozen x.2;have lsn:=wR.lt;have J9:=sh fun(W:World)=>wI x W QY;obtain⟨x1,Bi⟩:∃x1,x1=x.1:=⟨_,rfl⟩;obtain⟨x2,yz⟩:∃x2,x2=x.2:=⟨_,rfl⟩;rw[<-Bi]at O7 J9;rw[<-yz]at MO J9 CT Z2 Ty;have kp:(ee (l.take (j+1))).toArray=(ee (l.take j)).toArray.setIfInBounds x2 (.bool true):=by
    rw[DY l j QB,yz,hx];simp
   have pO:=sh kp;have xR:=sh wR;have FB:=sh gH;have z6:(x2:Int)<512:=by omega
   subst hA;rcases Nat.eq_zero_or_pos j with ID|ID
   ·have z7:decide ((0:Int)<(j:Int))=false:=decide_eq_false (by omega)
    have z8:decide (0<j)=false:=decide_eq_false (by omega);have bH:=sh (show ∀W,No (wr.alloc (.cells #[.int .i64 x1,.int .i64 x2] 62)).heap.size (wr.alloc (.cells #[.int .i64 x1,.int .i64 x2] 62)) W->W.cell? ⟨wr.heap.size,0,none⟩=some (.int .i64 x1)/\W.cell? ⟨wr.heap.size,1,none⟩=some (.int .i64 x2)/\W.cell? ⟨w.heap.size,x2,none⟩=some (.bool false) from fun W hW=>⟨(af (Bk.new wr 62 #[.int .i64 x1,.int .i64 x2]) hW).cell 0,(af (Bk.new wr 62 #[.int .i64 x1,.int .i64 x2]) hW).cell 1,(((ah.refl [] wr).alloc _).cell (p:=⟨w.heap.size,x2,none⟩) lsn (by simp) |> fun e=>(hW.cell (p:=⟨w.heap.size,x2,none⟩) (by simp;omega)).trans (e.trans CT))⟩);clear hI QY qk wR ey kp hx hxm CT gH Bi yz ID;go_wp2_with fail
    have al1:undef= .tuple #[]:=rfl;first
     | go_region_with (first
      | (go_at_call 214;refine(J9.out _).mono ?_;rintro e w3 ⟨rfl,aQ⟩;have dx:=sh ((IN (wr.alloc (.cells #[.int .i64 x1,.int .i64 x2] 62)).heap.size (wr.alloc (.cells #[.int .i64 x1,.int .i64 x2] 62))).drew.trans (aQ.mono (by simp)));obtain⟨v0,v1,v2⟩:=bH.out _ dx.out;clear aQ)
      | fail)
     | fail
    all_goals
     have jt:No wr.heap.size wr w3:=((IN _ wr).alloc (AS _) _).trans (dx.out.mono (by simp));have yx:=af (xR.out.alloc (.cells #[.int .i64 x1,.int .i64 x2] 62)) dx.out;obtain⟨v0,v1,v2⟩:=bH.out _ dx.out;have g1:=yx.frozen x2;have age:=yx.lt;have ln9:wr.heap.size<w3.heap.size:=by have:=dx.out.size;simp at this;omega
     have Yj:=sh (show Bk (w3.setCell ⟨w.heap.size,x2,none⟩ (.bool true)) w.heap.size 163 (ee (l.take (j+1))).toArray/\No w.heap.size w (w3.setCell ⟨w.heap.size,x2,none⟩ (.bool true)) from
      ⟨by rw[pO.out];exact yx.put x2 (.bool true),((ah.ae (FB.out.trans (jt.mono FB.out.size)) []).then ((ah.refl [w.heap.size] _).setCell (p:=⟨w.heap.size,x2,none⟩) (.inl (by simp)) (.bool true)) (fun g hg=>by rw[By]at hg;subst hg;exact .inr (AS _))).below (AS _) (by simp)⟩)
     clear yx jt;go_wp2_with fail
     go_roundw
     case rel=>first|exact⟨j+1,by go_num,by omega,Yj⟩|((repeat apply acD);exact⟨⟨j+1,by go_num,by omega,Yj⟩,rfl⟩)
     case measure=>simp[intOf];omega
   ·have z7:decide ((0:Int)<(j:Int))=true:=decide_eq_true (by omega)
    have z8:decide (0<j)=true:=decide_eq_true ID;obtain⟨k,F9⟩:∃k,j=k+1:=⟨j-1,by omega⟩;have dw:((j:Int)-1)=(k:Int):=by omega
    have bO:IntKind.i64.wrap ((j:Int)-1)=(k:Int):=by rw[dw,acC];omega
    have dx:(0:Int)<=(k:Int):=by omega
    have fE:(k:Int)<=(n:Int):=by omega
    obtain⟨b2,o2,F1,az,MR,O8⟩:=(HR.out.below gH).at k (by omega);injection F1 with F1;injection F1 with e1 e2;subst e1 e2;obtain⟨y,hy⟩:∃y,y=l[k]:=⟨_,rfl⟩;rw[<-hy]at MR O8;have dC:Fr.cmp y x<0:=by
     have h1:=Fr.xw HS.out k j (by omega) QB;rw[<-hy,<-hx,Fr.Lw]at h1;exact of_decide_eq_true h1
    obtain⟨z,hzc⟩:∃z,z=Fr.cmp y x:=⟨_,rfl⟩;have HO:=sh fun(W:World)=>tj y x W;rw[<-hzc]at dC HO;obtain⟨y1,abx⟩:∃y1,y1=y.1:=⟨_,rfl⟩;obtain⟨y2,aby⟩:∃y2,y2=y.2:=⟨_,rfl⟩;rw[<-abx]at MR HO;rw[<-aby]at O8 HO;rw[<-Bi,<-yz]at HO;have z9:decide ((0:Int)<=z)=false:=decide_eq_false (by omega);have OY:k<n:=by omega
    have SS:(k:Int)<(n:Int):=by omega
    have bH:=sh (show ∀W,No (wr.alloc (.cells #[.int .i64 x1,.int .i64 x2] 62)).heap.size (wr.alloc (.cells #[.int .i64 x1,.int .i64 x2] 62)) W->W.cell? ⟨wr.heap.size,0,none⟩=some (.int .i64 x1)/\W.cell? ⟨wr.heap.size,1,none⟩=some (.int .i64 x2)/\W.cell? ⟨w.heap.size,x2,none⟩=some (.bool false)/\W.cell? ⟨b,o+k*2,none⟩=some (.int .i64 y1)/\W.cell? ⟨b,o+k*2+1,none⟩=some (.int .i64 y2) from fun W hW=>⟨(af (Bk.new wr 62 #[.int .i64 x1,.int .i64 x2]) hW).cell 0,(af (Bk.new wr 62 #[.int .i64 x1,.int .i64 x2]) hW).cell 1,(((ah.refl [] wr).alloc _).cell (p:=⟨w.heap.size,x2,none⟩) lsn (by simp) |> fun e=>(hW.cell (p:=⟨w.heap.size,x2,none⟩) (by simp;omega)).trans (e.trans CT)),(hW.cell (p:=⟨b,o+k*2,none⟩) (by simp;omega)).trans ((((ah.refl [] wr).alloc _).cell (p:=⟨b,o+k*2,none⟩) hb (by simp)).trans MR),(hW.cell (p:=⟨b,o+k*2+1,none⟩) (by simp;omega)).trans ((((ah.refl [] wr).alloc _).cell (p:=⟨b,o+k*2+1,none⟩) hb (by simp)).trans O8)⟩);clear hI QY qk wR ey kp hx hxm CT gH Bi yz hy hzc abx aby F9;go_wp2_with fail
    have uV:IntKind.i64.wrap (k:Int)=(k:Int):=by rw[acC];omega
    go_region_held3 (fun W=>W.cell? ⟨wr.heap.size,0,none⟩=some (.int .i64 x1)/\W.cell? ⟨wr.heap.size,1,none⟩=some (.int .i64 x2)/\W.cell? ⟨w.heap.size,x2,none⟩=some (.bool false)/\W.cell? ⟨b,o+k*2,none⟩=some (.int .i64 y1)/\W.cell? ⟨b,o+k*2+1,none⟩=some (.int .i64 y2)) (first|exact bH.out _ (IN _ _).drew|exact bH.out _ dx.out|exact bH.out _ fE.out) (first
    | (go_at_call 214;refine(J9.out _).mono ?_;rintro e w3 ⟨rfl,aQ⟩;have dx:=sh ((IN (wr.alloc (.cells #[.int .i64 x1,.int .i64 x2] 62)).heap.size (wr.alloc (.cells #[.int .i64 x1,.int .i64 x2] 62))).drew.trans (aQ.mono (by simp)));clear aQ)
    | (go_at_call 216;refine(HO.out _).mono ?_;rintro e w4 ⟨rfl,b7⟩;have fE:=sh (dx.out.trans (b7.mono dx.out.size));clear b7)
    | fail)
    all_goals
     have jt:No wr.heap.size wr w4:=((IN _ wr).alloc (AS _) _).trans (fE.out.mono (by simp));have yx:=af (xR.out.alloc (.cells #[.int .i64 x1,.int .i64 x2] 62)) fE.out;obtain⟨v0,v1,v2,v3,v4⟩:=bH.out _ fE.out;have g1:=yx.frozen x2;have age:=yx.lt;have ln9:wr.heap.size<w4.heap.size:=by have:=fE.out.size;simp at this;omega
     have Yj:=sh (show Bk (w4.setCell ⟨w.heap.size,x2,none⟩ (.bool true)) w.heap.size 163 (ee (l.take (j+1))).toArray/\No w.heap.size w (w4.setCell ⟨w.heap.size,x2,none⟩ (.bool true)) from
      ⟨by rw[pO.out];exact yx.put x2 (.bool true),((ah.ae (FB.out.trans (jt.mono FB.out.size)) []).then ((ah.refl [w.heap.size] _).setCell (p:=⟨w.heap.size,x2,none⟩) (.inl (by simp)) (.bool true)) (fun g hg=>by rw[By]at hg;subst hg;exact .inr (AS _))).below (AS _) (by simp)⟩)
     clear yx jt;go_wp2_with fail
     go_roundw
     case rel=>first|exact⟨j+1,by go_num,by omega,Yj⟩|((repeat apply acD);exact⟨⟨j+1,by go_num,by omega,Yj⟩,rfl⟩)
     case measure=>simp[intOf];omega
  ·have z5:decide ((j:Int)<(n:Int))=false:=decide_eq_false (by omega)
   have HB:=sh hI.out.2;clear hI;go_wp2_with fail
   go_ret
   exact⟨rfl,HB.out⟩
end Go.Proofs.YtjbcbnemdhbhbaaGreatDoor
