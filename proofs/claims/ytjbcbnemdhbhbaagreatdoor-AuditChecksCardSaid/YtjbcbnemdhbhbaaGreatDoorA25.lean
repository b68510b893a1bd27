import Derived.Test.YtjbcbnemdhbhbaaGreatDoorA23
import Derived.Test.YtjbcbnemdhbhbaaGreatDoorA24
import Derived.Test.YtjbcbnemdhbhbaaGreatDoorA1
import Derived.Deep.RegionHeld3
set_option maxRecDepth 100000
set_option linter.unusedVariables false
set_option linter.unusedSimpArgs false
set_option maxHeartbeats 40000000
open Exists renaming intro→acA
open Go.IntKind renaming wrap_i64→acz
open Go.Lib renaming hid→sh
open Go.RowKit renaming Below→IT
open Go.RowKit.Below renaming refl→BY
open List renaming map_append→abI,mem_singleton→IN,take_succ_eq_append_getElem→aaU
open Nat renaming le_refl→AS
namespace Go.Proofs.YtjbcbnemdhbhbaaGreatDoor
open Go.Proofs.Tryz
open Go.RowKit
theorem Mh(l:List (Nat×Nat)){i:Nat}(h:i<512):(eg l).toArray[i]? =some (.bool (decide (i∈Fr.pg l))):=by
 simp[eg,Fr.Gu l h]
theorem Ej(l:List (Nat×Nat))(j:Nat)(hj:j<l.length):eg (l.take (j+1))=(eg (l.take j)).set l[j].2 (.bool true):=by
 unfold eg;rw[Fr.Bm (l.take j) (l.take (j+1)) (p:=l[j].2) (fun i=>by rw[aaU hj];unfold Fr.pg;rw[abI,List.mem_append];simp)];rw[List.map_set]
theorem QA{w:World}{A:Option Addr}{c:Nat}{l:List (Nat×Nat)}(next:Nat)(h:gi w A l)(hs:Fr.Sorted l)(hk:∀x∈l,Fr.ok x=true)(bI:(Fr.pg l).Nodup)(hl:l.length<=40)(hn:next<512):
  Calls prog 171 #[.int .i64 next,.slice A l.length c] w (fun e w'=>e= .returned (.bool true)/\IT w.heap.size w w'):=by
 have HR:=sh h;have HS:=sh hs;have HK:=sh hk;have pK:=sh bI;have z1:decide ((next:Int)<0)=false:=decide_eq_false (by omega);have z2:decide ((512:Int)<=(next:Int))=false:=decide_eq_false (by omega);have z2':decide (512<=next)=false:=decide_eq_false (by omega);obtain⟨n,rj⟩:∃n,n=l.length:=⟨_,rfl⟩;have HN:=sh rj;rw[<-rj]at hl |-;have z3:decide ((40:Int)<(n:Int))=false:=decide_eq_false (by omega);have z4:decide (40<n)=false:=decide_eq_false (by omega);have hz:Hid (∀W:World,Bk (W.alloc (.cells (Array.replicate 512 (.bool false)) 163)) W.heap.size 163 (eg []).toArray):=fun W=>by
  have e:Array.replicate 512 (Value.bool false)=(eg []).toArray:=by
   unfold eg;rw[Fr.Bn,List.map_replicate];rfl
  rw[<-e];exact Bk.new W _ _
 clear h hs hk bI hn rj;go_enter func171,ntmps171
 go_upto_region 5 with fail
 go_loopw [21] (fun i wr=>∃j:Nat,i= .int .i64 j/\j<=n/\Hid (Bk wr w.heap.size 163 (eg (l.take j)).toArray/\IT w.heap.size w wr)) (fun i _=>n-(intOf i).toNat)
 case atStart=>exact⟨0,rfl,Nat.zero_le _,sh ⟨hz.out w,(BY _ w).alloc (AS _) _⟩⟩
 case round=>
  obtain⟨j,rfl,hj,hI⟩:=hrel;by_cases aH:j<n
  ·
   have z5:decide ((j:Int)<(n:Int))=true:=decide_eq_true (by omega);have QT:j<l.length:=by have:=HN.out;omega
   have fV:=hI.out.2;obtain⟨b,o,hA,hb,Pz,PA⟩:=(HR.out.below fV).at j QT;obtain⟨x,hx⟩:∃x,x=l[j]:=⟨_,rfl⟩;rw[<-hx]at Pz PA;have M8:x∈l:=by rw[hx];exact List.getElem_mem QT
   have M9:=HK.out x M8;have TG:x.2<512:=by unfold Fr.ok at M9;simp at M9;omega
   have dY:l.take (j+1)=l.take j++[x]:=by rw[hx];exact aaU QT
   have qu:x.2∉Fr.pg (l.take j):=fun hm=>by
    have h1:(Fr.pg (l.take (j+1))).Nodup:=by
     refine List.Nodup.sublist ?_ pK.out;unfold Fr.pg;exact(List.take_sublist _ _).map _
    rw[dY]at h1;unfold Fr.pg at h1 hm;rw[abI]at h1;exact(List.nodup_append.1 h1).2.2 _ hm x.2 (by simp) rfl
   have sw:=hI.out.1;have pP:=(sw.cell x.2).trans (Mh (l.take j) TG);rw[decide_eq_false qu]at pP;have Z2:=sw.frozen x.2;have lsn:=sw.lt;have Ko:=sh fun(W:World)=>xB x W M9;obtain⟨x1,BP⟩:∃x1,x1=x.1:=⟨_,rfl⟩;obtain⟨x2,zh⟩:∃x2,x2=x.2:=⟨_,rfl⟩;rw[<-BP]at Pz Ko;rw[<-zh]at PA Ko pP Z2 TG;have kB:(eg (l.take (j+1))).toArray=(eg (l.take j)).toArray.setIfInBounds x2 (.bool true):=by
    rw[Ej l j QT,zh,hx];simp
   have pX:=sh kB;have sJ:=sh sw;have FY:=sh fV;have z6:(x2:Int)<512:=by omega
   subst hA;rcases Nat.eq_zero_or_pos j with I2|I2
   ·have z7:decide ((0:Int)<(j:Int))=false:=decide_eq_false (by omega)
    have z8:decide (0<j)=false:=decide_eq_false (by omega);have bD:=sh (show ∀W,IT (wr.alloc (.cells #[.int .i64 x1,.int .i64 x2] 62)).heap.size (wr.alloc (.cells #[.int .i64 x1,.int .i64 x2] 62)) W->W.cell? ⟨wr.heap.size,0,none⟩=some (.int .i64 x1)/\W.cell? ⟨wr.heap.size,1,none⟩=some (.int .i64 x2)/\W.cell? ⟨w.heap.size,x2,none⟩=some (.bool false) from fun W hW=>⟨(ae (Bk.new wr 62 #[.int .i64 x1,.int .i64 x2]) hW).cell 0,(ae (Bk.new wr 62 #[.int .i64 x1,.int .i64 x2]) hW).cell 1,(((ah.refl [] wr).alloc _).cell (p:=⟨w.heap.size,x2,none⟩) lsn (by simp) |> fun e=>(hW.cell (p:=⟨w.heap.size,x2,none⟩) (by simp;omega)).trans (e.trans pP))⟩);clear hI M9 qu sw dY kB hx M8 pP fV BP zh I2;go_wp2_with fail
    have amf:undef= .tuple #[]:=rfl;first
     | go_region_with (first
      | (go_at_call 214;refine(Ko.out _).mono ?_;rintro e w3 ⟨rfl,aN⟩;have cO:=sh ((BY (wr.alloc (.cells #[.int .i64 x1,.int .i64 x2] 62)).heap.size (wr.alloc (.cells #[.int .i64 x1,.int .i64 x2] 62))).drew.trans (aN.mono (by simp)));obtain⟨v0,v1,v2⟩:=bD.out _ cO.out;clear aN)
      | fail)
     | fail
    all_goals
     have sU:IT wr.heap.size wr w3:=((BY _ wr).alloc (AS _) _).trans (cO.out.mono (by simp));have zg:=ae (sJ.out.alloc (.cells #[.int .i64 x1,.int .i64 x2] 62)) cO.out;obtain⟨v0,v1,v2⟩:=bD.out _ cO.out;have g1:=zg.frozen x2;have agf:=zg.lt;have ln9:wr.heap.size<w3.heap.size:=by have:=cO.out.size;simp at this;omega
     have Yj:=sh (show Bk (w3.setCell ⟨w.heap.size,x2,none⟩ (.bool true)) w.heap.size 163 (eg (l.take (j+1))).toArray/\IT w.heap.size w (w3.setCell ⟨w.heap.size,x2,none⟩ (.bool true)) from
      ⟨by rw[pX.out];exact zg.put x2 (.bool true),((ah.af (FY.out.trans (sU.mono FY.out.size)) []).then ((ah.refl [w.heap.size] _).setCell (p:=⟨w.heap.size,x2,none⟩) (.inl (by simp)) (.bool true)) (fun g hg=>by rw[IN]at hg;subst hg;exact .inr (AS _))).below (AS _) (by simp)⟩)
     clear zg sU;go_wp2_with fail
     go_roundw
     case rel=>first|exact⟨j+1,by go_num,by omega,Yj⟩|((repeat apply acA);exact⟨⟨j+1,by go_num,by omega,Yj⟩,rfl⟩)
     case measure=>simp[intOf];omega
   ·have z7:decide ((0:Int)<(j:Int))=true:=decide_eq_true (by omega)
    have z8:decide (0<j)=true:=decide_eq_true I2;obtain⟨k,Gx⟩:∃k,j=k+1:=⟨j-1,by omega⟩;have dy:((j:Int)-1)=(k:Int):=by omega
    have bR:IntKind.i64.wrap ((j:Int)-1)=(k:Int):=by rw[dy,acz];omega
    have cO:(0:Int)<=(k:Int):=by omega
    have dO:(k:Int)<=(n:Int):=by omega
    obtain⟨b2,o2,Gp,aC,Na,PB⟩:=(HR.out.below fV).at k (by omega);injection Gp with Gp;injection Gp with e1 e2;subst e1 e2;obtain⟨y,hy⟩:∃y,y=l[k]:=⟨_,rfl⟩;rw[<-hy]at Na PB;have cI:Fr.cmp y x<0:=by
     have h1:=Fr.yi HS.out k j (by omega) QT;rw[<-hy,<-hx,Fr.LF]at h1;exact of_decide_eq_true h1
    obtain⟨z,hzc⟩:∃z,z=Fr.cmp y x:=⟨_,rfl⟩;have HO:=sh fun(W:World)=>ud y x W;rw[<-hzc]at cI HO;obtain⟨y1,abt⟩:∃y1,y1=y.1:=⟨_,rfl⟩;obtain⟨y2,abu⟩:∃y2,y2=y.2:=⟨_,rfl⟩;rw[<-abt]at Na HO;rw[<-abu]at PB HO;rw[<-BP,<-zh]at HO;have z9:decide ((0:Int)<=z)=false:=decide_eq_false (by omega);have Pk:k<n:=by omega
    have SW:(k:Int)<(n:Int):=by omega
    have bD:=sh (show ∀W,IT (wr.alloc (.cells #[.int .i64 x1,.int .i64 x2] 62)).heap.size (wr.alloc (.cells #[.int .i64 x1,.int .i64 x2] 62)) W->W.cell? ⟨wr.heap.size,0,none⟩=some (.int .i64 x1)/\W.cell? ⟨wr.heap.size,1,none⟩=some (.int .i64 x2)/\W.cell? ⟨w.heap.size,x2,none⟩=some (.bool false)/\W.cell? ⟨b,o+k*2,none⟩=some (.int .i64 y1)/\W.cell? ⟨b,o+k*2+1,none⟩=some (.int .i64 y2) from fun W hW=>⟨(ae (Bk.new wr 62 #[.int .i64 x1,.int .i64 x2]) hW).cell 0,(ae (Bk.new wr 62 #[.int .i64 x1,.int .i64 x2]) hW).cell 1,(((ah.refl [] wr).alloc _).cell (p:=⟨w.heap.size,x2,none⟩) lsn (by simp) |> fun e=>(hW.cell (p:=⟨w.heap.size,x2,none⟩) (by simp;omega)).trans (e.trans pP)),(hW.cell (p:=⟨b,o+k*2,none⟩) (by simp;omega)).trans ((((ah.refl [] wr).alloc _).cell (p:=⟨b,o+k*2,none⟩) hb (by simp)).trans Na),(hW.cell (p:=⟨b,o+k*2+1,none⟩) (by simp;omega)).trans ((((ah.refl [] wr).alloc _).cell (p:=⟨b,o+k*2+1,none⟩) hb (by simp)).trans PB)⟩);clear hI M9 qu sw dY kB hx M8 pP fV BP zh hy hzc abt abu Gx;go_wp2_with fail
    have rf:IntKind.i64.wrap (k:Int)=(k:Int):=by rw[acz];omega
    go_region_held3 (fun W=>W.cell? ⟨wr.heap.size,0,none⟩=some (.int .i64 x1)/\W.cell? ⟨wr.heap.size,1,none⟩=some (.int .i64 x2)/\W.cell? ⟨w.heap.size,x2,none⟩=some (.bool false)/\W.cell? ⟨b,o+k*2,none⟩=some (.int .i64 y1)/\W.cell? ⟨b,o+k*2+1,none⟩=some (.int .i64 y2)) (first|exact bD.out _ (BY _ _).drew|exact bD.out _ cO.out|exact bD.out _ dO.out) (first
    | (go_at_call 214;refine(Ko.out _).mono ?_;rintro e w3 ⟨rfl,aN⟩;have cO:=sh ((BY (wr.alloc (.cells #[.int .i64 x1,.int .i64 x2] 62)).heap.size (wr.alloc (.cells #[.int .i64 x1,.int .i64 x2] 62))).drew.trans (aN.mono (by simp)));clear aN)
    | (go_at_call 216;refine(HO.out _).mono ?_;rintro e w4 ⟨rfl,bT⟩;have dO:=sh (cO.out.trans (bT.mono cO.out.size));clear bT)
    | fail)
    all_goals
     have sU:IT wr.heap.size wr w4:=((BY _ wr).alloc (AS _) _).trans (dO.out.mono (by simp));have zg:=ae (sJ.out.alloc (.cells #[.int .i64 x1,.int .i64 x2] 62)) dO.out;obtain⟨v0,v1,v2,v3,v4⟩:=bD.out _ dO.out;have g1:=zg.frozen x2;have agf:=zg.lt;have ln9:wr.heap.size<w4.heap.size:=by have:=dO.out.size;simp at this;omega
     have Yj:=sh (show Bk (w4.setCell ⟨w.heap.size,x2,none⟩ (.bool true)) w.heap.size 163 (eg (l.take (j+1))).toArray/\IT w.heap.size w (w4.setCell ⟨w.heap.size,x2,none⟩ (.bool true)) from
      ⟨by rw[pX.out];exact zg.put x2 (.bool true),((ah.af (FY.out.trans (sU.mono FY.out.size)) []).then ((ah.refl [w.heap.size] _).setCell (p:=⟨w.heap.size,x2,none⟩) (.inl (by simp)) (.bool true)) (fun g hg=>by rw[IN]at hg;subst hg;exact .inr (AS _))).below (AS _) (by simp)⟩)
     clear zg sU;go_wp2_with fail
     go_roundw
     case rel=>first|exact⟨j+1,by go_num,by omega,Yj⟩|((repeat apply acA);exact⟨⟨j+1,by go_num,by omega,Yj⟩,rfl⟩)
     case measure=>simp[intOf];omega
  ·have z5:decide ((j:Int)<(n:Int))=false:=decide_eq_false (by omega)
   have HB:=sh hI.out.2;clear hI;go_wp2_with fail
   go_ret
   exact⟨rfl,HB.out⟩
end Go.Proofs.YtjbcbnemdhbhbaaGreatDoor
